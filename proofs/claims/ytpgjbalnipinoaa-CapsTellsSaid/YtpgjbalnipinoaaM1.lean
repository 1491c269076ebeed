import Derived.WalkKit
import Derived.WalkSpells
import Derived.WalkLawsBesides
import Derived.Lib.Hide
import Derived.Handy
import Derived.PlainAid
import Derived.RangeFuncNested
import Derived.RangeFuncCalls
import Derived.RangeFuncBound
import Derived.RangeFuncLeaves
import Derived.OrdersIn
import Derived.RangeFuncIn
import Derived.Laws.CopyOwn
import Derived.Great.BuildSlice
import Derived.Laws.StructEq
import Derived.ProofKit
import Derived.OpenShut
import Derived.Deep.Slices
import Derived.Deep.Fields
import Derived.Carry
/-
  A small calculus: what code does to temporaries and to blocks of its own. Conditions: none.
  States: what each temporary holds; the blocks that are known (boxes, rows that may grow); what is said of other memory, that nobody turns.
-/
namespace Go.Proofs.Ytpgjbalnipinoaa
open Go.Proofs Go.RowKit

def Blk (w : World) (b : Nat) (vs : Array Value) (t : TypeId) : Prop := w.heap[b]? = some (.cells vs t (0, 0))
theorem Blk.lt {w : World} {b : Nat} {vs : Array Value} {t : TypeId} (h : Blk w b vs t) : b < w.heap.size := lt_of_block h
theorem Blk.cell {w : World} {b : Nat} {vs : Array Value} {t : TypeId} (h : Blk w b vs t) (o : Nat) (v : Value) (hv : vs[o]? = some v) : w.cell? ⟨b, o, none⟩ = some v := by
  simp [World.cell?, show w.heap[b]? = _ from h, hv]
theorem Blk.free {w : World} {b : Nat} {vs : Array Value} {t : TypeId} (h : Blk w b vs t) (o : Nat) : w.frozen? ⟨b, o, none⟩ = false := by
  simp [World.frozen?, show w.heap[b]? = _ from h]
theorem Blk.new (w : World) (vs : Array Value) (t : TypeId) : Blk (w.alloc (.cells vs t)) w.heap.size vs t := by
  show (w.heap.push _)[w.heap.size]? = _
  simp

/-- a block that is the code's own; or two rows that were made by one call -/
inductive Hp where
  | box (b : Nat) (T : TypeId) (cs : List Value)
  | own (v : Value) (E : TypeId) (esz n : Nat) (xs : List Value)
  | two (v : Value) (E : TypeId) (esz n : Nat) (xs : List Value) (u : Value) (E' : TypeId) (esz' n' : Nat) (xs' : List Value)
  | said (G : World → Prop) (B : Nat → Prop)

/-- it lies in this block -/
def Hp.has : Hp → Nat → Prop
  | .box b _ _ => fun b' => some b = some b'
  | .own v _ _ _ _ => fun b' => v.ownBlock = some b'
  | .two v _ _ _ _ u _ _ _ _ => fun b' => v.ownBlock = some b' ∨ u.ownBlock = some b'
  | .said _ B => B
/-- what is said of some blocks, and bears all that leaves these alone -/
def SaidOk (w : World) (G : World → Prop) (B : Nat → Prop) : Prop := G w ∧ (∀ b, B b → ∃ o, w.heap[b]? = some o ∧ o.isCells = true) ∧ ∀ w1 w2 : World, G w1 → (∀ b, B b → w2.heap[b]? = w1.heap[b]?) → G w2
def OwnOk (w : World) (v : Value) (E : TypeId) (esz n : Nat) (xs : List Value) : Prop := w.ownsRow 0 E esz v n xs ∧ ∀ u ∈ xs, u.oneCell' = true
def Hp.ok (w : World) : Hp → Prop
  | .box b T cs => Blk w b cs.toArray T
  | .own v E esz n xs => w.ownsRow 0 E esz v n xs ∧ ∀ u ∈ xs, u.oneCell' = true
  | .two v E esz n xs u E' esz' n' xs' => OwnOk w v E esz n xs ∧ OwnOk w u E' esz' n' xs'
  | .said G B => SaidOk w G B

theorem OwnOk.keep {w w' : World} {v : Value} {E : TypeId} {esz n : Nat} {xs : List Value} (ho : OwnOk w v E esz n xs) (hb : ∀ b, v.ownBlock = some b → w'.heap[b]? = w.heap[b]?) : OwnOk w' v E esz n xs := by
  refine ⟨⟨ho.1.1, ?_⟩, ho.2⟩
  rcases ho.1.2 with h | ⟨g, cap, cur, rfl, h0, hg, r⟩
  · exact .inl h
  · exact .inr ⟨g, cap, cur, rfl, h0, (hb g rfl).trans hg, r⟩
theorem OwnOk.isCells {w : World} {v : Value} {E : TypeId} {esz n : Nat} {xs : List Value} (ho : OwnOk w v E esz n xs) {b : Nat} (hb : v.ownBlock = some b) : ∃ o, w.heap[b]? = some o ∧ o.isCells = true := by
  rcases ho.1.2 with ⟨rfl, _⟩ | ⟨g, cap, cur, rfl, h0, hg, r⟩
  · simp [Value.ownBlock] at hb
  · simp [Value.ownBlock] at hb; subst hb; exact ⟨_, hg, rfl⟩
theorem Hp.keep {w w' : World} {h : Hp} (ho : h.ok w) (hb : ∀ b, h.has b → w'.heap[b]? = w.heap[b]?) : h.ok w' := by
  cases h with
  | box b T cs => exact (hb b rfl).trans ho
  | own v E esz n xs => exact OwnOk.keep ho hb
  | two v E esz n xs u E' esz' n' xs' => exact ⟨ho.1.keep fun b h => hb b (.inl h), ho.2.keep fun b h => hb b (.inr h)⟩
  | said G B => exact ⟨ho.2.2 _ _ ho.1 hb, fun b h => by rw [hb b h]; exact ho.2.1 b h, ho.2.2⟩
theorem Hp.lt {w : World} {h : Hp} (ho : h.ok w) {b : Nat} (hb : h.has b) : b < w.heap.size := by
  cases h with
  | box b' T cs => cases hb; exact Blk.lt ho
  | own v E esz n xs => exact (ho.1.lt b hb).2
  | two v E esz n xs u E' esz' n' xs' => exact hb.elim (fun h => (ho.1.1.lt b h).2) (fun h => (ho.2.1.lt b h).2)
  | said G B => exact (Array.getElem?_eq_some_iff.1 (ho.2.1 b hb).choose_spec.1).1
theorem Hp.isCells {w : World} {h : Hp} (ho : h.ok w) {b : Nat} (hb : h.has b) : ∃ o, w.heap[b]? = some o ∧ o.isCells = true := by
  cases h with
  | box b' T cs => cases hb; exact ⟨_, ho, rfl⟩
  | own v E esz n xs => exact OwnOk.isCells ho hb
  | two v E esz n xs u E' esz' n' xs' => exact hb.elim ho.1.isCells ho.2.isCells
  | said G B => exact ho.2.1 b hb

structure St where
  l : Nat → Option Value
  m : Nat → Option Hp
  g : World → Prop
  gb : Nat → Prop
  d : List Nat

def updN {α : Type} (f : Nat → α) (i : Nat) (x : α) : Nat → α := fun j => match Nat.beq j i with | true => x | false => f j
theorem updN_same {α : Type} (f : Nat → α) (i : Nat) (x : α) : updN f i x i = x := by
  have : Nat.beq i i = true := Nat.beq_refl i
  simp [updN, this]
theorem updN_other {α : Type} (f : Nat → α) {i j : Nat} (x : α) (h : j ≠ i) : updN f i x j = f j := by
  have : Nat.beq j i = false := by
    cases hb : Nat.beq j i
    · rfl
    · exact absurd (Nat.eq_of_beq_eq_true hb) h
  simp [updN, this]
theorem updN_comm {α : Type} (f : Nat → α) {i j : Nat} (x y : α) (h : i ≠ j) : updN (updN f i x) j y = updN (updN f j y) i x := by
  funext k
  by_cases hi : k = i
  · subst hi; rw [updN_other _ _ h, updN_same, updN_same]
  · by_cases hj : k = j
    · subst hj; rw [updN_same, updN_other _ _ hi, updN_same]
    · rw [updN_other _ _ hj, updN_other _ _ hi, updN_other _ _ hi, updN_other _ _ hj]

abbrev Wr := Option (Nat × Hp)
def St.put (s : St) (d : Option Nat) (x : Value) : St := match d with | some i => { s with l := updN s.l i (some x) } | none => s
def St.mem (s : St) (wr : Wr) : St := match wr with | some (k, h) => { s with m := updN s.m k (some h) } | none => s

/-- blocks that S does not name lie as they lay -/
structure Chg (S : Nat → Prop) (w w' : World) : Prop where
  os : w'.os = w.os
  tape : w'.tape = w.tape
  output : w'.output = w.output
  size : w.heap.size ≤ w'.heap.size
  block : ∀ k, k < w.heap.size → ¬ S k → w'.heap[k]? = w.heap[k]?

theorem Chg.refl (S : Nat → Prop) (w : World) : Chg S w w := ⟨rfl, rfl, rfl, Nat.le_refl _, fun _ _ _ => rfl⟩
theorem Chg.of_below {S : Nat → Prop} {w w' : World} (h : Below w.heap.size w w') : Chg S w w' := ⟨h.os, h.tape, h.output, h.size, fun k hk _ => h.block k hk⟩
theorem Chg.below {w w' : World} (h : Chg (fun _ => False) w w') : Below w.heap.size w w' := ⟨h.os, h.tape, h.output, h.size, fun k hk => h.block k hk (fun h => h)⟩
theorem Chg.mono {S S' : Nat → Prop} {w w' : World} (h : Chg S w w') (hs : ∀ k, k < w.heap.size → S k → S' k) : Chg S' w w' := ⟨h.os, h.tape, h.output, h.size, fun k hk hn => h.block k hk fun h' => hn (hs k hk h')⟩
theorem Chg.trans {S : Nat → Prop} {a b c : World} (h : Chg S a b) (k : Chg (fun i => S i ∨ a.heap.size ≤ i) b c) : Chg S a c :=
  ⟨k.os.trans h.os, k.tape.trans h.tape, k.output.trans h.output, Nat.le_trans h.size k.size, fun i hi hn => (k.block i (Nat.lt_of_lt_of_le hi h.size) (by rintro (h | h); exact hn h; omega)).trans (h.block i hi hn)⟩
theorem Chg.keeps {S : Nat → Prop} {w w' : World} (h : Chg S w w') (hc : ∀ b, S b → ∀ o, w.heap[b]? = some o → o.isCells = true) : KeepsOthers w w' :=
  ⟨h.size, fun k o hk ho => by
    have hlt := (Array.getElem?_eq_some_iff.1 hk).1
    exact (h.block k hlt fun hs => by have := hc k hs o hk; rw [ho] at this; cases this).trans hk⟩
theorem Chg.grown {w w' : World} {row : Option Nat} (h : w.grownBy w' row) : Chg (fun b => row = some b) w w' := ⟨h.os, h.tape, h.output, h.size, fun k hk hn => h.block k hk fun e => hn e.symm⟩
theorem Chg.alloc (S : Nat → Prop) (w : World) (o : Obj) : Chg S w (w.alloc o) := ⟨rfl, rfl, rfl, by simp, fun k hk _ => Below.heap_alloc w o k hk⟩
theorem Chg.setRow (w : World) (b : Nat) (cs : Array Value) : Chg (fun k => k = b) w (w.setRow b cs) := ⟨rfl, rfl, rfl, by simp, fun k _ hn => setRow_other w b k _ hn⟩

structure Cx where
  P : Program
  w0 : World
  N : Nat
  n : Nat
  ro : Option Nat
  W : Nat → Prop
  kp : Prop
def Cx.own (C : Cx) (b : Nat) : Prop := C.w0.heap.size ≤ b ∨ C.W b
/-- the fence: none, or a round's -/
def Cx.F (C : Cx) : Fence := match C.ro with | none => Fence.wide | some l => Fence.wide.inRound l
theorem Cx.all (C : Cx) (f : FuncId) : C.F.fn f := by unfold Cx.F; split <;> trivial
theorem Cx.nod (C : Cx) : C.F.depth = none := by unfold Cx.F; split <;> rfl
theorem Cx.rnd (C : Cx) : C.F.round = C.ro := by unfold Cx.F; split <;> (rename_i h; rw [h]; rfl)
theorem Cx.callsIn (C : Cx) {n : Nat} {f : FuncId} {args : Array Value} {w : World} {R : Ending → World → Prop} (h : Calls C.P f args w R) : CallsIn C.F n C.P f args w R := by
  unfold Cx.F; split
  · exact callsIn_wide.2 h
  · exact CallsIn.inRound _ (callsIn_wide.2 h)

def mark (D : Nat) : Deferred := { target := .collected D, args := #[] }

structure Rep (C : Cx) (s : St) (a : Act) (w : World) : Prop where
  dfs : a.defers = s.d.map mark
  dd : ∀ D ∈ s.d, w.heap[D]? = some (.deferred (some []))
  dg : ∀ D ∈ s.d, C.w0.heap.size ≤ D ∧ ¬ s.gb D
  dn : s.d.Nodup
  sz : a.tmps.size = C.N
  tm : ∀ i v, i < C.N → s.l i = some v → a.tmps.getD i undef = v
  mo : ∀ k h, s.m k = some h → h.ok w ∧ ∀ b, h.has b → C.own b
  inj : ∀ k k' h h' b, s.m k = some h → s.m k' = some h' → h.has b → h'.has b → k = k'
  gh : s.g w
  gd : ∀ b, s.gb b → b < w.heap.size ∧ ∀ k h, s.m k = some h → ¬ h.has b
  st : ∀ w w' : World, Chg (fun b => ¬ s.gb b) w w' → s.g w → s.g w'
  fr : Chg C.W C.w0 w
  ko : C.kp → KeepsOthers C.w0 w

variable {C : Cx} {s : St} {a : Act} {w w' : World}

theorem rep_chg (hr : Rep C s a w) (S : Nat → Prop) (hc : Chg S w w') (hS : ∀ b, S b → b < w.heap.size → C.own b ∧ ¬ s.gb b ∧ ∀ o, w.heap[b]? = some o → o.isCells = true) (m' : Nat → Option Hp)
    (hm : ∀ k h, m' k = some h → (s.m k = some h ∧ ∀ b, h.has b → ¬ S b) ∨ (h.ok w' ∧ ∀ b, h.has b → (S b ∧ b < w.heap.size) ∨ w.heap.size ≤ b))
    (hinj : ∀ k k' h h' b, m' k = some h → m' k' = some h' → h.has b → h'.has b → k = k') : Rep C { s with m := m' } a w' := by
  have hk : KeepsOthers w w' := ⟨hc.size, fun k o hk ho => by
    have hlt := (Array.getElem?_eq_some_iff.1 hk).1
    exact (hc.block k hlt fun hs => by have := (hS k hs hlt).2.2 o hk; rw [ho] at this; cases this).trans hk⟩
  have hw0 := hr.fr.size
  refine ⟨hr.dfs, fun D hD => hk.same D _ (hr.dd D hD) rfl, hr.dg, hr.dn, hr.sz, hr.tm, fun k h hh => ?_, hinj, ?_, fun b hb => ⟨Nat.lt_of_lt_of_le (hr.gd b hb).1 hc.size, fun k h hh e => ?_⟩, hr.st, ?_, fun hp => (hr.ko hp).trans hk⟩
  · rcases hm k h hh with ⟨h1, h2⟩ | ⟨h1, h2⟩
    · have := hr.mo k h h1
      exact ⟨Hp.keep this.1 fun b hb => hc.block b (Hp.lt this.1 hb) (h2 b hb), this.2⟩
    · refine ⟨h1, fun b hb => ?_⟩
      rcases h2 b hb with h | h
      · exact (hS b h.1 h.2).1
      · exact .inl (Nat.le_trans hw0 h)
  · refine hr.st w w' ⟨hc.os, hc.tape, hc.output, hc.size, fun k hk' hn => ?_⟩ hr.gh
    exact hc.block k hk' fun hs => hn fun hg => (hS k hs hk').2.1 hg
  · rcases hm k h hh with ⟨h1, h2⟩ | ⟨h1, h2⟩
    · exact (hr.gd b hb).2 k h h1 e
    · rcases h2 b e with h | h
      · exact (hS b h.1 h.2).2.1 hb
      · have := (hr.gd b hb).1; omega
  · refine hr.fr.trans ⟨hc.os, hc.tape, hc.output, hc.size, fun k hk' hn => hc.block k hk' fun hs => hn ?_⟩
    rcases (hS k hs hk').1 with h | h
    · exact .inr h
    · exact .inl h

theorem rep_put (hr : Rep C s a w) (d : Option Nat) (x : Value) : Rep C (s.put d x) (a.put d x) w := by
  cases d with
  | none => exact hr
  | some d =>
    refine ⟨hr.dfs, hr.dd, hr.dg, hr.dn, by simp [Act.put, hr.sz], fun i v hi hv => ?_, hr.mo, hr.inj, hr.gh, hr.gd, hr.st, hr.fr, hr.ko⟩
    simp only [St.put, Act.put] at hv ⊢
    by_cases e : i = d
    · subst e
      rw [updN_same] at hv
      cases hv
      simp [Array.getD_eq_getD_getElem?, hr.sz, hi]
    · rw [updN_other _ _ e] at hv
      have : (a.tmps.setIfInBounds d x).getD i undef = a.tmps.getD i undef := by
        simp [Array.getD_eq_getD_getElem?, Array.getElem?_setIfInBounds_ne (Ne.symm e)]
      rw [this]; exact hr.tm i v hi hv
theorem rep_drew (hr : Rep C s a w) : Rep C s a { w with drawn := w.drawn + 1 } :=
  rep_chg (w' := { w with drawn := w.drawn + 1 }) hr (fun _ => False) ⟨rfl, rfl, rfl, Nat.le_refl _, fun _ _ _ => rfl⟩ (fun _ h => h.elim) s.m (fun _ _ h => .inl ⟨h, fun _ _ h => h⟩) hr.inj
theorem rep_below (hr : Rep C s a w) (hb : Below w.heap.size w w') : Rep C s a w' :=
  rep_chg hr (fun _ => False) (Chg.of_below hb) (fun _ h => h.elim) s.m (fun _ _ h => .inl ⟨h, fun _ _ h => h⟩) hr.inj

/-- to say less -/
structure Le (s s' : St) : Prop where
  l : ∀ i v, s'.l i = some v → s.l i = some v
  m : ∀ k h, s'.m k = some h → s.m k = some h
  g : s'.g = s.g
  gb : s'.gb = s.gb
  d : s'.d = s.d
theorem rep_le {s' : St} (hr : Rep C s a w) (h : Le s s') : Rep C s' a w := by
  obtain ⟨l', m', g', gb', d'⟩ := s'
  obtain ⟨h1, h2, rfl, rfl, rfl⟩ := h
  exact ⟨hr.dfs, hr.dd, hr.dg, hr.dn, hr.sz, fun i v hi hv => hr.tm i v hi (h1 i v hv), fun k h hh => hr.mo k h (h2 k h hh), fun k k' h h' b e e' => hr.inj k k' h h' b (h2 _ _ e) (h2 _ _ e'), hr.gh, fun b hb => ⟨(hr.gd b hb).1, fun k h hh => (hr.gd b hb).2 k h (h2 _ _ hh)⟩, hr.st, hr.fr, hr.ko⟩

/-- what code is asked for -/
def Post (C : Cx) (K : Exit → St → Prop) (e : Exit) (a : Act) (w : World) : Prop := ∃ s, Rep C s a w ∧ K e s
def V (C : Cx) (c : Code) (K : Exit → St → Prop) (s : St) : Prop := ∀ a w, Rep C s a w → c.wpIn C.F C.n C.P (Post C K) a w
def VL (C : Cx) (ops : Array Oper) (rest : List Oper) (K : Exit → St → Prop) (s : St) : Prop := ∀ a w, Rep C s a w → wpListIn C.F C.n C.P ops (Post C K) rest a w

def thenK (next : St → Prop) (K : Exit → St → Prop) : Exit → St → Prop
  | .normal, s => next s
  | e, s => K e s
def blockK (id : Nat) (K : Exit → St → Prop) : Exit → St → Prop
  | .exit id', s => if id' = id then K .normal s else K (.exit id') s
  | e, s => K e s

variable {K : Exit → St → Prop}

theorem V.mono {c : Code} {K' : Exit → St → Prop} (h : V C c K s) (hk : ∀ e s, K e s → K' e s) : V C c K' s :=
  fun a w hr => wpIn_mono (h a w hr) (fun _ _ _ ⟨s', h1, h2⟩ => ⟨s', h1, hk _ _ h2⟩)
theorem V.le {c : Code} {s' : St} (h : V C c K s') (hl : Le s s') : V C c K s := fun a w hr => h a w (rep_le hr hl)
theorem VL.le {ops : Array Oper} {rest : List Oper} {s' : St} (h : VL C ops rest K s') (hl : Le s s') : VL C ops rest K s := fun a w hr => h a w (rep_le hr hl)

theorem v_seq {x y : Code} (h : V C x (thenK (V C y K) K) s) : V C (.seq x y) K s := by
  intro a w hr
  refine wpIn_seq (wpIn_mono (h a w hr) ?_)
  rintro e a' w' ⟨s', hr', hk⟩
  cases e <;> first | exact hk _ _ hr' | exact ⟨s', hr', hk⟩
theorem v_skip (h : K .normal s) : V C .skip K s := fun a w hr => wpIn_skip ⟨s, hr, h⟩
theorem v_exit {id : Nat} (h : K (.exit id) s) : V C (.exit id) K s := fun a w hr => wpIn_exit ⟨s, hr, h⟩
theorem v_ret (h : K .ret s) : V C .ret K s := fun a w hr => wpIn_ret ⟨s, hr, h⟩
theorem v_block {id : Nat} {c : Code} (h : V C c (blockK id K) s) : V C (.block id c) K s := by
  intro a w hr
  refine wpIn_block (wpIn_mono (h a w hr) ?_)
  rintro e a' w' ⟨s', hr', hk⟩
  cases e with
  | exit id' =>
    simp only [blockK] at hk
    simp only [Exit.inBlock]
    split
    · rename_i h; rw [if_pos h] at hk; exact ⟨s', hr', hk⟩
    · rename_i h; rw [if_neg h] at hk; exact ⟨s', hr', hk⟩
  | _ => exact ⟨s', hr', hk⟩

def ev (C : Cx) (s : St) : Operand → Option Value
  | .tmp t => match Nat.blt t C.N with | true => s.l t | false => none
  | .const x => some x
  | .global g => some (.pointer (some ⟨g, 0, none⟩))
  | .func f => some (.func (.func f) #[] #[])
theorem ev_ok (hr : Rep C s a w) {x : Operand} {v : Value} (h : ev C s x = some v) : a.eval x = v := by
  cases x with
  | tmp t =>
    simp only [ev] at h
    split at h
    · rename_i hb; exact hr.tm t v (by simpa [Nat.blt_eq] using hb) h
    · cases h
  | const v => cases h; rfl
  | global g => cases h; rfl
  | func f => cases h; rfl
theorem v_cond {c : Operand} {x y : Code} (b : Bool) (hc : ev C s c = some (.bool b)) (ht : b = true → V C x K s) (hf : b = false → V C y K s) : V C (.cond c x y) K s :=
  fun a w hr => wpIn_cond_split (t := b) (ev_ok hr hc) (fun h => ht h a w hr) (fun h => hf h a w hr)

/-- A LOOP -/
theorem v_loop {c : Code} (I : St → Prop) (μ : St → Nat) (h0 : I s)
    (round : ∀ s, I s → V C c (thenK (fun s' => I s' ∧ μ s' < μ s) K) s) : V C (.loop c) K s := by
  intro a w hr b k cs hro hb hrm
  have key : ∀ j s a w, μ s = j → I s → Rep C s a w →
      ∃ e a' w', Post C K e a' w' ∧ ArrivesIn (Machine.fenced C.P C.F) C.P (lone (b.atR a (.code c :: .inLoop c :: k)) cs w) b k cs e a' w' := by
    intro j
    induction j using Nat.strongRecOn with
    | _ j ih =>
      intro s a w hn hI hr
      obtain ⟨e, a₁, w₁, ⟨s₁, hr₁, hk⟩, harr⟩ := round s hI a w hr b (.inLoop c :: k) cs hro hb hrm
      cases e with
      | normal =>
        obtain ⟨hI₁, hlt⟩ := hk
        obtain ⟨e₂, a₂, w₂, hq₂, harr₂⟩ := ih (μ s₁) (hn ▸ hlt) s₁ a₁ w₁ rfl hI₁ hr₁
        exact ⟨e₂, a₂, w₂, hq₂, .of_steps (StepsIn.trans harr (.one (fenced_calm hb hrm rfl) stepR_inLoop)) harr₂⟩
      | exit id => exact ⟨_, a₁, w₁, ⟨s₁, hr₁, hk⟩, .pass (x := .inLoop c) rfl (fun _ _ => .inl (by simp)) harr⟩
      | goto l => exact ⟨_, a₁, w₁, ⟨s₁, hr₁, hk⟩, .pass (x := .inLoop c) rfl (fun _ _ => .inl (by simp)) harr⟩
      | ret => exact ⟨_, a₁, w₁, ⟨s₁, hr₁, hk⟩, .pass (x := .inLoop c) rfl (fun _ _ => .inl (by simp)) harr⟩
      | panic ch => exact ⟨_, a₁, w₁, ⟨s₁, hr₁, hk⟩, .pass (x := .inLoop c) rfl (fun _ _ => .inl (by simp)) harr⟩
      | outgrown => exact ⟨_, a₁, w₁, ⟨s₁, hr₁, hk⟩, .pass (x := .inLoop c) rfl (fun _ _ => .inl (by simp)) harr⟩
  obtain ⟨e, a', w', hq, harr⟩ := key _ s a w rfl h0 hr
  exact ⟨e, a', w', hq, .of_steps (.one (fenced_calm hb hrm rfl) stepR_loop) harr⟩

/-- A loop by a family of states: each round goes from the state at x to that at some x' below it; what a round leaves may know more. -/
theorem v_loopT {α : Type} {c : Code} (T : α → St) (Q : α → Prop) (μ : α → Nat) (x0 : α) (h0 : Q x0) (hs : Le s (T x0))
    (round : ∀ x, Q x → V C c (thenK (fun s' => ∃ x', Q x' ∧ μ x' < μ x ∧ Le s' (T x')) K) (T x)) : V C (.loop c) K s := by
  suffices V C (.loop c) K (T x0) from this.le hs
  intro a w hr b k cs hro hb hrm
  have key : ∀ j x a w, μ x = j → Q x → Rep C (T x) a w →
      ∃ e a' w', Post C K e a' w' ∧ ArrivesIn (Machine.fenced C.P C.F) C.P (lone (b.atR a (.code c :: .inLoop c :: k)) cs w) b k cs e a' w' := by
    intro j
    induction j using Nat.strongRecOn with
    | _ j ih =>
      intro x a w hn hI hr
      obtain ⟨e, a₁, w₁, ⟨s₁, hr₁, hk⟩, harr⟩ := round x hI a w hr b (.inLoop c :: k) cs hro hb hrm
      cases e with
      | normal =>
        obtain ⟨x', hI₁, hlt, hle⟩ := hk
        obtain ⟨e₂, a₂, w₂, hq₂, harr₂⟩ := ih (μ x') (hn ▸ hlt) x' a₁ w₁ rfl hI₁ (rep_le hr₁ hle)
        exact ⟨e₂, a₂, w₂, hq₂, .of_steps (StepsIn.trans harr (.one (fenced_calm hb hrm rfl) stepR_inLoop)) harr₂⟩
      | exit id => exact ⟨_, a₁, w₁, ⟨s₁, hr₁, hk⟩, .pass (x := .inLoop c) rfl (fun _ _ => .inl (by simp)) harr⟩
      | goto l => exact ⟨_, a₁, w₁, ⟨s₁, hr₁, hk⟩, .pass (x := .inLoop c) rfl (fun _ _ => .inl (by simp)) harr⟩
      | ret => exact ⟨_, a₁, w₁, ⟨s₁, hr₁, hk⟩, .pass (x := .inLoop c) rfl (fun _ _ => .inl (by simp)) harr⟩
      | panic ch => exact ⟨_, a₁, w₁, ⟨s₁, hr₁, hk⟩, .pass (x := .inLoop c) rfl (fun _ _ => .inl (by simp)) harr⟩
      | outgrown => exact ⟨_, a₁, w₁, ⟨s₁, hr₁, hk⟩, .pass (x := .inLoop c) rfl (fun _ _ => .inl (by simp)) harr⟩
  obtain ⟨e, a', w', hq, harr⟩ := key _ x0 a w rfl h0 hr
  exact ⟨e, a', w', hq, .of_steps (.one (fenced_calm hb hrm rfl) stepR_loop) harr⟩
end Go.Proofs.Ytpgjbalnipinoaa

/- Operations: what each does to the state; regions in the order of the text; regions that draw their order: one run in the order of the text tells all. Conditions: none. -/
namespace Go.Proofs.Ytpgjbalnipinoaa
open Go.Proofs Go.RowKit

def isNew (o : Oper) : Bool := match o.op with | .alloc _ | .box _ _ | .buildSlice _ _ _ | .makeSlice _ _ _ => true | .call c => (match c.callee with | .value _ => true | _ => false) | _ => false
def isApp (o : Oper) : Bool := match o.op with | .call c => (match c.callee with | .builtin .append => true | _ => false) | _ => false
def isSt (o : Oper) : Bool := match o.op with | .store _ _ _ => true | .call c => (match c.callee with | .builtin .append => true | _ => false) | _ => false
/-- its outcome is drawn: a block, a value -/
def draws (o : Oper) : Bool := isNew o || isApp o

variable {C : Cx} {s : St} {a : Act} {w w' : World} {K : Exit → St → Prop} {ops : Array Oper} {o : Oper}

def Reads (C : Cx) (s : St) (o : Oper) (ρ : Operand → Value) : Prop := ∀ x ∈ o.op.operands, ∀ v, ev C s x = some v → ρ x = v
def Held (s : St) (ks : List Nat) (w : World) : Prop := ∀ k ∈ ks, ∀ h, s.m k = some h → h.ok w

theorem reads_of (hr : Rep C s a w) : Reads C s o a.eval := fun x _ v h => ev_ok hr h
theorem held_of (hr : Rep C s a w) (ks : List Nat) : Held s ks w := fun k _ h hk => (hr.mo k h hk).1

/-- a value, the world as it was -/
structure OpV (C : Cx) (s : St) (o : Oper) (ks : List Nat) (y : Value) : Prop where
  hd : ∀ c, o.op ≠ .defer c
  run : ∀ (ρ : Operand → Value) (w : World), Reads C s o ρ → s.g w → Held s ks w → (execOp ρ o).run C.P w = .ok (.value y) w
/-- a call that is entered; it turns nothing -/
structure OpC (C : Cx) (s : St) (o : Oper) (ks : List Nat) (y : Value) : Prop where
  hd : ∀ c, o.op ≠ .defer c
  run : ∀ (ρ : Operand → Value) (w : World), Reads C s o ρ → s.g w → Held s ks w → ∃ f args, (execOp ρ o).run C.P w = .ok (.enter f args) w ∧ Calls C.P f args w fun e w' => e = .returned y ∧ Below w.heap.size w w'
/-- a store -/
structure OpS (C : Cx) (s : St) (o : Oper) (k : Nat) (h h' : Hp) : Prop where
  hd : ∀ c, o.op ≠ .defer c
  hk : s.m k = some h
  hb : h'.has = h.has
  run : ∀ (ρ : Operand → Value) (w : World), Reads C s o ρ → h.ok w → ∃ w', (execOp ρ o).run C.P w = .ok .skip w' ∧ h'.ok w' ∧ Chg (fun b => h.has b) w w'
/-- a new box -/
structure OpN (C : Cx) (s : St) (o : Oper) (X : Nat → Value) (T : TypeId) (cs : List Value) : Prop where
  hd : ∀ c, o.op ≠ .defer c
  run : ∀ (ρ : Operand → Value) (w : World), Reads C s o ρ → (execOp ρ o).run C.P w = .ok (.value (X w.heap.size)) (w.alloc (.cells cs.toArray T))

/-- a call that makes a block and turns nothing -/
structure OpO (C : Cx) (s : St) (o : Oper) (ks : List Nat) (RV : Value → Prop) (Y : Value → Value) (H : Value → Hp) : Prop where
  hd : ∀ c, o.op ≠ .defer c
  run : ∀ (ρ : Operand → Value) (w : World), Reads C s o ρ → s.g w → Held s ks w → ∃ f args, (execOp ρ o).run C.P w = .ok (.enter f args) w ∧ Calls C.P f args w fun e w' => ∃ y, e = .returned (Y y) ∧ RV y ∧ Below w.heap.size w w' ∧ (H y).ok w' ∧ ∀ b, (H y).has b → w.heap.size ≤ b
/-- a row of ours grows, where it lies or elsewhere -/
structure OpA (C : Cx) (s : St) (o : Oper) (ks : List Nat) (k : Nat) (h0 : Hp) (RV : Value → Prop) (H : Value → Hp) : Prop where
  hd : ∀ c, o.op ≠ .defer c
  hk : s.m k = some h0
  run : ∀ (ρ : Operand → Value) (w : World), Reads C s o ρ → s.g w → Held s ks w → h0.ok w → ∃ y w', (execOp ρ o).run C.P w = .ok (.value y) w' ∧ RV y ∧ (H y).ok w' ∧ Chg (fun b => h0.has b) w w' ∧ ∀ b, (H y).has b → h0.has b ∨ w.heap.size ≤ b

def appS (s : St) (d : Option Nat) (r : Value × Wr) : St := (s.mem r.2).put d r.1

theorem wpIn_value {y : Value} {K : Act → World → Prop} {Q : Exit → Act → World → Prop} (hd : ∀ c, o.op ≠ .defer c) (hrun : (execOp a.eval o).run C.P w = .ok (.value y) w') (hK : K (a.put o.dst y) w') : o.wpIn C.F C.n C.P a w K Q := by
  refine ⟨fun f _ => C.all f, ?_⟩
  rw [Oper.semAt_eq _ _ _ hd, hrun]
  exact hK
theorem wpIn_skipOp {K : Act → World → Prop} {Q : Exit → Act → World → Prop} (hd : ∀ c, o.op ≠ .defer c) (hrun : (execOp a.eval o).run C.P w = .ok .skip w') (hK : K (a.put o.dst undef) w') : o.wpIn C.F C.n C.P a w K Q := by
  refine ⟨fun f _ => C.all f, ?_⟩
  rw [Oper.semAt_eq _ _ _ hd, hrun]
  exact hK
theorem wpIn_enter {f : Nat} {args : Array Value} {R : Value → World → Prop} {K : Act → World → Prop} {Q : Exit → Act → World → Prop} (hd : ∀ c, o.op ≠ .defer c) (hrun : (execOp a.eval o).run C.P w = .ok (.enter f args) w')
    (hc : Calls C.P f args w' fun e w'' => ∃ y, e = .returned y ∧ R y w'') (hK : ∀ y w'', R y w'' → K (a.put o.dst y) w'') : o.wpIn C.F C.n C.P a w K Q := by
  refine ⟨fun f _ => C.all f, ?_⟩
  rw [Oper.semAt_eq _ _ _ hd, hrun]
  refine ⟨by simp [C.nod], C.callsIn (hc.mono ?_)⟩
  rintro e w'' ⟨y, rfl, h⟩
  exact hK y w'' h

theorem rep_new (hr : Rep C s a w) (d : Nat) (X : Nat → Value) (T : TypeId) (cs : List Value) :
    Rep C (appS s (some d) (X w.heap.size, some (d, .box w.heap.size T cs))) (a.put (some d) (X w.heap.size)) (w.alloc (.cells cs.toArray T)) := by
  refine rep_put (s := s.mem _) ?_ (some d) _
  have hlt : ∀ k h, s.m k = some h → ∀ b, h.has b → b < w.heap.size := fun k h hk b hb => Hp.lt (hr.mo k h hk).1 hb
  refine rep_chg hr (fun _ => False) (Chg.alloc _ w _) (fun _ h => h.elim) _ (fun k h hh => ?_) fun k k' h h' b hh hh' e e' => ?_
  · by_cases e : k = d
    · subst e; rw [updN_same] at hh; cases hh
      exact .inr ⟨Blk.new w _ T, fun b hb => by cases hb; exact .inr (Nat.le_refl _)⟩
    · rw [updN_other _ _ e] at hh; exact .inl ⟨hh, fun _ _ h => h⟩
  · by_cases e1 : k = d <;> by_cases e2 : k' = d
    · rw [e1, e2]
    · subst e1; rw [updN_same] at hh; cases hh; rw [updN_other _ _ e2] at hh'
      cases e; have := hlt k' h' hh' _ e'; omega
    · subst e2; rw [updN_same] at hh'; cases hh'; rw [updN_other _ _ e1] at hh
      cases e'; have := hlt k h hh _ e; omega
    · rw [updN_other _ _ e1] at hh; rw [updN_other _ _ e2] at hh'; exact hr.inj k k' h h' b hh hh' e e'

theorem rep_newH (hr : Rep C s a w) {h1 : Hp} (hb : Below w.heap.size w w') (ho : h1.ok w') (hn : ∀ b, h1.has b → w.heap.size ≤ b) (d : Nat) : Rep C (s.mem (some (d, h1))) a w' := by
  have hlt : ∀ k h, s.m k = some h → ∀ b, h.has b → b < w.heap.size := fun k h hk b hb => Hp.lt (hr.mo k h hk).1 hb
  refine rep_chg hr (fun _ => False) (Chg.of_below hb) (fun _ h => h.elim) _ (fun k h hh => ?_) fun k k' h h' b hh hh' e e' => ?_
  · by_cases e : k = d
    · subst e; rw [updN_same] at hh; cases hh
      exact .inr ⟨ho, fun b hb => .inr (hn b hb)⟩
    · rw [updN_other _ _ e] at hh; exact .inl ⟨hh, fun _ _ h => h⟩
  · by_cases e1 : k = d <;> by_cases e2 : k' = d
    · rw [e1, e2]
    · subst e1; rw [updN_same] at hh; cases hh; rw [updN_other _ _ e2] at hh'
      have := hn b e; have := hlt k' h' hh' b e'; omega
    · subst e2; rw [updN_same] at hh'; cases hh'; rw [updN_other _ _ e1] at hh
      have := hn b e'; have := hlt k h hh b e; omega
    · rw [updN_other _ _ e1] at hh; rw [updN_other _ _ e2] at hh'; exact hr.inj k k' h h' b hh hh' e e'
theorem rep_grow (hr : Rep C s a w) {k : Nat} {h0 h1 : Hp} (hk : s.m k = some h0) (hc : Chg (fun b => h0.has b) w w') (ho : h1.ok w') (hb : ∀ b, h1.has b → h0.has b ∨ w.heap.size ≤ b) : Rep C (s.mem (some (k, h1))) a w' := by
  have hm := hr.mo k h0 hk
  have hlt : ∀ k h, s.m k = some h → ∀ b, h.has b → b < w.heap.size := fun k h hk b hb => Hp.lt (hr.mo k h hk).1 hb
  refine rep_chg hr _ hc (fun b hb' _ => ⟨hm.2 b hb', fun hg => (hr.gd b hg).2 k h0 hk hb', fun o ho' => ?_⟩) _ (fun j u hu => ?_) fun j j' u u' b hu hu' e e' => ?_
  · obtain ⟨o', h1, h2⟩ := Hp.isCells hm.1 hb'
    rw [h1] at ho'; cases ho'; exact h2
  · by_cases e : j = k
    · subst e; rw [updN_same] at hu; cases hu
      exact .inr ⟨ho, fun b hb' => (hb b hb').imp (fun h => ⟨h, hlt j h0 hk b h⟩) id⟩
    · rw [updN_other _ _ e] at hu
      exact .inl ⟨hu, fun b hb' hb'' => e (hr.inj j k u h0 b hu hk hb' hb'')⟩
  · have key1 : ∀ i v, s.m i = some v → i ≠ k → v.has b → h1.has b → False := fun i v hv hne hb1 hb2 => by
      rcases hb b hb2 with h3 | h3
      · exact hne (hr.inj i k v h0 b hv hk hb1 h3)
      · have := hlt i v hv b hb1; omega
    by_cases e1 : j = k <;> by_cases e2 : j' = k
    · rw [e1, e2]
    · subst e1; rw [updN_same] at hu; cases hu; rw [updN_other _ _ e2] at hu'; exact (key1 j' u' hu' e2 e' e).elim
    · subst e2; rw [updN_same] at hu'; cases hu'; rw [updN_other _ _ e1] at hu; exact (key1 j u hu e1 e e').elim
    · rw [updN_other _ _ e1] at hu; rw [updN_other _ _ e2] at hu'; exact hr.inj j j' u u' b hu hu' e e'

theorem rep_store (hr : Rep C s a w) {k : Nat} {h h' : Hp} (hk : s.m k = some h) (hb : h'.has = h.has) (ho : h'.ok w') (hc : Chg (fun b => h.has b) w w') : Rep C (s.mem (some (k, h'))) a w' := by
  have hm := hr.mo k h hk
  refine rep_chg hr _ hc (fun b hb' hlt => ⟨hm.2 b hb', fun hg => (hr.gd b hg).2 k h hk hb', fun o ho' => ?_⟩) _ (fun j u hu => ?_) fun j j' u u' b hu hu' e e' => ?_
  · obtain ⟨o', h1, h2⟩ := Hp.isCells hm.1 hb'
    rw [h1] at ho'; cases ho'; exact h2
  · by_cases e : j = k
    · subst e; rw [updN_same] at hu; cases hu
      exact .inr ⟨ho, fun b hb' => .inl ⟨by rw [← hb]; exact hb', Hp.lt hm.1 (by rw [← hb]; exact hb')⟩⟩
    · rw [updN_other _ _ e] at hu
      exact .inl ⟨hu, fun b hb' hb'' => e (hr.inj j k u h b hu hk hb' hb'')⟩
  · have key : ∀ i v, updN s.m k (some h') i = some v → ∃ v', s.m i = some v' ∧ v'.has = v.has := fun i v hv => by
      by_cases ei : i = k
      · subst ei; rw [updN_same] at hv; cases hv; exact ⟨h, hk, hb.symm⟩
      · rw [updN_other _ _ ei] at hv; exact ⟨v, hv, rfl⟩
    obtain ⟨v, h1, h2⟩ := key j u hu
    obtain ⟨v', h1', h2'⟩ := key j' u' hu'
    exact hr.inj j j' v v' b h1 h1' ((congrFun h2 b).mpr e) ((congrFun h2' b).mpr e')

/-! ### in the order of the text -/
def wantS (C : Cx) (s : St) (ops : Array Oper) (o : Oper) : Option Bool := match o.guard with
  | none => some true
  | some (j, want) => (match (ops[j]?).bind (·.dst) with
    | some d => (match ev C s (.tmp d) with | some (.bool b) => some (b == want) | some (.tuple ⟨[]⟩) => some false | _ => none)
    | none => none)

theorem want_ok (hr : Rep C s a w) {b : Bool} (h : wantS C s ops o = some b) : Region.wanted o (yielded ops a.tmps) = b := by
  unfold wantS at h
  unfold Region.wanted
  split at h
  · rename_i hg; rw [hg]; cases h; rfl
  · rename_i j want hg
    rw [hg]
    simp only
    split at h
    · rename_i d hd
      split at h
      · rename_i x hx
        cases h
        have he' : a.tmps.getD d undef = .bool x := ev_ok hr hx
        have hlt : d < a.tmps.size := by
          rcases Nat.lt_or_ge d a.tmps.size with h | h
          · exact h
          · rw [Array.getD_eq_getD_getElem?, Array.getElem?_eq_none h] at he'; cases he'
        have hget : a.tmps[d]? = some (.bool x) := by
          rw [Array.getD_eq_getD_getElem?, Array.getElem?_eq_getElem hlt] at he'
          rw [Array.getElem?_eq_getElem hlt]; simpa using he'
        have : yielded ops a.tmps j = some x := by
          simp [yielded, hd, hget]
        rw [this]
        cases x <;> cases want <;> rfl
      · rename_i hx
        cases h
        have he' : a.tmps.getD d undef = undef := ev_ok hr hx
        have : yielded ops a.tmps j = none := by
          unfold yielded
          rw [hd]
          cases hq : a.tmps[d]? with
          | none => simp [hq]
          | some v =>
            rw [Array.getD_eq_getD_getElem?, hq] at he'
            simp only [Option.getD_some] at he'
            simp [hq, he', undef]
        rw [this]
        rfl
      · cases h
    · cases h

variable {rest : List Oper}
theorem vl_nil (h : K .normal s) : VL C ops [] K s := fun a w hr => wpListIn_nil ⟨s, hr, h⟩
theorem vl_step (hw : wantS C s ops o = some true) (h : ∀ a w, Rep C s a w → o.wpIn C.F C.n C.P a w (fun a' w' => ∃ s', Rep C s' a' w' ∧ VL C ops rest K s') (Post C K)) : VL C ops (o :: rest) K s := by
  intro a w hr
  unfold wpListIn
  rw [want_ok hr hw, if_pos rfl]
  refine Oper.wpIn_mono ?_ (h a w hr)
  rintro a' w' ⟨s', h1, h2⟩
  exact h2 a' w' h1
theorem vl_no' (hw : wantS C s ops o = some false) (h : VL C ops rest K (s.put o.dst undef)) : VL C ops (o :: rest) K s := by
  intro a w hr
  unfold wpListIn
  rw [want_ok hr hw, if_neg (by simp)]
  exact ⟨fun f _ => C.all f, h _ _ (rep_put hr _ _)⟩
theorem vl_val (hw : wantS C s ops o = some true) {ks : List Nat} {y : Value} (h : OpV C s o ks y) (next : VL C ops rest K (s.put o.dst y)) : VL C ops (o :: rest) K s :=
  vl_step hw fun a w hr => wpIn_value h.hd (h.run _ _ (reads_of hr) hr.gh (held_of hr ks)) ⟨_, rep_put hr _ _, next⟩
theorem vl_call (hw : wantS C s ops o = some true) {ks : List Nat} {y : Value} (h : OpC C s o ks y) (next : VL C ops rest K (s.put o.dst y)) : VL C ops (o :: rest) K s :=
  vl_step hw fun a w hr => by
    obtain ⟨f, args, h1, h2⟩ := h.run _ _ (reads_of hr) hr.gh (held_of hr ks)
    refine wpIn_enter (R := fun y' w' => y' = y ∧ Below w.heap.size w w') h.hd h1 (h2.mono fun e w' ⟨e1, e2⟩ => ⟨y, e1, rfl, e2⟩) ?_
    rintro _ w' ⟨rfl, hb⟩
    exact ⟨_, rep_put (rep_below hr hb) _ _, next⟩
theorem vl_store (hw : wantS C s ops o = some true) {k : Nat} {h h' : Hp} (hs : OpS C s o k h h') (hd : o.dst = none) (next : VL C ops rest K (s.mem (some (k, h')))) : VL C ops (o :: rest) K s :=
  vl_step hw fun a w hr => by
    obtain ⟨w', h1, h2, h3⟩ := hs.run _ _ (reads_of hr) (hr.mo k h hs.hk).1
    refine wpIn_skipOp hs.hd h1 ⟨_, ?_, next⟩
    rw [hd]
    exact rep_store hr hs.hk hs.hb h2 h3
theorem vl_new (hw : wantS C s ops o = some true) {X : Nat → Value} {T : TypeId} {cs : List Value} (h : OpN C s o X T cs) {d : Nat} (hd : o.dst = some d) (next : ∀ b, VL C ops rest K (appS s (some d) (X b, some (d, .box b T cs)))) : VL C ops (o :: rest) K s :=
  vl_step hw fun a w hr => by
    refine wpIn_value h.hd (h.run _ _ (reads_of hr)) ⟨_, ?_, next w.heap.size⟩
    rw [hd]
    exact rep_new hr d X T cs
theorem v_region {id : Nat} {l : List Oper} (h : VL C l.toArray l K s) : V C (.region id l.toArray false) K s := fun a w hr => wpIn_region_lit (h a w hr)

/-! ### whatever order -/
/-- what is drawn: for each slot a block and a value -/
structure Pr (wf : Nat → Value → Prop) where
  b : Nat → Nat
  v : Nat → Value
  ok : ∀ d, wf d (v d)
instance {wf : Nat → Value → Prop} : CoeFun (Pr wf) (fun _ => Nat → Nat) := ⟨Pr.b⟩
variable {wf : Nat → Value → Prop}
inductive OpP (C : Cx) (o : Oper) (S : Pr wf → St) : List Nat → (Pr wf → Value × Wr) → Prop
  | val {ks : List Nat} (y : Pr wf → Value) (h : ∀ σ, OpV C (S σ) o ks (y σ)) : OpP C o S ks (fun σ => (y σ, none))
  | call {ks : List Nat} (y : Value) (h : ∀ σ, OpC C (S σ) o ks y) : OpP C o S ks (fun _ => (y, none))
  | store (k : Nat) (h h' : Pr wf → Hp) (hst : isSt o = true) (hs : ∀ σ, OpS C (S σ) o k (h σ) (h' σ)) : OpP C o S [k] (fun σ => (undef, some (k, h' σ)))
  | new (d : Nat) (X : Nat → Value) (T : TypeId) (cs : Pr wf → List Value) (hn : isNew o = true) (hd : o.dst = some d) (h : ∀ σ, OpN C (S σ) o X T (cs σ)) : OpP C o S [] (fun σ => (X (σ.b d), some (d, .box (σ.b d) T (cs σ))))
  | newO (d n : Nat) (E : TypeId) (esz : Nat) (cs : Pr wf → List Value) (hn : isNew o = true) (hd : o.dst = some d) (hl : ∀ σ, (cs σ).length = n * esz) (hm : n ≤ maxLen) (h1 : ∀ σ, ∀ u ∈ cs σ, u.oneCell' = true) (h : ∀ σ, OpN C (S σ) o (fun b => .slice (some ⟨b, 0, none⟩) n n) E (cs σ)) :
      OpP C o S [] (fun σ => (.slice (some ⟨σ.b d, 0, none⟩) n n, some (d, .own (.slice (some ⟨σ.b d, 0, none⟩) n n) E esz n (cs σ))))
  | own {ks : List Nat} (d : Nat) (RV : Value → Prop) (Y : Value → Value) (H : Value → Hp) (hn : isNew o = true) (hd : o.dst = some d) (hwf : ∀ y, RV y → wf d y) (h : ∀ σ, OpO C (S σ) o ks RV Y H) : OpP C o S ks (fun σ => (Y (σ.v d), some (d, H (σ.v d))))
  | ownR {ks : List Nat} (d : Nat) (RV : Value → Prop) (Y : Value → Value) (H : Pr wf → Value → Hp) (hn : isNew o = true) (hd : o.dst = some d) (hwf : ∀ y, RV y → wf d y) (h : ∀ σ, OpO C (S σ) o ks RV Y (H σ))
      (hcg : ∀ (σ σ' : Pr wf) (ρ : Operand → Value) (w : World), Reads C (S σ) o ρ → Held (S σ) ks w → Reads C (S σ') o ρ → Held (S σ') ks w → H σ = H σ') : OpP C o S ks (fun σ => (Y (σ.v d), some (d, H σ (σ.v d))))
  | app {ks : List Nat} (d k : Nat) (h0 : Pr wf → Hp) (RV : Value → Prop) (H : Pr wf → Value → Hp) (hst : isSt o = true) (ha : isApp o = true) (hd : o.dst = some d) (hwf : ∀ y, RV y → wf d y) (h : ∀ σ, OpA C (S σ) o ks k (h0 σ) RV (H σ)) : OpP C o S (k :: ks) (fun σ => (σ.v d, some (k, H σ (σ.v d))))

/-- an operation, wanted or not -/
def EvP (C : Cx) (ops : Array Oper) (S : Pr wf → St) (o : Oper × List Nat) (r : Pr wf → Value × Wr) : Prop :=
  ((∀ σ, wantS C (S σ) ops o.1 = some true) ∧ OpP C o.1 S o.2 r) ∨ ((∀ σ, wantS C (S σ) ops o.1 = some false) ∧ r = fun _ => (undef, none))
def appP (S : Pr wf → St) (d : Option Nat) (r : Pr wf → Value × Wr) : Pr wf → St := fun σ => appS (S σ) d (r σ)

inductive Run (C : Cx) (ops : Array Oper) : List (Oper × List Nat) → (Pr wf → St) → (Pr wf → St) → Prop
  | nil {S : Pr wf → St} : Run C ops [] S S
  | cons {S S' : Pr wf → St} {o : Oper × List Nat} {rest : List (Oper × List Nat)} {r : Pr wf → Value × Wr} (h : EvP C ops S o r) (t : Run C ops rest (appP S o.1.dst r) S') : Run C ops (o :: rest) S S'

def opReads (o : Oper) : List Nat := o.op.operands.toList.filterMap fun | .tmp t => some t | _ => none
def rdOf (ops : Array Oper) (o : Oper) : List Nat := opReads o ++ (match o.guard with | some (j, _) => ((ops[j]?).bind (·.dst)).toList | none => [])
def disj (x y : List Nat) : Bool := x.all fun k => !y.contains k
/-- neither reads or writes what the other one writes; behind each the blocks that it goes to -/
def indep (ops : Array Oper) (x y : Oper × List Nat) : Bool :=
  (match x.1.dst with | some d => !(rdOf ops y.1).contains d && y.1.dst != some d && (match isNew x.1 with | true => !y.2.contains d | false => true) | none => true) &&
  (match y.1.dst with | some d => !(rdOf ops x.1).contains d && (match isNew y.1 with | true => !x.2.contains d | false => true) | none => true) &&
  (match isSt x.1 || isSt y.1 with | true => disj x.2 y.2 | false => true)

theorem indep_spec {x y : Oper × List Nat} (h : indep ops x y = true) :
    (∀ t ∈ rdOf ops y.1, x.1.dst ≠ some t) ∧ (∀ i, x.1.dst = some i → y.1.dst ≠ some i) ∧ (∀ t ∈ rdOf ops x.1, y.1.dst ≠ some t) ∧
    (isNew x.1 = true → ∀ d, x.1.dst = some d → d ∉ y.2) ∧ (isNew y.1 = true → ∀ d, y.1.dst = some d → d ∉ x.2) ∧ ((isSt x.1 = true ∨ isSt y.1 = true) → ∀ k ∈ x.2, k ∉ y.2) := by
  simp only [indep, Bool.and_eq_true] at h
  obtain ⟨⟨h1, h2⟩, h3⟩ := h
  refine ⟨fun t ht e => ?_, fun i e e' => ?_, fun t ht e => ?_, fun hn d e hm => ?_, fun hn d e hm => ?_, fun hs k hk hk' => ?_⟩
  · rw [e] at h1; simp at h1; exact h1.1.1 ht
  · rw [e] at h1; simp at h1; exact h1.1.2 e'
  · rw [e] at h2; simp at h2; exact h2.1 ht
  · rw [e, hn] at h1; simp at h1; exact h1.2 hm
  · rw [e, hn] at h2; simp at h2; exact h2.2 hm
  · have : (isSt x.1 || isSt y.1) = true := by simpa [Bool.or_eq_true] using hs
    rw [this] at h3
    have := List.all_eq_true.1 h3 k hk
    simp at this
    exact this hk'

theorem put_m (s : St) (d : Option Nat) (x : Value) : (s.put d x).m = s.m := by cases d <;> rfl
theorem put_g (s : St) (d : Option Nat) (x : Value) : (s.put d x).g = s.g := by cases d <;> rfl
theorem mem_l (s : St) (w : Wr) : (s.mem w).l = s.l := by rcases w with _ | ⟨_, _⟩ <;> rfl
theorem mem_g (s : St) (w : Wr) : (s.mem w).g = s.g := by rcases w with _ | ⟨_, _⟩ <;> rfl
theorem app_g (s : St) (d : Option Nat) (r : Value × Wr) : (appS s d r).g = s.g := by rw [appS, put_g, mem_g]
theorem app_l {s : St} {d : Option Nat} {r : Value × Wr} {t : Nat} (h : d ≠ some t) : (appS s d r).l t = s.l t := by
  cases d with
  | none => simp only [appS, St.put, mem_l]
  | some i => simp only [appS, St.put, mem_l]; exact updN_other _ _ (fun e => h (by rw [e]))
theorem app_m {s : St} {d : Option Nat} {r : Value × Wr} {k : Nat} (h : ∀ k' p, r.2 = some (k', p) → k' ≠ k) : (appS s d r).m k = s.m k := by
  rw [appS, put_m]
  obtain ⟨x, wr⟩ := r
  rcases wr with _ | ⟨k', hp⟩
  · rfl
  · simp only [St.mem]; exact updN_other _ _ (fun e => h k' _ rfl e.symm)
def putL (l : Nat → Option Value) (d : Option Nat) (x : Value) : Nat → Option Value := match d with | some i => updN l i (some x) | none => l
def memM (m : Nat → Option Hp) (w : Wr) : Nat → Option Hp := match w with | some (k, h) => updN m k (some h) | none => m
theorem app_eq (s : St) (d : Option Nat) (r : Value × Wr) : appS s d r = ⟨putL s.l d r.1, memM s.m r.2, s.g, s.gb, s.d⟩ := by
  obtain ⟨x, wr⟩ := r
  rcases wr with _ | ⟨_, _⟩ <;> cases d <;> rfl
theorem putL_comm {l : Nat → Option Value} {d e : Option Nat} {x y : Value} (hd : ∀ i, d = some i → e ≠ some i) : putL (putL l d x) e y = putL (putL l e y) d x := by
  cases d with
  | none => rfl
  | some i => cases e with
    | none => rfl
    | some j => exact updN_comm _ _ _ fun h => hd i rfl (by rw [h])
theorem memM_comm {m : Nat → Option Hp} {w v : Wr} (hk : ∀ k p k' p', w = some (k, p) → v = some (k', p') → k ≠ k') : memM (memM m w) v = memM (memM m v) w := by
  rcases w with _ | ⟨k, p⟩
  · rfl
  · rcases v with _ | ⟨k', p'⟩
    · rfl
    · exact updN_comm _ _ _ (hk _ _ _ _ rfl rfl)
theorem app_comm {s : St} {d e : Option Nat} {r q : Value × Wr} (hd : ∀ i, d = some i → e ≠ some i) (hk : ∀ k p k' p', r.2 = some (k, p) → q.2 = some (k', p') → k ≠ k') :
    appS (appS s d r) e q = appS (appS s e q) d r := by
  rw [app_eq, app_eq, app_eq, app_eq, putL_comm hd, memM_comm hk]

theorem ev_loc {s s' : St} {x : Operand} (h : ∀ t, x = .tmp t → s'.l t = s.l t) : ev C s' x = ev C s x := by
  cases x with
  | tmp t => simp only [ev, h t rfl]
  | _ => rfl
theorem mem_opReads {x : Operand} (hx : x ∈ o.op.operands) {t : Nat} (e : x = .tmp t) : t ∈ opReads o := by
  subst e
  exact List.mem_filterMap.2 ⟨.tmp t, by simpa using hx, rfl⟩
theorem want_loc {s s' : St} (hl : ∀ t ∈ rdOf ops o, s'.l t = s.l t) : wantS C s' ops o = wantS C s ops o := by
  unfold wantS
  cases hg : o.guard with
  | none => rfl
  | some jw =>
    obtain ⟨j, want⟩ := jw
    simp only
    cases hd : (ops[j]?).bind (·.dst) with
    | none => rfl
    | some d =>
      simp only
      rw [ev_loc (s := s) (s' := s') (x := .tmp d) (fun t e => hl t (by cases e; simp [rdOf, hg, hd]))]
theorem reads_loc {s s' : St} (hl : ∀ t ∈ opReads o, s'.l t = s.l t) {ρ : Operand → Value} (h : Reads C s' o ρ) : Reads C s o ρ := fun x hx v hv => h x hx v (by rw [ev_loc (s := s) fun t e => hl t (mem_opReads hx e)]; exact hv)
theorem held_loc {s s' : St} {ks : List Nat} (hm : ∀ k ∈ ks, s'.m k = s.m k) {w : World} (h : Held s' ks w) : Held s ks w := fun k hk p hp => h k hk p (by rw [hm k hk]; exact hp)

/-- an operation does as it did where another one that does not touch it has gone ahead -/
theorem EvP.loc {S S' : Pr wf → St} {o : Oper × List Nat} {r : Pr wf → Value × Wr} (h : EvP C ops S o r) (hl : ∀ σ, ∀ t ∈ rdOf ops o.1, (S' σ).l t = (S σ).l t) (hg : ∀ σ, (S' σ).g = (S σ).g)
    (hm : ∀ σ, ∀ k ∈ o.2, (S' σ).m k = (S σ).m k) : EvP C ops S' o r := by
  obtain ⟨o, ks⟩ := o
  have hl' : ∀ σ, ∀ t ∈ opReads o, (S' σ).l t = (S σ).l t := fun σ t ht => hl σ t (List.mem_append_left _ ht)
  rcases h with ⟨h1, h2⟩ | ⟨h1, h2⟩
  · refine .inl ⟨fun σ => (want_loc (hl σ)).trans (h1 σ), ?_⟩
    cases h2 with
    | val y h => exact .val y fun σ => ⟨(h σ).hd, fun ρ w a b c => (h σ).run ρ w (reads_loc (hl' σ) a) (by rw [hg] at b; exact b) (held_loc (hm σ) c)⟩
    | call y h => exact .call y fun σ => ⟨(h σ).hd, fun ρ w a b c => (h σ).run ρ w (reads_loc (hl' σ) a) (by rw [hg] at b; exact b) (held_loc (hm σ) c)⟩
    | store k h h' hst hs => exact .store k h h' hst fun σ => ⟨(hs σ).hd, (hm σ k (by simp)).trans (hs σ).hk, (hs σ).hb, fun ρ w a b => (hs σ).run ρ w (reads_loc (hl' σ) a) b⟩
    | new d X T cs hn hd h => exact .new d X T cs hn hd fun σ => ⟨(h σ).hd, fun ρ w a => (h σ).run ρ w (reads_loc (hl' σ) a)⟩
    | newO d n E esz cs hn hd hln hm' hone h => exact .newO d n E esz cs hn hd hln hm' hone fun σ => ⟨(h σ).hd, fun ρ w a => (h σ).run ρ w (reads_loc (hl' σ) a)⟩
    | own d RV Y H hn hd hwf h => exact .own d RV Y H hn hd hwf fun σ => ⟨(h σ).hd, fun ρ w a b c => (h σ).run ρ w (reads_loc (hl' σ) a) (by rw [hg] at b; exact b) (held_loc (hm σ) c)⟩
    | ownR d RV Y H hn hd hwf h hcg => exact .ownR d RV Y H hn hd hwf (fun σ => ⟨(h σ).hd, fun ρ w a b c => (h σ).run ρ w (reads_loc (hl' σ) a) (by rw [hg] at b; exact b) (held_loc (hm σ) c)⟩) fun σ σ' ρ w a b a' b' => hcg σ σ' ρ w (reads_loc (hl' σ) a) (held_loc (hm σ) b) (reads_loc (hl' σ') a') (held_loc (hm σ') b')
    | app d k h0 RV H hst ha hd hwf h => exact .app d k h0 RV H hst ha hd hwf fun σ => ⟨(h σ).hd, (hm σ k (by simp)).trans (h σ).hk, fun ρ w a b c => (h σ).run ρ w (reads_loc (hl' σ) a) (by rw [hg] at b; exact b) (held_loc (fun k hk => hm σ k (List.mem_cons_of_mem _ hk)) c)⟩
  · exact .inr ⟨fun σ => (want_loc (hl σ)).trans (h1 σ), h2⟩

/-- which block a write goes to -/
theorem EvP.wr {S : Pr wf → St} {o : Oper × List Nat} {r : Pr wf → Value × Wr} (h : EvP C ops S o r) {σ : Pr wf} {k : Nat} {p : Hp} (e : (r σ).2 = some (k, p)) :
    (isNew o.1 = true ∧ o.1.dst = some k) ∨ (isSt o.1 = true ∧ k ∈ o.2) := by
  obtain ⟨o, ks⟩ := o
  rcases h with ⟨h1, h2⟩ | ⟨h1, rfl⟩
  · cases h2 with
    | val y h => cases e
    | call y h => cases e
    | store k' h h' hst hs => cases e; exact .inr ⟨hst, by simp⟩
    | new d X T cs hn hd h => cases e; exact .inl ⟨hn, hd⟩
    | newO d n E esz cs hn hd hl hm' h1 h => cases e; exact .inl ⟨hn, hd⟩
    | own d RV Y H hn hd hwf h => cases e; exact .inl ⟨hn, hd⟩
    | ownR d RV Y H hn hd hwf h hcg => cases e; exact .inl ⟨hn, hd⟩
    | app d k' h0 RV H hst ha hd hwf h => cases e; exact .inr ⟨hst, by simp⟩
  · cases e

theorem EvP.swap {S : Pr wf → St} {j i : Oper × List Nat} {rj ri : Pr wf → Value × Wr} (hj : EvP C ops S j rj) (hi : EvP C ops (appP S j.1.dst rj) i ri) (hin : indep ops j i = true) :
    EvP C ops S i ri ∧ EvP C ops (appP S i.1.dst ri) j rj ∧ appP (appP S j.1.dst rj) i.1.dst ri = appP (appP S i.1.dst ri) j.1.dst rj := by
  obtain ⟨h1, h2, h3, h4, h5, h6⟩ := indep_spec hin
  have aj : ∀ σ k p, (rj σ).2 = some (k, p) → k ∉ i.2 := fun σ k p e hk => by
    rcases hj.wr e with ⟨a1, a2⟩ | ⟨a1, a2⟩
    · exact h4 a1 k a2 hk
    · exact h6 (.inl a1) k a2 hk
  have ai : ∀ σ k p, (ri σ).2 = some (k, p) → k ∉ j.2 := fun σ k p e hk => by
    rcases hi.wr e with ⟨a1, a2⟩ | ⟨a1, a2⟩
    · exact h5 a1 k a2 hk
    · exact h6 (.inr a1) k hk a2
  refine ⟨hi.loc (fun σ t ht => (app_l (h1 t ht)).symm) (fun σ => (app_g _ _ _).symm) fun σ k hk => (app_m fun k' p e e' => aj σ k' p e (e' ▸ hk)).symm,
    hj.loc (fun σ t ht => app_l (h3 t ht)) (fun σ => app_g _ _ _) fun σ k hk => app_m fun k' p e e' => ai σ k' p e (e' ▸ hk), ?_⟩
  funext σ
  refine app_comm h2 fun k p k' p' e e' he => ?_
  subst he
  rcases hi.wr e' with ⟨b1, b2⟩ | ⟨b1, b2⟩
  · rcases hj.wr e with ⟨a1, a2⟩ | ⟨a1, a2⟩
    · exact h2 k a2 b2
    · exact h5 b1 k b2 a2
  · exact aj σ k p e b2

theorem bubble {i : Oper × List Nat} {post : List (Oper × List Nat)} {S' : Pr wf → St} : ∀ (pre : List (Oper × List Nat)) (S : Pr wf → St), Run C ops (pre ++ i :: post) S S' → (∀ j ∈ pre, indep ops j i = true) →
    ∃ r, EvP C ops S i r ∧ Run C ops (pre ++ post) (appP S i.1.dst r) S'
  | [], S, h, _ => by cases h with | cons h t => exact ⟨_, h, t⟩
  | j :: pre, S, h, hi => by
    cases h with
    | cons h t =>
      obtain ⟨r, h1, h2⟩ := bubble pre _ t (fun j hj => hi j (List.mem_cons_of_mem _ hj))
      obtain ⟨a1, a2, a3⟩ := EvP.swap h h1 (hi j List.mem_cons_self)
      exact ⟨r, a1, .cons a2 (by rw [← a3]; exact h2)⟩

/-- what an operation does to the machine: for all prophecies that agree with what has been laid -/
theorem evp_sound {S : Pr wf → St} {o : Oper × List Nat} {r : Pr wf → Value × Wr} (h : EvP C ops S o r) (Z : Pr wf → Prop) (σ0 : Pr wf) (hz : Z σ0) (hr : ∀ σ, Z σ → Rep C (S σ) a w) {K : Act → World → Prop} {Q : Exit → Act → World → Prop}
    (hK : ∀ a' w' y, (∀ d, o.1.dst = some d → wf d y) → (∀ σ, Z σ → (∀ d, draws o.1 = true → o.1.dst = some d → σ.b d = w.heap.size ∧ σ.v d = y) → Rep C (appS (S σ) o.1.dst (r σ)) a' w') → K a' w') :
    if Region.wanted o.1 (yielded ops a.tmps) then o.1.wpIn C.F C.n C.P a w K Q else (∀ f, o.1.about C.P w a.eval = some f → C.F.fn f) ∧ K (a.put o.1.dst undef) w := by
  obtain ⟨o, ks⟩ := o
  have hy0 : ∀ d, o.dst = some d → wf d (σ0.v (o.dst.getD 0)) := fun d hd => by rw [hd]; exact σ0.ok d
  rcases h with ⟨h1, h2⟩ | ⟨h1, rfl⟩
  · rw [want_ok (hr σ0 hz) (h1 σ0), if_pos rfl]
    cases h2 with
    | val y h =>
      have hrun := fun σ hσ => (h σ).run _ _ (reads_of (hr σ hσ)) (hr σ hσ).gh (held_of (hr σ hσ) ks)
      refine wpIn_value (h σ0).hd (hrun σ0 hz) (hK _ _ _ hy0 fun σ hσ _ => ?_)
      have e := (hrun σ hσ).symm.trans (hrun σ0 hz)
      simp only [Result.ok.injEq, Next.value.injEq, and_true] at e
      rw [← e]
      exact rep_put (hr σ hσ) _ _
    | call y h =>
      obtain ⟨f, args, h3, h4⟩ := (h σ0).run _ _ (reads_of (hr σ0 hz)) (hr σ0 hz).gh (held_of (hr σ0 hz) ks)
      refine wpIn_enter (R := fun y' w' => y' = y ∧ Below w.heap.size w w') (h σ0).hd h3 (h4.mono fun e w' ⟨e1, e2⟩ => ⟨y, e1, rfl, e2⟩) ?_
      rintro _ w' ⟨rfl, hb⟩
      exact hK _ _ _ hy0 fun σ hσ _ => rep_put (rep_below (hr σ hσ) hb) _ _
    | store k h h' hst hs =>
      have hrun := fun σ hσ => (hs σ).run _ _ (reads_of (hr σ hσ)) ((hr σ hσ).mo k _ (hs σ).hk).1
      obtain ⟨w', h3, h4, h5⟩ := hrun σ0 hz
      refine wpIn_skipOp (hs σ0).hd h3 (hK _ _ _ hy0 fun σ hσ _ => ?_)
      obtain ⟨w'', h3', h4', h5'⟩ := hrun σ hσ
      have e := h3'.symm.trans h3
      simp only [Result.ok.injEq, true_and] at e
      subst e
      exact rep_put (rep_store (hr σ hσ) (hs σ).hk (hs σ).hb h4' h5') _ _
    | new d X T cs hn hd h =>
      have hrun := fun σ hσ => (h σ).run _ w (reads_of (hr σ hσ))
      refine wpIn_value (h σ0).hd (hrun σ0 hz) (hK _ _ _ hy0 fun σ hσ hb => ?_)
      have e := (hrun σ hσ).symm.trans (hrun σ0 hz)
      simp only [Result.ok.injEq, true_and] at e
      have hb' := (hb d (by simp [draws, hn]) hd).1
      rw [← e, hd]
      simp only [hb']
      exact rep_new (hr σ hσ) d X T (cs σ)
    | newO d n E esz cs hn hd hln hm' hone h =>
      have hrun := fun σ hσ => (h σ).run _ w (reads_of (hr σ hσ))
      refine wpIn_value (h σ0).hd (hrun σ0 hz) (hK _ _ _ hy0 fun σ hσ hb => ?_)
      have e := (hrun σ hσ).symm.trans (hrun σ0 hz)
      simp only [Result.ok.injEq, true_and] at e
      have hb' := (hb d (by simp [draws, hn]) hd).1
      rw [← e]
      simp only [hb']
      refine rep_put (rep_newH (hr σ hσ) ((Below.refl _ w).alloc (Nat.le_refl _) _) (h1 := .own _ E esz n (cs σ)) ⟨⟨hln σ, .inr ⟨w.heap.size, n, (cs σ).toArray, rfl, Nat.zero_le _, Blk.new w _ E, Nat.le_refl _, hm', by simp [hln], by rw [← hln σ]; simp⟩⟩, hone σ⟩ (fun b hb => by simp [Hp.has, Value.ownBlock] at hb; omega) d) _ _
    | own d RV Y H hn hd hwf h =>
      obtain ⟨f, args, h3, h4⟩ := (h σ0).run _ _ (reads_of (hr σ0 hz)) (hr σ0 hz).gh (held_of (hr σ0 hz) ks)
      refine wpIn_enter (R := fun y' w' => ∃ y, y' = Y y ∧ RV y ∧ Below w.heap.size w w' ∧ (H y).ok w' ∧ ∀ b, (H y).has b → w.heap.size ≤ b) (h σ0).hd h3 (h4.mono fun e w' ⟨y, e1, e2⟩ => ⟨Y y, e1, y, rfl, e2⟩) ?_
      rintro _ w' ⟨y, rfl, h5, h6, h7, h8⟩
      refine hK _ _ y (fun d' hd' => by rw [hd] at hd'; cases hd'; exact hwf y h5) fun σ hσ hb => ?_
      have hb' := (hb d (by simp [draws, hn]) hd).2
      simp only [hb']
      exact rep_put (rep_newH (hr σ hσ) h6 h7 h8 d) _ _
    | ownR d RV Y H hn hd hwf h hcg =>
      obtain ⟨f, args, h3, h4⟩ := (h σ0).run _ _ (reads_of (hr σ0 hz)) (hr σ0 hz).gh (held_of (hr σ0 hz) ks)
      refine wpIn_enter (R := fun y' w' => ∃ y, y' = Y y ∧ RV y ∧ Below w.heap.size w w' ∧ (H σ0 y).ok w' ∧ ∀ b, (H σ0 y).has b → w.heap.size ≤ b) (h σ0).hd h3 (h4.mono fun e w' ⟨y, e1, e2⟩ => ⟨Y y, e1, y, rfl, e2⟩) ?_
      rintro _ w' ⟨y, rfl, h5, h6, h7, h8⟩
      refine hK _ _ y (fun d' hd' => by rw [hd] at hd'; cases hd'; exact hwf y h5) fun σ hσ hb => ?_
      have hb' := (hb d (by simp [draws, hn]) hd).2
      have e := hcg σ σ0 a.eval w (reads_of (hr σ hσ)) (held_of (hr σ hσ) ks) (reads_of (hr σ0 hz)) (held_of (hr σ0 hz) ks)
      simp only [hb', e]
      exact rep_put (rep_newH (hr σ hσ) h6 h7 h8 d) _ _
    | app d k h0 RV H hst ha hd hwf h =>
      have hrun := fun σ hσ => (h σ).run _ _ (reads_of (hr σ hσ)) (hr σ hσ).gh (held_of (hr σ hσ) _) ((hr σ hσ).mo k _ (h σ).hk).1
      obtain ⟨y, w', h3, h4, h5, h6, h7⟩ := hrun σ0 hz
      refine wpIn_value (h σ0).hd h3 (hK _ _ y (fun d' hd' => by rw [hd] at hd'; cases hd'; exact hwf y h4) fun σ hσ hb => ?_)
      have hb' := (hb d (by simp [draws, ha]) hd).2
      obtain ⟨y', w'', h3', h4', h5', h6', h7'⟩ := hrun σ hσ
      have e := h3'.symm.trans h3
      simp only [Result.ok.injEq, Next.value.injEq] at e
      obtain ⟨rfl, rfl⟩ := e
      simp only [hb']
      exact rep_put (rep_grow (hr σ hσ) (h σ).hk h6' h5' h7') _ _
  · rw [want_ok (hr σ0 hz) (h1 σ0), if_neg (by simp)]
    exact ⟨fun f _ => C.all f, hK _ _ _ hy0 fun σ hσ _ => rep_put (hr σ hσ) _ _⟩
end Go.Proofs.Ytpgjbalnipinoaa

/- THE DRAW: where a region draws its order, one run in the order of the text tells it all; what stands behind all else in the region comes in its order. Conditions: none. -/
namespace Go.Proofs.Ytpgjbalnipinoaa
open Go.Proofs Go.RowKit

variable {C : Cx} {ops : Array Oper} {K : Exit → St → Prop}

/-- who is ahead of whom, by the edges that bind: a set of bits for each operation -/
def ancStep (acc : List Nat) (o : Oper) : Nat := o.after.toList.foldl (fun z e => match Region.binds .any e with | true => z ||| 2 ^ e.on ||| acc.getD e.on 0 | false => z) 0

def okRow (ops : Array Oper) (l : List (Oper × List Nat)) (o : Oper × List Nat) (set : Nat) (j : Nat) : Bool := match l with
  | [] => true
  | o' :: r => (match set.testBit j with | true => true | false => indep ops o' o) && okRow ops r o set (j + 1)
def okFrom (ops : Array Oper) (pre : List (Oper × List Nat)) (rest : List (Oper × List Nat)) (acc : List Nat) : Bool := match rest with
  | [] => true
  | o :: r => o.1.after.toList.all (fun e => match Region.binds .any e with | true => Nat.blt e.on pre.length | false => true) && okRow ops pre o (ancStep acc o.1) 0 && okFrom ops (pre ++ [o]) r (acc ++ [ancStep acc o.1])
def okDraw (ops : Array Oper) (l : List (Oper × List Nat)) : Bool := okFrom ops [] l []

inductive Anc (l : List Oper) : Nat → Nat → Prop
  | here {i : Nat} {o : Oper} {e : Edge} (h : l[i]? = some o) (he : e ∈ o.after.toList) (hb : Region.binds .any e = true) : Anc l e.on i
  | up {i j : Nat} {o : Oper} {e : Edge} (h : l[i]? = some o) (he : e ∈ o.after.toList) (hb : Region.binds .any e = true) (ha : Anc l j e.on) : Anc l j i

theorem ancStep_ok {l : List Oper} {acc : List Nat} {i : Nat} {o : Oper} (hacc : ∀ i j, (acc.getD i 0).testBit j = true → Anc l j i) (h : l[i]? = some o) :
    ∀ j, (ancStep acc o).testBit j = true → Anc l j i := by
  unfold ancStep
  have : ∀ (es : List Edge) (z : Nat), (∀ e ∈ es, e ∈ o.after.toList) → (∀ j, z.testBit j = true → Anc l j i) →
      ∀ j, (es.foldl (fun z e => match Region.binds .any e with | true => z ||| 2 ^ e.on ||| acc.getD e.on 0 | false => z) z).testBit j = true → Anc l j i := by
    intro es
    induction es with
    | nil => intro z _ hz j hj; exact hz j hj
    | cons e es ih =>
      intro z hes hz j hj
      refine ih _ (fun e' he' => hes e' (List.mem_cons_of_mem _ he')) ?_ j hj
      intro j hj
      simp only at hj
      cases hb : Region.binds .any e with
      | false => rw [hb] at hj; exact hz j hj
      | true =>
        rw [hb] at hj
        simp only [Nat.testBit_or, Bool.or_eq_true, Nat.testBit_two_pow] at hj
        rcases hj with (hj | hj) | hj
        · exact hz j hj
        · have : e.on = j := by simpa using hj
          subst this
          exact .here h (hes e List.mem_cons_self) hb
        · exact .up h (hes e List.mem_cons_self) hb (hacc _ _ hj)
  exact this _ _ (fun _ h => h) (fun j hj => by simp at hj)

theorem okRow_ok {o : Oper × List Nat} {set : Nat} : ∀ (l : List (Oper × List Nat)) (j : Nat), okRow ops l o set j = true → ∀ k o', l[k]? = some o' → set.testBit (j + k) = true ∨ indep ops o' o = true
  | [], _, _, k, o', h => by simp at h
  | x :: l, j, hk, k, o', h => by
    simp only [okRow, Bool.and_eq_true] at hk
    cases k with
    | zero =>
      simp at h; subst h
      cases hb : set.testBit j with
      | true => first | exact .inl hb | exact .inl rfl
      | false => rw [hb] at hk; exact .inr hk.1
    | succ k =>
      have := okRow_ok l (j + 1) hk.2 k o' (by simpa using h)
      rw [show j + (k + 1) = j + 1 + k by omega]
      exact this

/-- l: the operations that are free among themselves; full: all of the region's -/
theorem okFrom_ok {full : List Oper} : ∀ (rest pre : List (Oper × List Nat)) (acc : List Nat), okFrom ops pre rest acc = true → (∀ (i : Nat) (o : Oper × List Nat), (pre ++ rest)[i]? = some o → full[i]? = some o.1) → acc.length = pre.length →
    (∀ i j, (acc.getD i 0).testBit j = true → Anc full j i) → ∀ (i : Nat) (o : Oper × List Nat), pre.length ≤ i → (pre ++ rest)[i]? = some o →
    (∀ e ∈ o.1.after.toList, Region.binds .any e = true → e.on < i) ∧ ∀ (j : Nat) (o' : Oper × List Nat), j < i → (pre ++ rest)[j]? = some o' → Anc full j i ∨ indep ops o' o = true
  | [], pre, acc, _, hl, _, _, i, o, hi, h => by rw [List.append_nil, List.getElem?_eq_none hi] at h; cases h
  | x :: rest, pre, acc, hk, hl, hlen, hacc, i, o, hi, h => by
    simp only [okFrom, Bool.and_eq_true] at hk
    obtain ⟨⟨h1, h2⟩, h3⟩ := hk
    have hx0 : (pre ++ x :: rest)[pre.length]? = some x := by simp
    have hx : full[pre.length]? = some x.1 := hl _ _ hx0
    have hst := ancStep_ok hacc hx
    rcases Nat.eq_or_lt_of_le hi with he | hlt
    · subst he
      rw [hx0] at h
      cases h
      refine ⟨fun e he hb => ?_, fun j o' hj hjo => ?_⟩
      · have := List.all_eq_true.1 h1 e he
        rw [hb] at this
        simpa [Nat.blt_eq] using this
      · have : pre[j]? = some o' := by rwa [List.getElem?_append_left hj] at hjo
        rcases okRow_ok pre 0 h2 j o' this with h | h
        · exact .inl (hst j (by simpa using h))
        · exact .inr h
    · have e : pre ++ x :: rest = (pre ++ [x]) ++ rest := by simp
      rw [e] at h hl ⊢
      refine okFrom_ok rest (pre ++ [x]) _ h3 hl (by simp [hlen]) ?_ i o (by simp; omega) h
      intro i j hij
      rw [List.getD_eq_getElem?_getD] at hij
      rcases Nat.lt_trichotomy i acc.length with hi | hi | hi
      · rw [List.getElem?_append_left hi] at hij
        exact hacc i j (by rw [List.getD_eq_getElem?_getD]; exact hij)
      · subst hi
        simp at hij
        rw [hlen]
        exact hst j hij
      · rw [List.getElem?_eq_none (by simp; omega)] at hij
        simp at hij

theorem anc_listed {l : List Oper} {listed : Array Bool} (hcl : ∀ k o, l[k]? = some o → listed.getD k false = true → ∀ e ∈ o.after.toList, Region.binds .any e = true → listed.getD e.on false = true)
    {j i : Nat} (h : Anc l j i) : (∀ o, l[i]? = some o → ∀ e ∈ o.after.toList, Region.binds .any e = true → listed.getD e.on false = true) → listed.getD j false = true := by
  induction h with
  | here h he hb => intro hr; exact hr _ h _ he hb
  | up h he hb _ ih => intro hr; exact ih fun o ho => hcl _ o ho (hr _ h _ he hb)

def ancAll : List Oper → List Nat → List Nat
  | [], acc => acc
  | o :: r, acc => ancAll r (acc ++ [ancStep acc o])
theorem ancAll_ok {full : List Oper} : ∀ (rest pre : List Oper) (acc : List Nat), full = pre ++ rest → acc.length = pre.length → (∀ i j, (acc.getD i 0).testBit j = true → Anc full j i) → ∀ i j, ((ancAll rest acc).getD i 0).testBit j = true → Anc full j i
  | [], _, acc, _, _, hacc, i, j, h => hacc i j h
  | x :: rest, pre, acc, hl, hlen, hacc, i, j, h => by
    have hx : full[pre.length]? = some x := by subst hl; simp
    have hst := ancStep_ok hacc hx
    refine ancAll_ok rest (pre ++ [x]) _ (by simp [hl]) (by simp [hlen]) ?_ i j h
    intro i j hij
    rw [List.getD_eq_getElem?_getD] at hij
    rcases Nat.lt_trichotomy i acc.length with hi | hi | hi
    · rw [List.getElem?_append_left hi] at hij
      exact hacc i j (by rw [List.getD_eq_getElem?_getD]; exact hij)
    · subst hi
      simp at hij
      rw [hlen]
      exact hst j hij
    · rw [List.getElem?_eq_none (by simp; omega)] at hij
      simp at hij
/-- from L on each operation stands behind all that come ahead of it -/
def tailOk (full : List Oper) (L : Nat) : Bool := (List.range full.length).all fun i => Nat.blt i L ||
  ((List.range i).all (fun j => ((ancAll full []).getD i 0).testBit j) && (match full[i]? with | some o => o.after.toList.all (fun e => match Region.binds .any e with | true => Nat.blt e.on i | false => true) | none => true))
theorem tailOk_ok {full : List Oper} {L : Nat} (h : tailOk full L = true) {i : Nat} {o : Oper} (hi : L ≤ i) (ho : full[i]? = some o) : (∀ j, j < i → Anc full j i) ∧ ∀ e ∈ o.after.toList, Region.binds .any e = true → e.on < i := by
  have hlt : i < full.length := (List.getElem?_eq_some_iff.1 ho).1
  have := List.all_eq_true.1 h i (by simpa using hlt)
  simp only [Bool.or_eq_true, Bool.and_eq_true, ho] at this
  rcases this with h1 | ⟨h1, h2⟩
  · rw [Nat.blt_eq] at h1; omega
  · refine ⟨fun j hj => ancAll_ok full [] [] rfl rfl (by simp) i j (List.all_eq_true.1 h1 j (by simpa using hj)), fun e he hb => ?_⟩
    have := List.all_eq_true.1 h2 e he
    rw [hb] at this
    simpa [Nat.blt_eq] using this

structure Inv (full : List Oper) (l : List (Oper × List Nat)) (listed : Array Bool) (rem : List (Nat × (Oper × List Nat))) : Prop where
  get : ∀ q ∈ rem, l[q.1]? = some q.2
  sorted : rem.Pairwise (fun x y => x.1 < y.1)
  sz : listed.size = full.length
  spec : ∀ i o, l[i]? = some o → (listed.getD i true = false ↔ (i, o) ∈ rem)
  tail : ∀ i, l.length ≤ i → listed.getD i false = false
  closed : ∀ k o, full[k]? = some o → listed.getD k false = true → ∀ e ∈ o.after.toList, Region.binds .any e = true → listed.getD e.on false = true

theorem getD_tf {listed : Array Bool} {k : Nat} (hk : k < listed.size) : listed.getD k true = listed.getD k false := by
  simp [Array.getD_eq_getD_getElem?, hk]

variable {wf : Nat → Value → Prop}
/-- what a region draws -/
def newsOf : List (Oper × List Nat) → List Nat
  | [] => []
  | o :: r => match draws o.1, o.1.dst with | true, some d => d :: newsOf r | _, _ => newsOf r
theorem newsOf_append : ∀ (x y : List (Oper × List Nat)), newsOf (x ++ y) = newsOf x ++ newsOf y
  | [], y => rfl
  | o :: r, y => by
    simp only [List.cons_append, newsOf]
    split <;> simp [newsOf_append r y]
theorem newsOf_cons (o : Oper × List Nat) (r : List (Oper × List Nat)) (d : Nat) (hn : draws o.1 = true) (hd : o.1.dst = some d) : newsOf (o :: r) = d :: newsOf r := by simp [newsOf, hn, hd]

/-- what is left when all that is free has been done: the tail, in the order of the text -/
theorem tail_main {Q : Exit → Act → World → Prop} {full : List Oper} {L : Nat} (hops : ops = full.toArray) (hT : tailOk full L = true) : ∀ (rest : List Oper) (n : Nat) (fuel : Nat) (listed : Array Bool) (a : Act) (w : World), L ≤ n → full.drop n = rest →
      fuel = rest.length → listed.size = full.length → (∀ i, i < n → i < full.length → listed.getD i false = true) → (∀ i, n ≤ i → listed.getD i false = false) →
      (∀ k o, full[k]? = some o → listed.getD k false = true → ∀ e ∈ o.after.toList, Region.binds .any e = true → listed.getD e.on false = true) →
      wpListIn C.F C.n C.P ops Q rest a w → wpAnyIn C.F C.n C.P .any ops Q fuel listed a w := by
  intro rest
  induction rest with
  | nil =>
    intro n fuel listed a w hL hd hf hsz hyes hno hcl hv
    subst hf
    refine ⟨List.eq_nil_iff_forall_not_mem.2 fun j hj => ?_, ?_⟩
    · obtain ⟨h1, o, ho, _⟩ := mem_ready.1 hj
      have hlt : j < full.length := by subst hops; simpa using (Array.getElem?_eq_some_iff.1 ho).1
      have : full.length ≤ n := List.drop_eq_nil_iff.1 hd
      have := hyes j (by omega) hlt
      rw [← getD_tf (by rw [hsz]; exact hlt), h1] at this
      cases this
    · unfold wpListIn at hv
      exact hv
  | cons o rest ih =>
    intro n fuel listed a w hL hd hf hsz hyes hno hcl hv
    subst hf
    have ho : full[n]? = some o := by
      have : (full.drop n)[0]? = some o := by rw [hd]; rfl
      simpa using this
    have hlt : n < full.length := (List.getElem?_eq_some_iff.1 ho).1
    have htn := tailOk_ok hT hL ho
    have hready : ∀ i, i ∈ Region.ready .any ops listed → i = n := fun i hi => by
      obtain ⟨h1, o', ho', hall'⟩ := mem_ready.1 hi
      have ho'' : full[i]? = some o' := by subst hops; simpa using ho'
      have hil : i < full.length := (List.getElem?_eq_some_iff.1 ho'').1
      rcases Nat.lt_trichotomy i n with h | h | h
      · have := hyes i h hil
        rw [← getD_tf (by rw [hsz]; exact hil), h1] at this
        cases this
      · exact h
      · exfalso
        have := anc_listed hcl ((tailOk_ok hT (by omega) ho'').1 n h) fun o3 ho3 e he hb => by
          rw [ho''] at ho3; cases ho3
          exact hall' e (by simpa using he) hb
        rw [hno n (Nat.le_refl _)] at this; cases this
    have hin : n ∈ Region.ready .any ops listed := by
      refine mem_ready.2 ⟨?_, o, by subst hops; simpa using ho, fun e he hb => ?_⟩
      · rw [getD_tf (by rw [hsz]; exact hlt)]; exact hno n (Nat.le_refl _)
      · have := htn.2 e (by simpa using he) hb
        exact hyes e.on this (by omega)
    refine ⟨fun h0 => ?_, fun i hi => ?_⟩
    · rw [h0] at hin; cases hin
    · obtain rfl := hready i hi
      unfold wpListIn at hv
      have ho' : ops[i]? = some o := by subst hops; simpa using ho
      unfold wpOpIn
      rw [ho']
      have hsz' : (listed.setIfInBounds i true).size = full.length := by rw [Array.size_setIfInBounds]; exact hsz
      have next : ∀ a' w', wpListIn C.F C.n C.P ops Q rest a' w' → wpAnyIn C.F C.n C.P .any ops Q rest.length (listed.setIfInBounds i true) a' w' := fun a' w' h => by
        refine ih (i + 1) _ _ a' w' (by omega) (by rw [← List.drop_drop, hd]; rfl) rfl hsz' (fun k hk hkl => ?_) (fun k hk => ?_) (fun k o' hk hkl e he hb => ?_) h
        · by_cases e : k = i
          · subst e; simp [Array.getD_eq_getD_getElem?, hsz, hkl]
          · exact getD_set_true (hyes k (by omega) hkl)
        · rw [getD_set_ne false (by omega)]; exact hno k (by omega)
        · by_cases e2 : k = i
          · subst e2
            rw [ho] at hk; cases hk
            exact getD_set_true (hyes e.on (htn.2 e he hb) (by have := htn.2 e he hb; omega))
          · rw [getD_set_ne false (Ne.symm e2)] at hkl
            exact getD_set_true (hcl k o' hk hkl e he hb)
      simp only
      split at hv
      · rename_i hw
        rw [if_pos hw]
        exact Oper.wpIn_mono next hv
      · rename_i hw
        rw [if_neg hw]
        exact ⟨hv.1, next _ _ hv.2⟩

theorem draw_main {full : List Oper} {l : List (Oper × List Nat)} (hops : ops = full.toArray) (hlf : ∀ (i : Nat) (o : Oper × List Nat), l[i]? = some o → full[i]? = some o.1) (hLl : l.length ≤ full.length) (hok : okDraw ops l = true) (hT : tailOk full l.length = true) {S' : Pr wf → St} (hs : ∀ σ, VL C ops (full.drop l.length) K (S' σ)) :
    ∀ (fuel : Nat) (rem : List (Nat × (Oper × List Nat))) (listed : Array Bool) (σ0 : Pr wf) (S : Pr wf → St) (a : Act) (w : World), fuel = rem.length → Inv full l listed rem → (newsOf (rem.map (·.2))).Nodup →
      Run C ops (rem.map (·.2)) S S' → (∀ σ : Pr wf, (∀ d, d ∉ newsOf (rem.map (·.2)) → (σ.b d = σ0.b d ∧ σ.v d = σ0.v d)) → Rep C (S σ) a w) → wpAnyIn C.F C.n C.P .any ops (Post C K) (fuel + (full.length - l.length)) listed a w := by
  have hget : ∀ (i : Nat) (o : Oper), ops[i]? = some o → full[i]? = some o := fun i o h => by rw [hops] at h; simpa using h
  have hspec := okFrom_ok (ops := ops) (full := full) l [] [] hok (by simpa using hlf) rfl (by simp)
  simp only [List.nil_append, List.length_nil] at hspec
  intro fuel
  induction fuel with
  | zero =>
    intro rem listed σ0 S a w hf hI hnd hrun hr
    have : rem = [] := List.length_eq_zero_iff.1 hf.symm
    subst this
    cases hrun
    rw [Nat.zero_add]
    refine tail_main hops hT (full.drop l.length) l.length _ listed a w (Nat.le_refl _) rfl (by simp) hI.sz (fun i hi hil => ?_) hI.tail hI.closed (hs σ0 a w (hr σ0 fun _ _ => ⟨rfl, rfl⟩))
    have := hI.spec i _ (List.getElem?_eq_getElem hi)
    rw [← getD_tf (by rw [hI.sz]; exact hil)]
    cases hx : listed.getD i true with
    | true => rfl
    | false => have := this.1 hx; cases this
  | succ fuel ih =>
    intro rem listed σ0 S a w hf hI hnd hrun hr
    -- what has not been done, and is listed by nobody
    have hun : ∀ q ∈ rem, listed.getD q.1 false = false := fun q hq => by
      have h := hI.get q hq
      have := (hI.spec _ _ h).2 hq
      rwa [getD_tf (by rw [hI.sz]; exact Nat.lt_of_lt_of_le (List.getElem?_eq_some_iff.1 h).1 hLl)] at this
    have hfree : ∀ i, i ∈ Region.ready .any ops listed → i < l.length := fun i hi => by
      obtain ⟨h1, o, ho, hall⟩ := mem_ready.1 hi
      rcases Nat.lt_or_ge i l.length with h | h
      · exact h
      · exfalso
        cases hrem : rem with
        | nil => rw [hrem] at hf; simp at hf
        | cons q r =>
          have hq := hI.get q (by rw [hrem]; exact List.mem_cons_self)
          have hql := (List.getElem?_eq_some_iff.1 hq).1
          have := anc_listed hI.closed ((tailOk_ok hT h (hget i o ho)).1 q.1 (by omega)) fun o3 ho3 e he hb => by
            rw [hget i o ho] at ho3; cases ho3
            exact hall e (by simpa using he) hb
          rw [hun q (by rw [hrem]; exact List.mem_cons_self)] at this; cases this
    rw [show fuel + 1 + (full.length - l.length) = (fuel + (full.length - l.length)) + 1 by omega]
    refine ⟨fun h0 => ?_, fun i hi => ?_⟩
    · exfalso
      cases hrem : rem with
      | nil => rw [hrem] at hf; simp at hf
      | cons q r =>
        have hq := hI.get q (by rw [hrem]; exact List.mem_cons_self)
        have : q.1 ∈ Region.ready .any ops listed := by
          refine mem_ready.2 ⟨(hI.spec _ _ hq).2 (by rw [hrem]; exact List.mem_cons_self), q.2.1, by subst hops; simpa using hlf _ _ hq, fun e he hb => ?_⟩
          have hlt := (hspec q.1 q.2 (Nat.zero_le _) hq).1 e (by simpa using he) hb
          have hlen : e.on < l.length := Nat.lt_trans hlt (List.getElem?_eq_some_iff.1 hq).1
          rw [← getD_tf (by rw [hI.sz]; omega)]
          cases hx : listed.getD e.on true with
          | true => rfl
          | false =>
            have := (hI.spec e.on _ (List.getElem?_eq_getElem hlen)).1 hx
            rw [hrem] at this
            have hs := hI.sorted
            rw [hrem] at hs
            rcases List.mem_cons.1 this with h | h
            · rw [← h] at hlt; exact absurd hlt (Nat.lt_irrefl _)
            · have := (List.pairwise_cons.1 hs).1 _ h
              simp only at this
              exact absurd (Nat.lt_trans hlt this) (Nat.lt_irrefl _)
        rw [h0] at this
        cases this
    · have hil := hfree i hi
      obtain ⟨h1, o, ho, hall⟩ := mem_ready.1 hi
      obtain ⟨κ, hl⟩ : ∃ κ, l[i]? = some (o, κ) := by
        have := hlf i _ (List.getElem?_eq_getElem hil)
        rw [hget i o ho] at this
        exact ⟨l[i].2, by rw [List.getElem?_eq_getElem hil]; cases hli : l[i]; simp only [hli] at this; cases this; rfl⟩
      have hin := (hI.spec i _ hl).1 h1
      obtain ⟨pre, post, hrem⟩ := List.append_of_mem hin
      have hsort := hI.sorted
      rw [hrem] at hsort
      have hs1 := List.pairwise_append.1 hsort
      have hs2 := List.pairwise_cons.1 hs1.2.1
      subst hrem
      have hmap : (pre ++ (i, (o, κ)) :: post).map (·.2) = pre.map (·.2) ++ (o, κ) :: post.map (·.2) := by simp
      rw [hmap] at hrun hnd hr
      have hind : ∀ j ∈ pre.map (·.2), indep ops j (o, κ) = true := fun j hj => by
        obtain ⟨q, hq, rfl⟩ := List.mem_map.1 hj
        have hq1 := hI.get q (List.mem_append_left _ hq)
        have hlt : q.1 < i := hs1.2.2 q hq (i, (o, κ)) List.mem_cons_self
        rcases (hspec i (o, κ) (Nat.zero_le _) hl).2 q.1 q.2 hlt hq1 with ha | ha
        · exfalso
          have := anc_listed hI.closed ha fun o' ho' e he hb => by
            rw [hget i o ho] at ho'; cases ho'
            exact hall e (by simpa using he) hb
          rw [hun q (List.mem_append_left _ hq)] at this; cases this
        · exact ha
      obtain ⟨r, hev, hrun'⟩ := bubble _ _ hrun hind
      have hnews : ∀ d, d ∈ newsOf (pre.map (·.2) ++ (o, κ) :: post.map (·.2)) ↔ d ∈ newsOf ((pre ++ post).map (·.2)) ∨ (draws o = true ∧ o.dst = some d) := fun d => by
        rw [List.map_append, newsOf_append, newsOf_append]
        cases hn : draws o with
        | false => simp [newsOf, hn]
        | true =>
          cases hd : o.dst with
          | none => simp [newsOf, hd]
          | some d' =>
            rw [newsOf_cons (o, κ) _ d' hn hd]
            simp only [List.mem_append, List.mem_cons, Option.some.injEq, true_and]
            constructor
            · rintro (h | h | h)
              · exact .inl (.inl h)
              · exact .inr h.symm
              · exact .inl (.inr h)
            · rintro ((h | h) | h)
              · exact .inl h
              · exact .inr (.inr h)
              · exact .inr (.inl h.symm)
      have hnd' : (newsOf ((pre ++ post).map (·.2))).Nodup ∧ ∀ d, draws o = true → o.dst = some d → d ∉ newsOf ((pre ++ post).map (·.2)) := by
        rw [List.map_append, newsOf_append]
        rw [newsOf_append] at hnd
        cases hn : draws o with
        | false =>
          simp only [newsOf, hn] at hnd
          exact ⟨hnd, fun d h => by cases h⟩
        | true =>
          cases hd : o.dst with
          | none =>
            have e : newsOf ((o, κ) :: post.map (·.2)) = newsOf (post.map (·.2)) := by simp [newsOf, hd]
            rw [e] at hnd
            exact ⟨hnd, fun d _ h => by cases h⟩
          | some d' =>
            rw [newsOf_cons (o, κ) _ d' hn hd] at hnd
            have hp := (List.perm_middle (a := d') (l₁ := newsOf (pre.map (·.2))) (l₂ := newsOf (post.map (·.2)))).nodup_iff.1 hnd
            have := List.nodup_cons.1 hp
            refine ⟨this.2, fun d _ h => ?_⟩
            cases h; exact this.1
      have := evp_sound (ops := ops) hev (fun σ => ∀ d, d ∉ newsOf (pre.map (·.2) ++ (o, κ) :: post.map (·.2)) → (σ.b d = σ0.b d ∧ σ.v d = σ0.v d)) σ0 (fun _ _ => ⟨rfl, rfl⟩) hr (K := wpAnyIn C.F C.n C.P .any ops (Post C K) (fuel + (full.length - l.length)) (listed.setIfInBounds i true)) (Q := Post C K) fun a' w' y hy hr' => by
        let σ1 : Pr wf := ⟨fun d => if draws o = true ∧ o.dst = some d then w.heap.size else σ0.b d, fun d => if draws o = true ∧ o.dst = some d then y else σ0.v d, fun d => by
          by_cases hc : draws o = true ∧ o.dst = some d
          · simp only [if_pos hc]; exact hy d hc.2
          · simp only [if_neg hc]; exact σ0.ok d⟩
        have hne : ∀ q ∈ pre ++ post, q.1 ≠ i := fun q hq => by
          rcases List.mem_append.1 hq with h | h
          · exact Nat.ne_of_lt (hs1.2.2 q h (i, (o, κ)) List.mem_cons_self)
          · exact Nat.ne_of_gt (hs2.1 q h)
        have hsub : ∀ q, q ∈ pre ++ post → q ∈ pre ++ (i, (o, κ)) :: post := fun q hq => by
          rcases List.mem_append.1 hq with h | h
          · exact List.mem_append_left _ h
          · exact List.mem_append_right _ (List.mem_cons_of_mem _ h)
        refine ih (pre ++ post) (listed.setIfInBounds i true) σ1 _ a' w' (by simp at hf ⊢; omega) ?_ hnd'.1 (by rw [List.map_append]; exact hrun') fun σ hσ => ?_
        · refine ⟨fun q hq => hI.get q (hsub q hq), ?_, by rw [Array.size_setIfInBounds]; exact hI.sz, fun k o' hk => ?_, fun k hk => ?_, fun k o' hk hkl e he hb => ?_⟩
          · refine List.pairwise_append.2 ⟨hs1.1, hs2.2, fun x hx y hy => hs1.2.2 x hx y (List.mem_cons_of_mem _ hy)⟩
          · by_cases hki : k = i
            · subst hki
              have hlt : k < listed.size := by rw [hI.sz]; exact Nat.lt_of_lt_of_le hil hLl
              refine ⟨fun h => ?_, fun h => absurd rfl (hne _ h)⟩
              simp [Array.getD_eq_getD_getElem?, hlt] at h
            · rw [getD_set_ne true (Ne.symm hki), hI.spec k o' hk]
              constructor
              · intro h
                rcases List.mem_append.1 h with h | h
                · exact List.mem_append_left _ h
                · rcases List.mem_cons.1 h with h | h
                  · exact absurd (congrArg (·.1) h) hki
                  · exact List.mem_append_right _ h
              · exact hsub _
          · rw [getD_set_ne false (by omega)]; exact hI.tail k hk
          · by_cases hki : k = i
            · subst hki
              rw [hget k o ho] at hk; cases hk
              exact getD_set_true (hall e (by simpa using he) hb)
            · rw [getD_set_ne false (Ne.symm hki)] at hkl
              exact getD_set_true (hI.closed k o' hk hkl e he hb)
        · refine hr' σ (fun d hd => ?_) fun d hn hd => ?_
          · rw [hnews d] at hd
            have h1 : d ∉ newsOf ((pre ++ post).map (·.2)) := fun h => hd (.inl h)
            have h2 : ¬ (draws o = true ∧ o.dst = some d) := fun h => hd (.inr h)
            rw [(hσ d h1).1, (hσ d h1).2]
            simp only [σ1, if_neg h2, and_self]
          · rw [(hσ d (hnd'.2 d hn hd)).1, (hσ d (hnd'.2 d hn hd)).2]
            simp only [σ1]
            rw [if_pos ⟨hn, hd⟩, if_pos ⟨hn, hd⟩]
            exact ⟨rfl, rfl⟩
      unfold wpOpIn
      rw [ho]
      exact this

/-! ### the rule -/
def drawOk (full : List Oper) (l : List (Oper × List Nat)) : Bool := okDraw full.toArray l && decide (newsOf l).Nodup && tailOk full l.length

/-- what is shown of a region that draws its order: one run of the free ones in the order of the text; then the tail -/
def VD (C : Cx) (ops : Array Oper) (rest : List (Oper × List Nat)) (tl : List Oper) (K : Exit → St → Prop) (S : Pr wf → St) : Prop := ∃ S', Run C ops rest S S' ∧ ∀ σ, VL C ops tl K (S' σ)

theorem vd_nil {tl : List Oper} {S : Pr wf → St} (h : ∀ σ, VL C ops tl K (S σ)) : VD C ops [] tl K S := ⟨S, .nil, h⟩
theorem vd_cons {tl : List Oper} {S : Pr wf → St} {o : Oper × List Nat} {rest : List (Oper × List Nat)} {r : Pr wf → Value × Wr} (h : EvP C ops S o r) (t : VD C ops rest tl K (appP S o.1.dst r)) : VD C ops (o :: rest) tl K S :=
  t.elim fun S' ⟨h1, h2⟩ => ⟨S', .cons h h1, h2⟩

theorem v_draw {id : Nat} {s : St} {full : List Oper} (σ0 : Pr wf) (κs : List (List Nat)) (hm : C.P.follows .mixedOrders = true) (hle : (full.take κs.length).length = κs.length) (hok : drawOk full ((full.take κs.length).zip κs) = true)
    (h : VD C full.toArray ((full.take κs.length).zip κs) (full.drop κs.length) K (fun _ : Pr wf => s)) : V C (.region id full.toArray true) K s := by
  intro a w hr
  obtain ⟨l, hl⟩ : ∃ l, (full.take κs.length).zip κs = l := ⟨_, rfl⟩
  have hlen : l.length = κs.length := by rw [← hl, List.length_zip, hle]; exact Nat.min_self _
  have hlf : ∀ (i : Nat) (o : Oper × List Nat), l[i]? = some o → full[i]? = some o.1 := fun i o ho => by
    rw [← hl] at ho
    have := List.getElem?_zip_eq_some.1 ho
    have h1 := this.1
    rw [List.getElem?_take] at h1
    split at h1
    · exact h1
    · cases h1
  have hLl : l.length ≤ full.length := by
    rw [hlen]; have := hle; rw [List.length_take] at this; omega
  rw [hl] at h hok
  rw [← hlen] at h
  simp only [drawOk, Bool.and_eq_true, decide_eq_true_eq] at hok
  obtain ⟨⟨h1, h2⟩, h3⟩ := hok
  obtain ⟨S', hrun, hK⟩ := h
  refine wpIn_region_any hm ?_
  let rem : List (Nat × (Oper × List Nat)) := l.zipIdx.map fun p => (p.2, p.1)
  have hrem2 : rem.map (·.2) = l := by simp [rem, List.map_map, Function.comp_def]
  have hmem : ∀ i o, (i, o) ∈ rem ↔ l[i]? = some o := fun i o => by
    simp only [rem, List.mem_map]
    constructor
    · rintro ⟨q, h, he⟩
      cases he
      exact List.mem_zipIdx_iff_getElem?.1 h
    · intro h
      exact ⟨(o, i), List.mem_zipIdx_iff_getElem?.2 h, rfl⟩
  have hsz : full.toArray.size = l.length + (full.length - l.length) := by simp; omega
  have hrep : ∀ k, (Array.replicate full.toArray.size false).getD k false = false := fun k => by
    rw [Array.getD_eq_getD_getElem?, Array.getElem?_replicate]; split <;> rfl
  have hI : Inv full l (Array.replicate full.toArray.size false) rem := by
    refine ⟨fun q hq => (hmem q.1 q.2).1 hq, ?_, by simp, fun i o ho => ?_, fun i _ => hrep i, fun k o ho h => ?_⟩
    · simp only [rem, List.pairwise_map]
      have : ∀ (l : List (Oper × List Nat)) (n : Nat), (l.zipIdx n).Pairwise (fun a b => a.2 < b.2) := by
        intro l
        induction l with
        | nil => intro n; exact List.Pairwise.nil
        | cons x r ih =>
          intro n
          rw [List.zipIdx_cons]
          refine List.pairwise_cons.2 ⟨fun y hy => ?_, ih (n + 1)⟩
          have := List.le_snd_of_mem_zipIdx hy
          exact this
      exact this l 0
    · have hlt : i < full.toArray.size := by rw [hsz]; have := (List.getElem?_eq_some_iff.1 ho).1; omega
      rw [hmem, getD_tf (by simpa using hlt), hrep]
      simp [ho]
    · rw [hrep] at h; cases h
  have := draw_main (K := K) (ops := full.toArray) rfl hlf hLl h1 h3 hK l.length rem (Array.replicate full.toArray.size false) σ0 (fun _ => s) a { w with drawn := w.drawn + 1 } (by simp [rem]) hI (by rw [hrem2]; exact h2) (by rw [hrem2]; exact hrun) (fun σ _ => rep_drew hr)
  rw [← hsz] at this
  exact this
end Go.Proofs.Ytpgjbalnipinoaa

/- The operations, a rule each, over states that are written as lists. Conditions: none. -/
namespace Go.Proofs.Ytpgjbalnipinoaa
open Go.Proofs Go.RowKit

def lk {α : Type} : List (Nat × α) → Nat → Option α
  | [], _ => none
  | (j, x) :: r, i => match Nat.beq i j with | true => some x | false => lk r i
/-- a state as two lists -/
def mk (l : List (Nat × Value)) (m : List (Nat × Hp)) (g : World → Prop) (gb : Nat → Prop) (d : List Nat) : St := ⟨lk l, lk m, g, gb, d⟩
theorem mk_put (l : List (Nat × Value)) (m : List (Nat × Hp)) (g : World → Prop) (gb : Nat → Prop) (d : List Nat) (i : Nat) (x : Value) : (mk l m g gb d).put (some i) x = mk ((i, x) :: l) m g gb d := by
  simp only [mk, St.put]; congr
theorem mk_mem (l : List (Nat × Value)) (m : List (Nat × Hp)) (g : World → Prop) (gb : Nat → Prop) (d : List Nat) (i : Nat) (x : Hp) : (mk l m g gb d).mem (some (i, x)) = mk l ((i, x) :: m) g gb d := by
  simp only [mk, St.mem]; congr

class TAgg (P : Program) (T : Nat) (n : outParam Nat) : Prop where
  agg : P.underlying T = none → False
  isAgg : ∀ w, (isAgg T).run P w = .ok true w
  sz : ∀ w, (sizeOf T).run P w = .ok n w
class TOne (P : Program) (T : Nat) : Prop where
  isAgg : ∀ w, (isAgg T).run P w = .ok false w
  sz : ∀ w, (sizeOf T).run P w = .ok 1 w
class TZero (P : Program) (T : Nat) (z : outParam (List Value)) : Prop where
  h : ∀ w, ∃ v : Value, v.cells.toList = z ∧ (zeroValue T).run P w = .ok v w
class TFld (P : Program) (S f : Nat) (d : outParam Nat) : Prop where
  h : ∃ fs fd, P.underlying S = some (.struct fs) ∧ fs[f]? = some fd ∧ fd.offset = d ∧ ∀ w, ∃ n, n ≠ 0 ∧ (sizeOf fd.type).run P w = .ok n w
class TInt (P : Program) (T : Nat) (k : outParam IntKind) : Prop where
  h : P.underlying T = some (.int k)
class TBool (P : Program) (T : Nat) : Prop where
  h : P.underlying T = some .bool
class TSl (P : Program) (T : Nat) (e n : outParam Nat) : Prop where
  h : P.underlying T = some (.slice e)
  sz : ∀ w, (sizeOf e).run P w = .ok n w
  pos : n ≠ 0
class TElem (P : Program) (E : Nat) (z : outParam Value) (n by_ : outParam Nat) : Prop where
  h : ∃ i, P.info? E = some i ∧ i.zero = some z ∧ i.size = n ∧ i.bytes = by_
  hz : z.cells.size = n
  pos : 0 < n
class TBuild (P : Program) (T : Nat) (places : outParam (List (Nat × Nat))) (z : outParam (List Value)) : Prop where
  h : ∀ ps, P.built T ps = Instr.fill (places.toArray[·]?) z.toArray ps

theorem TAgg.of {P : Program} {T n : Nat} (h1 : (match P.underlying T with | some (.struct _) | some (.array _ _) => true | _ => false) = true) (h2 : (P.info? T).map (·.size) = some n) : TAgg P T n := by
  refine ⟨fun h => (by rw [h] at h1; cases h1), fun w => ?_, fun w => ?_⟩
  · unfold Go.isAgg
    cases hu : P.underlying T with
    | none => rw [hu] at h1; cases h1
    | some d => rw [hu] at h1; rw [Sem.run_bind, run_underlying hu w]; cases d <;> first | (cases h1; done) | simp [Result.andThen]
  · cases hq : P.info? T with
    | none => rw [hq] at h2; cases h2
    | some i => rw [hq] at h2; simp at h2; simp [sizeOf, typeInfo, hq, h2]
theorem TOne.of {P : Program} {T : Nat} (h1 : (match P.underlying T with | some (.struct _) | some (.array _ _) | none => true | _ => false) = false) (h2 : (P.info? T).map (·.size) = some 1) : TOne P T := by
  refine ⟨fun w => ?_, fun w => ?_⟩
  · unfold Go.isAgg
    cases hu : P.underlying T with
    | none => rw [hu] at h1; cases h1
    | some d => rw [hu] at h1; rw [Sem.run_bind, run_underlying hu w]; cases d <;> first | (cases h1; done) | simp [Result.andThen]
  · cases hq : P.info? T with
    | none => rw [hq] at h2; cases h2
    | some i => rw [hq] at h2; simp at h2; simp [sizeOf, typeInfo, hq, h2]
theorem TZero.of {P : Program} {T : Nat} {z : List Value} (h : ((P.info? T).bind (·.zero)).map (·.cells.toList) = some z) : TZero P T z := by
  refine ⟨fun w => ?_⟩
  cases hq : P.info? T with
  | none => rw [hq] at h; cases h
  | some i =>
    rw [hq] at h
    cases hz : i.zero with
    | none => simp [hz] at h
    | some v => simp [hz] at h; exact ⟨v, by simpa using h, by simp [zeroValue, typeInfo, hq, hz]⟩
theorem TFld.of {P : Program} {S f d : Nat} (h : (match P.underlying S with | some (.struct fs) => (match fs[f]? with | some fd => (match P.info? fd.type with | some i => if i.size = 0 then none else some fd.offset | none => none) | none => none) | _ => none) = some d) : TFld P S f d := by
  refine ⟨?_⟩
  split at h
  · rename_i fs hS
    split at h
    · rename_i fd hfd
      split at h
      · rename_i i hi
        split at h
        · cases h
        · rename_i hne
          cases h
          exact ⟨fs, fd, hS, hfd, rfl, fun w => ⟨i.size, hne, by simp [sizeOf, typeInfo, hi]⟩⟩
      · cases h
    · cases h
  · cases h
theorem TSl.of {P : Program} {T e n : Nat} (h : P.underlying T = some (.slice e)) (h2 : (P.info? e).map (·.size) = some n) (h3 : n ≠ 0) : TSl P T e n := by
  refine ⟨h, fun w => ?_, h3⟩
  cases hq : P.info? e with
  | none => rw [hq] at h2; cases h2
  | some i => rw [hq] at h2; simp at h2; simp [sizeOf, typeInfo, hq, h2]
theorem TElem.of {P : Program} {E n b : Nat} {z : Value} (h : (P.info? E).map (fun i => (i.zero, i.size, i.bytes)) = some (some z, n, b)) (hz : z.cells.size = n) (hp : 0 < n) : TElem P E z n b := by
  refine ⟨?_, hz, hp⟩
  cases hq : P.info? E with
  | none => rw [hq] at h; cases h
  | some i => rw [hq] at h; simp at h; exact ⟨i, rfl, h.1, h.2.1, h.2.2⟩
theorem TBuild.of {P : Program} {T : Nat} {places : List (Nat × Nat)} {z : List Value} (h1 : ((P.info? T).bind (·.zero)).map (·.cells) = some z.toArray)
    (h3 : (match P.underlying T with | some (.struct fs) => fs.toList.mapM (fun f => (P.info? f.type).map fun i => (f.offset, i.size)) | _ => none) = some places) : TBuild P T places z := by
  refine ⟨fun ps => ?_⟩
  unfold Program.built
  cases hi : P.info? T with
  | none => rw [hi] at h1; simp at h1
  | some it =>
    rw [hi] at h1
    simp only [Option.bind_some, Option.map_eq_some_iff] at h1
    obtain ⟨zv, hz, hc⟩ := h1
    split at h3
    · rename_i fs h2
      simp only [h2, hz, h3, hc]
    · cases h3

theorem addAt (b o j : Nat) : (⟨b, o, none⟩ : Addr).add j = ⟨b, o + j, none⟩ := by unfold Addr.add; split <;> simp_all

variable {C : Cx} {s : St} {d : Option Nat} {x y z : Operand} {T S T' : TypeId} {ty : TypeId} {pos : String} {aft : Array Edge} {gd : Option (Nat × Bool)} {k : IntKind} {a b r : Int} {v u : Value}

/-! ### values -/
theorem opv (o : Oper) (v : Value) (hd : ∀ c, o.op ≠ .defer c) (h : ∀ (ρ : Operand → Value) (w : World), Reads C s o ρ → (execOp ρ o).run C.P w = .ok (.value v) w) : OpV C s o [] v := ⟨hd, fun ρ w hr _ _ => h ρ w hr⟩
theorem rd1 {o : Oper} {ρ : Operand → Value} (hr : Reads C s o ρ) {x : Operand} (hx : x ∈ o.op.operands) (h : ev C s x = some v) : ρ x = v := hr x hx v h

theorem o_move (h : ev C s x = some v) : OpV C s ⟨d, .move x, ty, pos, aft, gd⟩ [] v := opv _ _ (by simp) fun ρ w hr => by simp [execOp, rd1 hr (by simp [Op.operands]) h]
theorem o_assign (h : ev C s x = some v) : OpV C s ⟨d, .assign x, ty, pos, aft, gd⟩ [] v := opv _ _ (by simp) fun ρ w hr => by simp [execOp, rd1 hr (by simp [Op.operands]) h]
theorem o_nilCheck {ad : Addr} (h : ev C s x = some (.pointer (some ad))) : OpV C s ⟨d, .nilCheck x, ty, pos, aft, gd⟩ [] (.pointer (some ad)) := opv _ _ (by simp) fun ρ w hr => by simp [execOp, rd1 hr (by simp [Op.operands]) h]
theorem o_pickT (h : ev C s x = some (.bool true)) (h2 : ev C s y = some v) : OpV C s ⟨d, .pick x y z, ty, pos, aft, gd⟩ [] v := opv _ _ (by simp) fun ρ w hr => by
  simp [execOp, rd1 hr (by simp [Op.operands]) h, rd1 hr (x := y) (by simp [Op.operands]) h2, asBool, Sem.run_bind, Result.andThen]
theorem o_pickF (h : ev C s x = some (.bool false)) (h2 : ev C s z = some v) : OpV C s ⟨d, .pick x y z, ty, pos, aft, gd⟩ [] v := opv _ _ (by simp) fun ρ w hr => by
  simp [execOp, rd1 hr (by simp [Op.operands]) h, rd1 hr (x := z) (by simp [Op.operands]) h2, asBool, Sem.run_bind, Result.andThen]
theorem o_not {b' c : Bool} (h : ev C s x = some (.bool b')) (hc : (!b') = c) : OpV C s ⟨d, .unOp .not T x, ty, pos, aft, gd⟩ [] (.bool c) := opv _ _ (by simp) fun ρ w hr => by
  subst hc; simp [execOp, rd1 hr (by simp [Op.operands]) h, Op.unary, Sem.run_bind, Result.andThen]
theorem o_neg (h : ev C s x = some (.int k a)) (hr' : k.wrap (0 - a) = r) : OpV C s ⟨d, .unOp .neg T x, ty, pos, aft, gd⟩ [] (.int k r) := opv _ _ (by simp) fun ρ w hr => by
  subst hr'; simp [execOp, rd1 hr (by simp [Op.operands]) h, Op.unary, Op.intArith, Sem.run_bind, Result.andThen]
theorem o_conv {k' k'' : IntKind} [h1 : TInt C.P S k'] [h2 : TInt C.P T k] (h : ev C s x = some (.int k'' a)) (hr' : k.wrap a = r) : OpV C s ⟨d, .convert S T x, ty, pos, aft, gd⟩ [] (.int k r) := opv _ _ (by simp) fun ρ w hr => by
  subst hr'; simp [execOp, rd1 hr (by simp [Op.operands]) h, convert, Sem.run_bind, run_underlying h1.h, run_underlying h2.h, Conv.intToInt, Result.andThen]
def lget {α : Type} : List α → Nat → Option α
  | [], _ => none
  | x :: _, 0 => some x
  | _ :: r, n + 1 => lget r n
theorem lget_ok {α : Type} : ∀ (l : List α) (i : Nat), lget l i = l[i]?
  | [], i => rfl
  | x :: r, 0 => rfl
  | x :: r, n + 1 => by simp [lget, lget_ok r n]
theorem o_extract {vl : List Value} {j : Nat} (h : ev C s x = some (.tuple vl.toArray)) (hr' : lget vl j = some v) : OpV C s ⟨d, .extract x j, ty, pos, aft, gd⟩ [] v := opv _ _ (by simp) fun ρ w hr => by
  rw [lget_ok] at hr'
  have : vl.toArray[j]? = some v := by simpa using hr'
  simp [execOp, rd1 hr (by simp [Op.operands]) h, Instr.extract, hr', Sem.run_bind, Result.andThen]

def binF (op : BinOp) (x y : Value) : Option Value := match x, y with
  | .int k a, .int k' b => (match op with
    | .shl => if b < 0 then none else some (.int k (k.wrap (a * 2 ^ (min b.toNat k.bits))))
    | .shr => if b < 0 then none else some (.int k (a.fdiv (2 ^ (min b.toNat k.bits))))
    | .add => if k = k' then some (.int k (k.wrap (a + b))) else none
    | .sub => if k = k' then some (.int k (k.wrap (a - b))) else none
    | .mul => if k = k' then some (.int k (k.wrap (a * b))) else none
    | .quo => if k = k' ∧ b ≠ 0 then some (.int k (k.wrap (a.tdiv b))) else none
    | .rem => if k = k' ∧ b ≠ 0 then some (.int k (a.tmod b)) else none
    | .and => if k = k' then some (.int k (k.wrap ((BitVec.ofInt k.bits a &&& BitVec.ofInt k.bits b).toNat))) else none
    | .or => if k = k' then some (.int k (k.wrap ((BitVec.ofInt k.bits a ||| BitVec.ofInt k.bits b).toNat))) else none
    | .eql => if k = k' then some (.bool (a == b)) else none
    | .neq => if k = k' then some (.bool (a != b)) else none
    | .lss => if k = k' then some (.bool (decide (a < b))) else none
    | .leq => if k = k' then some (.bool (decide (a ≤ b))) else none
    | .gtr => if k = k' then some (.bool (decide (a > b))) else none
    | .geq => if k = k' then some (.bool (decide (a ≥ b))) else none
    | _ => none)
  | _, _ => none
theorem run_binF {P : Program} {op : BinOp} {T : TypeId} {x y r : Value} (X Y : Operand) (h : binF op x y = some r) (w : World) :
    (do eqGuard op T X Y x y; binOp op T x y : Sem Value).run P w = .ok r w := by
  unfold binF at h
  split at h
  · rename_i k a k' b
    cases op <;> simp only at h <;>
      (first
        | (split at h
           · cases h
           · cases h
             rename_i hb
             simp [eqGuard, binOp, Op.shift, hb, Sem.run_bind, Result.andThen]
             done)
        | (split at h
           · rename_i hk
             first
               | (obtain ⟨hk, hb⟩ := hk; subst hk; cases h; simp [eqGuard, binOp, Op.intDiv, hb, Sem.run_bind, Result.andThen]; done)
               | (subst hk; cases h; simp [eqGuard, binOp, Op.intArith, Op.intCmp, Op.intBits, Sem.run_bind, Result.andThen]; done)
           · cases h)
        | cases h)
  · cases h
theorem o_bin {op : BinOp} (h : ev C s x = some v) (h2 : ev C s y = some u) {r : Value} (hb : binF op v u = some r) : OpV C s ⟨d, .binOp op T x y T', ty, pos, aft, gd⟩ [] r := opv _ _ (by simp) fun ρ w hr => by
  simp only [execOp, rd1 hr (x := x) (by simp [Op.operands]) h, rd1 hr (x := y) (by simp [Op.operands]) h2]
  rw [Sem.run_bind, run_binF x y hb]; rfl

theorem wrap_i64 {a : Int} (h : -9223372036854775808 ≤ a ∧ a < 9223372036854775808) : IntKind.wrap .i64 a = a := by
  simp [IntKind.wrap, IntKind.bits, IntKind.signed]
  split <;> omega
theorem wrap_u64 {a : Int} (h : 0 ≤ a ∧ a < 18446744073709551616) : IntKind.wrap .u64 a = a := by
  simp [IntKind.wrap, IntKind.bits, IntKind.signed]
  omega
theorem wrap_i32 {a : Int} (h : -2147483648 ≤ a ∧ a < 2147483648) : IntKind.wrap .i32 a = a := by
  simp [IntKind.wrap, IntKind.bits, IntKind.signed]
  split <;> omega
theorem wrap_u64m (a : Int) : IntKind.wrap .u64 a = a % 18446744073709551616 := by
  simp [IntKind.wrap, IntKind.bits, IntKind.signed]
theorem wrap_i64m (a : Int) : IntKind.wrap .i64 a = (a + 9223372036854775808) % 18446744073709551616 - 9223372036854775808 := by
  simp [IntKind.wrap, IntKind.bits, IntKind.signed]
  split <;> omega

theorem o_add (h : ev C s x = some (.int k a)) (h2 : ev C s y = some (.int k b)) (hr : k.wrap (a + b) = r) : OpV C s ⟨d, .binOp .add T x y T', ty, pos, aft, gd⟩ [] (.int k r) := o_bin h h2 (by simp [binF, hr])
theorem o_sub (h : ev C s x = some (.int k a)) (h2 : ev C s y = some (.int k b)) (hr : k.wrap (a - b) = r) : OpV C s ⟨d, .binOp .sub T x y T', ty, pos, aft, gd⟩ [] (.int k r) := o_bin h h2 (by simp [binF, hr])
theorem o_mul (h : ev C s x = some (.int k a)) (h2 : ev C s y = some (.int k b)) (hr : k.wrap (a * b) = r) : OpV C s ⟨d, .binOp .mul T x y T', ty, pos, aft, gd⟩ [] (.int k r) := o_bin h h2 (by simp [binF, hr])
theorem o_addi (h : ev C s x = some (.int .i64 a)) (h2 : ev C s y = some (.int .i64 b)) (hr : -9223372036854775808 ≤ a + b ∧ a + b < 9223372036854775808) : OpV C s ⟨d, .binOp .add T x y T', ty, pos, aft, gd⟩ [] (.int .i64 (a + b)) := o_add h h2 (wrap_i64 hr)
theorem o_subi (h : ev C s x = some (.int .i64 a)) (h2 : ev C s y = some (.int .i64 b)) (hr : -9223372036854775808 ≤ a - b ∧ a - b < 9223372036854775808) : OpV C s ⟨d, .binOp .sub T x y T', ty, pos, aft, gd⟩ [] (.int .i64 (a - b)) := o_sub h h2 (wrap_i64 hr)
theorem o_muli (h : ev C s x = some (.int .i64 a)) (h2 : ev C s y = some (.int .i64 b)) (hr : -9223372036854775808 ≤ a * b ∧ a * b < 9223372036854775808) : OpV C s ⟨d, .binOp .mul T x y T', ty, pos, aft, gd⟩ [] (.int .i64 (a * b)) := o_mul h h2 (wrap_i64 hr)
theorem o_addu (h : ev C s x = some (.int .u64 a)) (h2 : ev C s y = some (.int .u64 b)) : OpV C s ⟨d, .binOp .add T x y T', ty, pos, aft, gd⟩ [] (.int .u64 ((a + b) % 18446744073709551616)) := o_add h h2 (wrap_u64m _)
theorem o_subu (h : ev C s x = some (.int .u64 a)) (h2 : ev C s y = some (.int .u64 b)) : OpV C s ⟨d, .binOp .sub T x y T', ty, pos, aft, gd⟩ [] (.int .u64 ((a - b) % 18446744073709551616)) := o_sub h h2 (wrap_u64m _)
theorem o_mulu (h : ev C s x = some (.int .u64 a)) (h2 : ev C s y = some (.int .u64 b)) : OpV C s ⟨d, .binOp .mul T x y T', ty, pos, aft, gd⟩ [] (.int .u64 (a * b % 18446744073709551616)) := o_mul h h2 (wrap_u64m _)
theorem o_negi (h : ev C s x = some (.int .i64 a)) (hr : -9223372036854775808 ≤ -a ∧ -a < 9223372036854775808) : OpV C s ⟨d, .unOp .neg T x, ty, pos, aft, gd⟩ [] (.int .i64 (-a)) := o_neg h (by rw [show 0 - a = -a by omega]; exact wrap_i64 hr)
theorem o_negu (h : ev C s x = some (.int .u64 a)) : OpV C s ⟨d, .unOp .neg T x, ty, pos, aft, gd⟩ [] (.int .u64 (-a % 18446744073709551616)) := o_neg h (by rw [show 0 - a = -a by omega]; exact wrap_u64m _)
theorem o_convi {k' k'' : IntKind} [h1 : TInt C.P S k'] [h2 : TInt C.P T .i64] (h : ev C s x = some (.int k'' a)) (hr : -9223372036854775808 ≤ a ∧ a < 9223372036854775808) : OpV C s ⟨d, .convert S T x, ty, pos, aft, gd⟩ [] (.int .i64 a) := o_conv h (wrap_i64 hr)
theorem o_convu {k' k'' : IntKind} [h1 : TInt C.P S k'] [h2 : TInt C.P T .u64] (h : ev C s x = some (.int k'' a)) : OpV C s ⟨d, .convert S T x, ty, pos, aft, gd⟩ [] (.int .u64 (a % 18446744073709551616)) := o_conv h (wrap_u64m _)
theorem o_convm {k' k'' : IntKind} [h1 : TInt C.P S k'] [h2 : TInt C.P T .i64] (h : ev C s x = some (.int k'' a)) : OpV C s ⟨d, .convert S T x, ty, pos, aft, gd⟩ [] (.int .i64 ((a + 9223372036854775808) % 18446744073709551616 - 9223372036854775808)) := o_conv h (wrap_i64m _)
theorem o_quo (h : ev C s x = some (.int k a)) (h2 : ev C s y = some (.int k b)) (hb : b ≠ 0) (hr : k.wrap (a.tdiv b) = r) : OpV C s ⟨d, .binOp .quo T x y T', ty, pos, aft, gd⟩ [] (.int k r) := o_bin h h2 (by simp [binF, hb, hr])
/-- a division of what is not negative -/
theorem o_quon (h : ev C s x = some (.int k a)) (h2 : ev C s y = some (.int k b)) (hb : 0 ≤ a ∧ 0 < b) (hr : k.wrap (a / b) = a / b) : OpV C s ⟨d, .binOp .quo T x y T', ty, pos, aft, gd⟩ [] (.int k (a / b)) :=
  o_quo h h2 (by omega) (by rw [Int.tdiv_eq_ediv_of_nonneg hb.1]; exact hr)
theorem o_rem (h : ev C s x = some (.int k a)) (h2 : ev C s y = some (.int k b)) (hb : b ≠ 0) : OpV C s ⟨d, .binOp .rem T x y T', ty, pos, aft, gd⟩ [] (.int k (a.tmod b)) := o_bin h h2 (by simp [binF, hb])
theorem o_remn (h : ev C s x = some (.int k a)) (h2 : ev C s y = some (.int k b)) (hb : 0 ≤ a ∧ 0 < b) : OpV C s ⟨d, .binOp .rem T x y T', ty, pos, aft, gd⟩ [] (.int k (a % b)) := by
  rw [← Int.tmod_eq_emod_of_nonneg hb.1]; exact o_rem h h2 (by omega)
theorem o_shr {k' : IntKind} {n : Nat} (h : ev C s x = some (.int k a)) (h2 : ev C s y = some (.int k' b)) (hb : ¬ b < 0) (hn : min b.toNat k.bits = n) {p : Int} (hp : (2 : Int) ^ n = p) : OpV C s ⟨d, .binOp .shr T x y T', ty, pos, aft, gd⟩ [] (.int k (a / p)) :=
  o_bin h h2 (by subst hp; have hp : (0 : Int) ≤ 2 ^ n := Int.pow_nonneg (by decide); simp only [binF, if_neg hb, hn, Int.fdiv_eq_ediv_of_nonneg _ hp])
theorem o_shl {k' : IntKind} {n : Nat} (h : ev C s x = some (.int k a)) (h2 : ev C s y = some (.int k' b)) (hb : ¬ b < 0) (hn : min b.toNat k.bits = n) {p : Int} (hp : (2 : Int) ^ n = p) (hr : k.wrap (a * p) = r) : OpV C s ⟨d, .binOp .shl T x y T', ty, pos, aft, gd⟩ [] (.int k r) :=
  o_bin h h2 (by subst hp; simp only [binF, if_neg hb, hn, hr])
theorem o_and (h : ev C s x = some (.int k a)) (h2 : ev C s y = some (.int k b)) (hr : k.wrap ((BitVec.ofInt k.bits a &&& BitVec.ofInt k.bits b).toNat) = r) : OpV C s ⟨d, .binOp .and T x y T', ty, pos, aft, gd⟩ [] (.int k r) := o_bin h h2 (by simp only [binF, if_true, hr])
theorem o_or (h : ev C s x = some (.int k a)) (h2 : ev C s y = some (.int k b)) (hr : k.wrap ((BitVec.ofInt k.bits a ||| BitVec.ofInt k.bits b).toNat) = r) : OpV C s ⟨d, .binOp .or T x y T', ty, pos, aft, gd⟩ [] (.int k r) := o_bin h h2 (by simp only [binF, if_true, hr])
theorem o_lss (h : ev C s x = some (.int k a)) (h2 : ev C s y = some (.int k b)) : OpV C s ⟨d, .binOp .lss T x y T', ty, pos, aft, gd⟩ [] (.bool (decide (a < b))) := o_bin h h2 (by simp [binF])
theorem o_leq (h : ev C s x = some (.int k a)) (h2 : ev C s y = some (.int k b)) : OpV C s ⟨d, .binOp .leq T x y T', ty, pos, aft, gd⟩ [] (.bool (decide (a ≤ b))) := o_bin h h2 (by simp [binF])
theorem o_gtr (h : ev C s x = some (.int k a)) (h2 : ev C s y = some (.int k b)) : OpV C s ⟨d, .binOp .gtr T x y T', ty, pos, aft, gd⟩ [] (.bool (decide (b < a))) := o_bin h h2 (by simp [binF])
theorem o_geq (h : ev C s x = some (.int k a)) (h2 : ev C s y = some (.int k b)) : OpV C s ⟨d, .binOp .geq T x y T', ty, pos, aft, gd⟩ [] (.bool (decide (b ≤ a))) := o_bin h h2 (by simp [binF])
theorem o_eql (h : ev C s x = some (.int k a)) (h2 : ev C s y = some (.int k b)) : OpV C s ⟨d, .binOp .eql T x y T', ty, pos, aft, gd⟩ [] (.bool (decide (a = b))) := o_bin h h2 (by simp only [binF, if_true, Option.some.injEq, Value.bool.injEq]; by_cases e : a = b <;> simp [e])
theorem o_neq (h : ev C s x = some (.int k a)) (h2 : ev C s y = some (.int k b)) : OpV C s ⟨d, .binOp .neq T x y T', ty, pos, aft, gd⟩ [] (.bool (decide (a ≠ b))) := o_bin h h2 (by simp only [binF, if_true, Option.some.injEq, Value.bool.injEq]; by_cases e : a = b <;> simp [e])
theorem o_eqlb [ht : TBool C.P T] {b' c' : Bool} (h : ev C s x = some (.bool b')) (h2 : ev C s y = some (.bool c')) {r : Bool} (hr : (b' == c') = r) : OpV C s ⟨d, .binOp .eql T x y T', ty, pos, aft, gd⟩ [] (.bool r) := opv _ _ (by simp) fun ρ w hr' => by
  subst hr
  have := run_eql_bool (P := C.P) w T b' c' ht.h
  simp [execOp, rd1 hr' (x := x) (by simp [Op.operands]) h, rd1 hr' (x := y) (by simp [Op.operands]) h2, eqGuard, Sem.run_bind, Result.andThen, this]
theorem o_neqb [ht : TBool C.P T] {b' c' : Bool} (h : ev C s x = some (.bool b')) (h2 : ev C s y = some (.bool c')) {r : Bool} (hr : (b' != c') = r) : OpV C s ⟨d, .binOp .neq T x y T', ty, pos, aft, gd⟩ [] (.bool r) := opv _ _ (by simp) fun ρ w hr' => by
  subst hr
  have := run_equal_bool (P := C.P) w T b' c' ht.h
  simp [execOp, rd1 hr' (x := x) (by simp [Op.operands]) h, rd1 hr' (x := y) (by simp [Op.operands]) h2, eqGuard, binOp, Sem.run_bind, Result.andThen, this, bne]
theorem o_min (h : ev C s x = some (.int k a)) (h2 : ev C s y = some (.int k b)) {ts : Array TypeId} : OpV C s ⟨d, .call { callee := .builtin .min, args := #[x, y], argTypes := ts }, ty, pos, aft, gd⟩ [] (.int k (if b < a then b else a)) := opv _ _ (by simp) fun ρ w hr => by
  simp [execOp, resolve, rd1 hr (x := x) (by simp [Op.operands, Call.operands]) h, rd1 hr (x := y) (by simp [Op.operands, Call.operands]) h2, invoke, builtin, Builtin.min_, Builtin.min2, Sem.run_bind, Result.andThen]
theorem o_max (h : ev C s x = some (.int k a)) (h2 : ev C s y = some (.int k b)) {ts : Array TypeId} : OpV C s ⟨d, .call { callee := .builtin .max, args := #[x, y], argTypes := ts }, ty, pos, aft, gd⟩ [] (.int k (if a < b then b else a)) := opv _ _ (by simp) fun ρ w hr => by
  simp [execOp, resolve, rd1 hr (x := x) (by simp [Op.operands, Call.operands]) h, rd1 hr (x := y) (by simp [Op.operands, Call.operands]) h2, invoke, builtin, Builtin.max_, Builtin.max2, Sem.run_bind, Result.andThen]

/-! ### pointers -/
theorem o_fld {bl off j n : Nat} [ht : TFld C.P S j n] (h : ev C s x = some (.pointer (some ⟨bl, off, none⟩))) : OpV C s ⟨d, .fieldAddr S x j, ty, pos, aft, gd⟩ [] (.pointer (some ⟨bl, off + n, none⟩)) := opv _ _ (by simp) fun ρ w hr => by
  obtain ⟨fs, fd, hS, hfd, rfl, hsz⟩ := ht.h
  obtain ⟨m, hm, hi⟩ := hsz w
  rw [← addAt]
  simp [execOp, rd1 hr (by simp [Op.operands]) h, Instr.fieldAt, Instr.sureAddr, Sem.run_bind, run_underlying hS, hfd, fieldPlace, hi, hm, Result.andThen]

/-- cells that are known -/
def CellsAt (w : World) (a : Addr) (cs : List Value) : Prop := ∀ j v, cs[j]? = some v → w.cell? (a.add j) = some v
theorem run_loadVar_agg {P : Program} {w : World} {T n : Nat} {a : Addr} {cs : List Value} (ht : TAgg P T n) (hl : cs.length = n) (hc : CellsAt w a cs) : (loadVar T a).run P w = .ok (.agg cs.toArray) w := by
  have h1 : (loadCells a cs.length).run P w = .ok cs.toArray w := by simpa using run_loadCells_list (P := P) w a cs hc
  unfold loadVar
  rw [Sem.run_bind, ht.isAgg]
  simp [Sem.run_bind, ht.sz, ← hl, h1, Result.andThen]
theorem run_loadVar_one {P : Program} {w : World} {T : Nat} {a : Addr} {v : Value} (ht : TOne P T) (hc : w.cell? a = some v) : (loadVar T a).run P w = .ok v w := by
  unfold loadVar
  rw [Sem.run_bind, ht.isAgg]
  simp [Result.andThen, run_load, hc]
theorem Blk.cellsAt {w : World} {b : Nat} {cs : List Value} {T : TypeId} (h : Blk w b cs.toArray T) (off : Nat) (l : List Value) (hl : ∀ j v, l[j]? = some v → cs[off + j]? = some v) : CellsAt w ⟨b, off, none⟩ l := fun j v hv => by
  rw [addAt]; exact h.cell _ v (by simpa using hl j v hv)

theorem o_load1 {bl off key : Nat} {cs : List Value} [ht : TOne C.P T] (h : ev C s x = some (.pointer (some ⟨bl, off, none⟩))) (hm : s.m key = some (.box bl T' cs)) (hv : cs[off]? = some v) : OpV C s ⟨d, .load T x, ty, pos, aft, gd⟩ [key] v :=
  ⟨by simp, fun ρ w hr _ hh => by
    have hb : Blk w bl cs.toArray T' := hh key (by simp) _ hm
    simp [execOp, rd1 hr (x := x) (by simp [Op.operands]) h, Instr.loadAt, Instr.sureAddr, Sem.run_bind, Result.andThen, run_loadVar_one ht (hb.cell off v (by simpa using hv))]⟩
theorem o_loadW {bl key n : Nat} {cs : List Value} [ht : TAgg C.P T n] (h : ev C s x = some (.pointer (some ⟨bl, 0, none⟩))) (hm : s.m key = some (.box bl T' cs)) (hl : cs.length = n) : OpV C s ⟨d, .load T x, ty, pos, aft, gd⟩ [key] (.agg cs.toArray) :=
  ⟨by simp, fun ρ w hr _ hh => by
    have hb : Blk w bl cs.toArray T' := hh key (by simp) _ hm
    simp [execOp, rd1 hr (x := x) (by simp [Op.operands]) h, Instr.loadAt, Instr.sureAddr, Sem.run_bind, Result.andThen, run_loadVar_agg ht hl (hb.cellsAt 0 cs fun j v hj => by simpa using hj)]⟩
theorem o_loadP {bl off key n : Nat} {cs rs : List Value} [ht : TAgg C.P T n] (h : ev C s x = some (.pointer (some ⟨bl, off, none⟩))) (hm : s.m key = some (.box bl T' cs)) (hr' : (cs.drop off).take n = rs) (hl : rs.length = n) : OpV C s ⟨d, .load T x, ty, pos, aft, gd⟩ [key] (.agg rs.toArray) :=
  ⟨by simp, fun ρ w hr _ hh => by
    have hb : Blk w bl cs.toArray T' := hh key (by simp) _ hm
    simp [execOp, rd1 hr (x := x) (by simp [Op.operands]) h, Instr.loadAt, Instr.sureAddr, Sem.run_bind, Result.andThen, run_loadVar_agg ht hl (hb.cellsAt off rs fun j v hj => by
      subst hr'
      rw [List.getElem?_take] at hj
      split at hj
      · rw [List.getElem?_drop] at hj; exact hj
      · cases hj)]⟩
/-- of memory that nobody turns -/
theorem o_loadG1 {ad : Addr} [ht : TOne C.P T] (h : ev C s x = some (.pointer (some ad))) (hg : ∀ w, s.g w → w.cell? ad = some v) : OpV C s ⟨d, .load T x, ty, pos, aft, gd⟩ [] v :=
  ⟨by simp, fun ρ w hr hg' _ => by
    simp [execOp, rd1 hr (x := x) (by simp [Op.operands]) h, Instr.loadAt, Instr.sureAddr, Sem.run_bind, Result.andThen, run_loadVar_one ht (hg w hg')]⟩
theorem o_loadGA {ad : Addr} {n : Nat} {cs : List Value} [ht : TAgg C.P T n] (h : ev C s x = some (.pointer (some ad))) (hl : cs.length = n) (hg : ∀ w, s.g w → CellsAt w ad cs) : OpV C s ⟨d, .load T x, ty, pos, aft, gd⟩ [] (.agg cs.toArray) :=
  ⟨by simp, fun ρ w hr hg' _ => by
    simp [execOp, rd1 hr (x := x) (by simp [Op.operands]) h, Instr.loadAt, Instr.sureAddr, Sem.run_bind, Result.andThen, run_loadVar_agg ht hl (hg w hg')]⟩

theorem o_store {bl off key : Nat} {cs xs rs : List Value} {n : Nat} (hsz : ∀ w, (sizeOf T).run C.P w = .ok n w) (h : ev C s x = some (.pointer (some ⟨bl, off, none⟩))) (h2 : ev C s y = some v) (hx : v.cells.toList = xs) (hm : s.m key = some (.box bl T' cs)) (hn : xs.length = n)
    (hle : off + n ≤ cs.length) (h1 : xs.all (·.oneCell') = true) (hr' : cs.take off ++ xs ++ cs.drop (off + n) = rs) : OpS C s ⟨d, .store T x y, ty, pos, aft, gd⟩ key (.box bl T' cs) (.box bl T' rs) :=
  ⟨by simp, hm, rfl, fun ρ w hr hb => by
    have hb : Blk w bl cs.toArray T' := hb
    subst hr' hx
    have hst := run_storeCells_at (P := C.P) bl off T' v.cells.toList 0 cs.toArray w hb (by simp; simp at hn; omega) (fun v hv => (List.all_eq_true.1 h1) v hv)
    simp only [Nat.add_zero, Array.length_toList] at hst
    have hvs : v.cells.size = n := by simpa using hn
    refine ⟨w.setRow bl (cs.take off ++ v.cells.toList ++ cs.drop (off + n)).toArray, ?_, setRow_heap w bl cs.toArray _ _ _ hb, (Chg.setRow w bl _).mono fun k _ hk => by simp [Hp.has, hk]⟩
    have hrow : (storeVar T ⟨bl, off, none⟩ v).run C.P w = .ok () (w.setRow bl (cs.take off ++ v.cells.toList ++ cs.drop (off + n)).toArray) := by
      unfold storeVar
      simp [Sem.run_bind, hsz, Result.andThen, hvs] at hst ⊢
      rw [hst]
    simp [execOp, rd1 hr (x := x) (by simp [Op.operands]) h, rd1 hr (x := y) (by simp [Op.operands]) h2, Instr.storeAt, Instr.sureAddr, Sem.run_bind, Result.andThen, hrow]⟩
theorem o_storeW {bl key n : Nat} {cs xs : List Value} [ht : TAgg C.P T n] (h : ev C s x = some (.pointer (some ⟨bl, 0, none⟩))) (h2 : ev C s y = some v) (hx : v.cells.toList = xs) (hm : s.m key = some (.box bl T' cs)) (hn : xs.length = n) (hc : cs.length = n) (h1 : xs.all (·.oneCell') = true) :
    OpS C s ⟨d, .store T x y, ty, pos, aft, gd⟩ key (.box bl T' cs) (.box bl T' xs) := o_store ht.sz h h2 hx hm hn (by omega) h1 (by simp [hc])
theorem o_storeP {bl off key n : Nat} {cs xs rs : List Value} [ht : TAgg C.P T n] (h : ev C s x = some (.pointer (some ⟨bl, off, none⟩))) (h2 : ev C s y = some v) (hx : v.cells.toList = xs) (hm : s.m key = some (.box bl T' cs)) (hn : xs.length = n)
    (hle : Nat.ble (off + n) cs.length = true) (h1 : xs.all (·.oneCell') = true) (hr' : cs.take off ++ xs ++ cs.drop (off + n) = rs) : OpS C s ⟨d, .store T x y, ty, pos, aft, gd⟩ key (.box bl T' cs) (.box bl T' rs) := o_store ht.sz h h2 hx hm hn (Nat.le_of_ble_eq_true hle) h1 hr'
theorem o_store1 {bl off key : Nat} {cs rs : List Value} [ht : TOne C.P T] (h : ev C s x = some (.pointer (some ⟨bl, off, none⟩))) (h2 : ev C s y = some v) (hx : v.cells.toList = [v]) (hm : s.m key = some (.box bl T' cs))
    (hle : Nat.ble (off + 1) cs.length = true) (h1 : v.oneCell' = true) (hr' : cs.set off v = rs) : OpS C s ⟨d, .store T x y, ty, pos, aft, gd⟩ key (.box bl T' cs) (.box bl T' rs) :=
  o_store ht.sz h h2 hx hm rfl (Nat.le_of_ble_eq_true hle) (by simp [h1]) (by
    have hlt : off < cs.length := Nat.le_of_ble_eq_true hle
    rw [← hr', List.set_eq_take_append_cons_drop, if_pos hlt]; simp)

theorem o_alloc {zs : List Value} [hz : TZero C.P T zs] : OpN C s ⟨d, .alloc T, ty, pos, aft, gd⟩ (fun b => .pointer (some ⟨b, 0, none⟩)) T zs :=
  ⟨by simp, fun ρ w hr => by
    obtain ⟨v, h1, h2⟩ := hz.h w
    subst h1
    simp [execOp, Instr.alloc, newVar, newRow, Sem.run_bind, h2, Result.andThen, run_newObj_alloc]⟩
theorem o_box {cs : List Value} (h : ev C s x = some v) (hc : v.cells.toList = cs) : OpN C s ⟨d, .box T x, ty, pos, aft, gd⟩ (fun b => .pointer (some ⟨b, 0, none⟩)) T cs :=
  ⟨by simp, fun ρ w hr => by
    subst hc
    simp [execOp, Instr.box, newVar, newRow, Sem.run_bind, rd1 hr (x := x) (by simp [Op.operands]) h, Result.andThen, run_newObj_alloc]⟩

def evs (C : Cx) (s : St) : List Operand → Option (List Value)
  | [] => some []
  | x :: r => match ev C s x, evs C s r with | some v, some l => some (v :: l) | _, _ => none
theorem evs_ok {ρ : Operand → Value} : ∀ (xs : List Operand) (vs : List Value), (∀ x ∈ xs, ∀ v, ev C s x = some v → ρ x = v) → evs C s xs = some vs → xs.map ρ = vs
  | [], vs, _, h => by simp [evs] at h; simp [h]
  | x :: xs, vs, hr, h => by
    simp only [evs] at h
    split at h
    · rename_i v l hv hl
      cases h
      simp [hr x List.mem_cons_self v hv, evs_ok xs l (fun x hx => hr x (List.mem_cons_of_mem _ hx)) hl]
    · cases h
def splice : List Value → Nat → List Value → List Value
  | zs, _, [] => zs
  | zs, off, c :: cs => splice (zs.set off c) (off + 1) cs
def fillL (pl : List (Nat × Nat)) : List Value → List (Nat × Value) → Option (List Value)
  | zs, [] => some zs
  | zs, (i, v) :: r => match pl[i]? with
    | some (off, n) => (match Nat.beq v.cells.toList.length n && Nat.ble (off + n) zs.length with | true => fillL pl (splice zs off v.cells.toList) r | false => none)
    | none => none
theorem splice_ok : ∀ (cs : List Value) (zs : Array Value) (off k : Nat), ((cs.zipIdx k).foldl (fun cs (p : Value × Nat) => cs.setIfInBounds (off + p.2) p.1) zs).toList = splice zs.toList (off + k) cs
  | [], zs, off, k => rfl
  | c :: cs, zs, off, k => by
    rw [List.zipIdx_cons, List.foldl_cons, splice_ok cs _ off (k + 1)]
    simp only [splice, Array.toList_setIfInBounds]
    rfl
theorem splice_len : ∀ (cs zs : List Value) (off : Nat), (splice zs off cs).length = zs.length
  | [], zs, off => rfl
  | c :: cs, zs, off => by simp [splice, splice_len cs]
theorem fillL_ok (pl : List (Nat × Nat)) : ∀ (ps : List (Nat × Value)) (zs : List Value) (rs : List Value), fillL pl zs ps = some rs → Instr.fill (pl.toArray[·]?) zs.toArray ps = some rs.toArray
  | [], zs, rs, h => by simp only [fillL, Option.some.injEq] at h; subst h; rfl
  | (i, v) :: r, zs, rs, h => by
    simp only [fillL] at h
    split at h
    · rename_i off n hp
      split at h
      · rename_i hc
        simp only [Bool.and_eq_true] at hc
        have h1 : v.cells.size = n := by simpa using Nat.eq_of_beq_eq_true hc.1
        have h2 : off + n ≤ zs.length := Nat.le_of_ble_eq_true hc.2
        have ih := fillL_ok pl r _ rs h
        have hp' : (pl.toArray)[i]? = some (off, n) := by simpa using hp
        simp only [Instr.fill, hp']
        rw [if_neg (by simp [h1]; omega), ← ih]
        congr 1
        apply Array.ext'
        have := splice_ok v.cells.toList zs.toArray off 0
        simp only [Nat.add_zero] at this
        rw [← this, ← Array.foldl_toList, Array.toList_zipIdx]
      · cases h
    · cases h
theorem o_build {places : List (Nat × Nat)} {zs : List Value} [ht : TBuild C.P T places zs] {ps : Array (Nat × Operand)} {vs : List Value} {cs : List Value} (h : evs C s (ps.toList.map (·.2)) = some vs)
    (hr' : fillL places zs ((ps.toList.map (·.1)).zip vs) = some cs) : OpV C s ⟨d, .build T ps, ty, pos, aft, gd⟩ [] (.agg cs.toArray) := opv _ _ (by simp) fun ρ w hr => by
  have h1 := evs_ok (C := C) (s := s) (ρ := ρ) (ps.toList.map (·.2)) vs (fun x hx v hv => rd1 hr (x := x) (by simpa [Op.operands] using hx) hv) h
  have hps : (ps.map fun p => (p.1, ρ p.2)).toList = (ps.toList.map (·.1)).zip vs := by
    rw [Array.toList_map, ← h1, List.map_map, List.zip_map']
    rfl
  have hb := run_build (P := C.P) w T (ps.map fun p => (p.1, ρ p.2)) cs.toArray (by rw [hps, ht.h]; exact fillL_ok _ _ _ _ hr')
  have : (execOp ρ ⟨d, .build T ps, ty, pos, aft, gd⟩) = (do pure (.value (← Instr.build T (ps.map fun p => (p.1, ρ p.2)))) : Sem Next) := by simp only [execOp]
  rw [this, Sem.run_bind, hb]; rfl
end Go.Proofs.Ytpgjbalnipinoaa

/- The walk over states that are lists: in the order of the text, in a region that draws, control, calls, into a function and out of it. Conditions: none. -/
namespace Go.Proofs.Ytpgjbalnipinoaa
open Go.Proofs Go.RowKit

variable {C : Cx} {K : Exit → St → Prop} {ops : Array Oper} {rest : List Oper} {l l' : List (Nat × Value)} {m m' : List (Nat × Hp)} {g : World → Prop} {gb : Nat → Prop} {dd : List Nat}
  {i : Nat} {d : Option Nat} {op : Op} {ty : TypeId} {pos : String} {aft : Array Edge} {gd : Option (Nat × Bool)} {ks : List Nat} {y : Value} {T : TypeId}

/-! ### in the order of the text -/
theorem l_val (hw : wantS C (mk l m g gb dd) ops ⟨some i, op, ty, pos, aft, gd⟩ = some true) (h : OpV C (mk l m g gb dd) ⟨some i, op, ty, pos, aft, gd⟩ ks y) (next : VL C ops rest K (mk ((i, y) :: l) m g gb dd)) : VL C ops (⟨some i, op, ty, pos, aft, gd⟩ :: rest) K (mk l m g gb dd) :=
  vl_val hw h (by simp only [mk_put]; exact next)
theorem l_call (hw : wantS C (mk l m g gb dd) ops ⟨some i, op, ty, pos, aft, gd⟩ = some true) (h : OpC C (mk l m g gb dd) ⟨some i, op, ty, pos, aft, gd⟩ ks y) (next : VL C ops rest K (mk ((i, y) :: l) m g gb dd)) : VL C ops (⟨some i, op, ty, pos, aft, gd⟩ :: rest) K (mk l m g gb dd) :=
  vl_call hw h (by simp only [mk_put]; exact next)
theorem l_call0 (hw : wantS C (mk l m g gb dd) ops ⟨none, op, ty, pos, aft, gd⟩ = some true) (h : OpC C (mk l m g gb dd) ⟨none, op, ty, pos, aft, gd⟩ ks y) (next : VL C ops rest K (mk l m g gb dd)) : VL C ops (⟨none, op, ty, pos, aft, gd⟩ :: rest) K (mk l m g gb dd) :=
  vl_call hw h next
theorem l_no (hw : wantS C (mk l m g gb dd) ops ⟨some i, op, ty, pos, aft, gd⟩ = some false) (next : VL C ops rest K (mk ((i, undef) :: l) m g gb dd)) : VL C ops (⟨some i, op, ty, pos, aft, gd⟩ :: rest) K (mk l m g gb dd) :=
  vl_no' hw (by simp only [mk_put]; exact next)
theorem l_no0 (hw : wantS C (mk l m g gb dd) ops ⟨none, op, ty, pos, aft, gd⟩ = some false) (next : VL C ops rest K (mk l m g gb dd)) : VL C ops (⟨none, op, ty, pos, aft, gd⟩ :: rest) K (mk l m g gb dd) :=
  vl_no' hw next
theorem l_split {p : Prop} [Decidable p] (hw : wantS C (mk l m g gb dd) ops ⟨some i, op, ty, pos, aft, gd⟩ = some true) (h : OpV C (mk l m g gb dd) ⟨some i, op, ty, pos, aft, gd⟩ ks (.bool (decide p)))
    (yes : p → VL C ops rest K (mk ((i, .bool true) :: l) m g gb dd)) (no : ¬ p → VL C ops rest K (mk ((i, .bool false) :: l) m g gb dd)) : VL C ops (⟨some i, op, ty, pos, aft, gd⟩ :: rest) K (mk l m g gb dd) := by
  refine l_val hw h ?_
  by_cases hp : p
  · rw [decide_eq_true hp]; exact yes hp
  · rw [decide_eq_false hp]; exact no hp
theorem l_store {k : Nat} {h h' : Hp} (hw : wantS C (mk l m g gb dd) ops ⟨none, op, ty, pos, aft, gd⟩ = some true) (hs : OpS C (mk l m g gb dd) ⟨none, op, ty, pos, aft, gd⟩ k h h') (next : VL C ops rest K (mk l ((k, h') :: m) g gb dd)) : VL C ops (⟨none, op, ty, pos, aft, gd⟩ :: rest) K (mk l m g gb dd) :=
  vl_store hw hs rfl (by simp only [mk_mem]; exact next)
theorem l_new {cs : List Value} (hw : wantS C (mk l m g gb dd) ops ⟨some i, op, ty, pos, aft, gd⟩ = some true) (h : OpN C (mk l m g gb dd) ⟨some i, op, ty, pos, aft, gd⟩ (fun b => .pointer (some ⟨b, 0, none⟩)) T cs) (next : ∀ b, VL C ops rest K (mk ((i, .pointer (some ⟨b, 0, none⟩)) :: l) ((i, .box b T cs) :: m) g gb dd)) :
    VL C ops (⟨some i, op, ty, pos, aft, gd⟩ :: rest) K (mk l m g gb dd) :=
  vl_new hw h rfl fun b => by simp only [appS, mk_mem, mk_put]; exact next b
theorem l_nil (h : K .normal (mk l m g gb dd)) : VL C ops [] K (mk l m g gb dd) := vl_nil h

/-! ### whatever order -/
/-- a region that draws, κs: the blocks that its operations go to -/
structure VDZ {wf : Nat → Value → Prop} (C : Cx) (ops : Array Oper) (os : List Oper) (κs : List (List Nat)) (K : Exit → St → Prop) (S : Pr wf → St) : Prop where
  vd : VD C ops ((os.take κs.length).zip κs) (os.drop κs.length) K S

variable {wf : Nat → Value → Prop} {L : Pr wf → List (Nat × Value)} {M : Pr wf → List (Nat × Hp)} {os : List Oper} {κ : List Nat} {κs : List (List Nat)}

/-- nothing is known of the values that are drawn -/
abbrev anyV : Nat → Value → Prop := fun _ _ => True
theorem v_drawZ {id : Nat} (κs : List (List Nat)) (hm : C.P.follows .mixedOrders = true) (h : VDZ C os.toArray os κs K (fun _ : Pr anyV => mk l m g gb dd)) (hle : (os.take κs.length).length = κs.length) (hok : drawOk os ((os.take κs.length).zip κs) = true) : V C (.region id os.toArray true) K (mk l m g gb dd) :=
  v_draw (⟨fun _ => 0, fun _ => undef, fun _ => trivial⟩ : Pr anyV) κs hm hle hok h.vd
theorem d_nil (h : ∀ σ, VL C ops os K (mk (L σ) (M σ) g gb dd)) : VDZ C ops os [] K (fun σ => mk (L σ) (M σ) g gb dd) := ⟨vd_nil h⟩
theorem d_cons {o : Oper} {S : Pr wf → St} {r : Pr wf → Value × Wr} (h : EvP C ops S (o, κ) r) (t : VDZ C ops os κs K (appP S o.dst r)) : VDZ C ops (o :: os) (κ :: κs) K S := ⟨vd_cons (o := (o, κ)) h t.vd⟩
theorem d_val {Y : Pr wf → Value} (hw : ∀ σ, wantS C (mk (L σ) (M σ) g gb dd) ops ⟨some i, op, ty, pos, aft, gd⟩ = some true) (_hn : isNew ⟨some i, op, ty, pos, aft, gd⟩ = false) (_hs : isSt ⟨some i, op, ty, pos, aft, gd⟩ = false)
    (h : ∀ σ, OpV C (mk (L σ) (M σ) g gb dd) ⟨some i, op, ty, pos, aft, gd⟩ κ (Y σ)) (next : VDZ C ops os κs K (fun σ => mk ((i, Y σ) :: L σ) (M σ) g gb dd)) : VDZ C ops (⟨some i, op, ty, pos, aft, gd⟩ :: os) (κ :: κs) K (fun σ => mk (L σ) (M σ) g gb dd) :=
  d_cons (.inl ⟨hw, .val Y h⟩) (by simp only [appP, appS, St.mem, mk_put]; exact next)
theorem d_call (hw : ∀ σ, wantS C (mk (L σ) (M σ) g gb dd) ops ⟨some i, op, ty, pos, aft, gd⟩ = some true)
    (h : ∀ σ, OpC C (mk (L σ) (M σ) g gb dd) ⟨some i, op, ty, pos, aft, gd⟩ κ y) (next : VDZ C ops os κs K (fun σ => mk ((i, y) :: L σ) (M σ) g gb dd)) : VDZ C ops (⟨some i, op, ty, pos, aft, gd⟩ :: os) (κ :: κs) K (fun σ => mk (L σ) (M σ) g gb dd) :=
  d_cons (.inl ⟨hw, .call y h⟩) (by simp only [appP, appS, St.mem, mk_put]; exact next)
theorem d_valC {Y : Pr wf → Value} (hw : ∀ σ, wantS C (mk (L σ) (M σ) g gb dd) ops ⟨some i, op, ty, pos, aft, gd⟩ = some true)
    (h : ∀ σ, OpV C (mk (L σ) (M σ) g gb dd) ⟨some i, op, ty, pos, aft, gd⟩ κ (Y σ)) (next : VDZ C ops os κs K (fun σ => mk ((i, Y σ) :: L σ) (M σ) g gb dd)) : VDZ C ops (⟨some i, op, ty, pos, aft, gd⟩ :: os) (κ :: κs) K (fun σ => mk (L σ) (M σ) g gb dd) :=
  d_cons (.inl ⟨hw, .val Y h⟩) (by simp only [appP, appS, St.mem, mk_put]; exact next)
theorem d_no (hw : ∀ σ, wantS C (mk (L σ) (M σ) g gb dd) ops ⟨some i, op, ty, pos, aft, gd⟩ = some false) (next : VDZ C ops os κs K (fun σ => mk ((i, undef) :: L σ) (M σ) g gb dd)) : VDZ C ops (⟨some i, op, ty, pos, aft, gd⟩ :: os) (κ :: κs) K (fun σ => mk (L σ) (M σ) g gb dd) :=
  d_cons (.inr ⟨hw, rfl⟩) (by simp only [appP, appS, St.mem, mk_put]; exact next)
theorem d_split {p : Prop} [Decidable p] (hw : ∀ σ, wantS C (mk (L σ) (M σ) g gb dd) ops ⟨some i, op, ty, pos, aft, gd⟩ = some true) (_hn : isNew ⟨some i, op, ty, pos, aft, gd⟩ = false) (_hs : isSt ⟨some i, op, ty, pos, aft, gd⟩ = false)
    (h : ∀ σ, OpV C (mk (L σ) (M σ) g gb dd) ⟨some i, op, ty, pos, aft, gd⟩ κ (.bool (decide p)))
    (yes : p → VDZ C ops os κs K (fun σ => mk ((i, .bool true) :: L σ) (M σ) g gb dd)) (no : ¬ p → VDZ C ops os κs K (fun σ => mk ((i, .bool false) :: L σ) (M σ) g gb dd)) : VDZ C ops (⟨some i, op, ty, pos, aft, gd⟩ :: os) (κ :: κs) K (fun σ => mk (L σ) (M σ) g gb dd) := by
  by_cases hp : p
  · refine d_val (Y := fun _ => .bool true) hw _hn _hs (fun σ => ?_) (yes hp)
    have := h σ; rwa [decide_eq_true hp] at this
  · refine d_val (Y := fun _ => .bool false) hw _hn _hs (fun σ => ?_) (no hp)
    have := h σ; rwa [decide_eq_false hp] at this
theorem d_store {k : Nat} {H H' : Pr wf → Hp} (hw : ∀ σ, wantS C (mk (L σ) (M σ) g gb dd) ops ⟨none, op, ty, pos, aft, gd⟩ = some true) (_hn : isNew ⟨none, op, ty, pos, aft, gd⟩ = false) (hst : isSt ⟨none, op, ty, pos, aft, gd⟩ = true)
    (h : ∀ σ, OpS C (mk (L σ) (M σ) g gb dd) ⟨none, op, ty, pos, aft, gd⟩ k (H σ) (H' σ)) (next : VDZ C ops os κs K (fun σ => mk (L σ) ((k, H' σ) :: M σ) g gb dd)) : VDZ C ops (⟨none, op, ty, pos, aft, gd⟩ :: os) ([k] :: κs) K (fun σ => mk (L σ) (M σ) g gb dd) :=
  d_cons (.inl ⟨hw, .store k H H' hst h⟩) (by simp only [appP, appS, mk_mem]; exact next)
theorem d_new {cs : Pr wf → List Value} (hw : ∀ σ, wantS C (mk (L σ) (M σ) g gb dd) ops ⟨some i, op, ty, pos, aft, gd⟩ = some true) (hn : isNew ⟨some i, op, ty, pos, aft, gd⟩ = true) (_hst : isSt ⟨some i, op, ty, pos, aft, gd⟩ = false)
    (h : ∀ σ, OpN C (mk (L σ) (M σ) g gb dd) ⟨some i, op, ty, pos, aft, gd⟩ (fun b => .pointer (some ⟨b, 0, none⟩)) T (cs σ)) (next : VDZ C ops os κs K (fun σ => mk ((i, .pointer (some ⟨σ i, 0, none⟩)) :: L σ) ((i, .box (σ i) T (cs σ)) :: M σ) g gb dd)) : VDZ C ops (⟨some i, op, ty, pos, aft, gd⟩ :: os) ([] :: κs) K (fun σ => mk (L σ) (M σ) g gb dd) :=
  d_cons (.inl ⟨hw, .new i _ T cs hn rfl h⟩) (by simp only [appP, appS, mk_mem, mk_put]; exact next)
theorem d_newS {nn : Nat} {cs : Pr wf → List Value} (hw : ∀ σ, wantS C (mk (L σ) (M σ) g gb dd) ops ⟨some i, op, ty, pos, aft, gd⟩ = some true) (hn : isNew ⟨some i, op, ty, pos, aft, gd⟩ = true) (_hst : isSt ⟨some i, op, ty, pos, aft, gd⟩ = false)
    (h : ∀ σ, OpN C (mk (L σ) (M σ) g gb dd) ⟨some i, op, ty, pos, aft, gd⟩ (fun b => .slice (some ⟨b, 0, none⟩) nn nn) T (cs σ)) (next : VDZ C ops os κs K (fun σ => mk ((i, .slice (some ⟨σ i, 0, none⟩) nn nn) :: L σ) ((i, .box (σ i) T (cs σ)) :: M σ) g gb dd)) : VDZ C ops (⟨some i, op, ty, pos, aft, gd⟩ :: os) ([] :: κs) K (fun σ => mk (L σ) (M σ) g gb dd) :=
  d_cons (.inl ⟨hw, .new i _ T cs hn rfl h⟩) (by simp only [appP, appS, mk_mem, mk_put]; exact next)

theorem d_lss {k : IntKind} {a b : Int} {x y : Operand} {T T' : TypeId} (hw : ∀ σ, wantS C (mk (L σ) (M σ) g gb dd) ops ⟨some i, .binOp .lss T x y T', ty, pos, aft, gd⟩ = some true) (hx : ∀ σ, ev C (mk (L σ) (M σ) g gb dd) x = some (.int k a)) (hy : ∀ σ, ev C (mk (L σ) (M σ) g gb dd) y = some (.int k b))
    (yes : (a < b) → VDZ C ops os κs K (fun σ => mk ((i, .bool true) :: L σ) (M σ) g gb dd)) (no : ¬ (a < b) → VDZ C ops os κs K (fun σ => mk ((i, .bool false) :: L σ) (M σ) g gb dd)) : VDZ C ops (⟨some i, .binOp .lss T x y T', ty, pos, aft, gd⟩ :: os) ([] :: κs) K (fun σ => mk (L σ) (M σ) g gb dd) :=
  d_split hw rfl rfl (fun σ => o_lss (hx σ) (hy σ)) yes no
theorem d_leq {k : IntKind} {a b : Int} {x y : Operand} {T T' : TypeId} (hw : ∀ σ, wantS C (mk (L σ) (M σ) g gb dd) ops ⟨some i, .binOp .leq T x y T', ty, pos, aft, gd⟩ = some true) (hx : ∀ σ, ev C (mk (L σ) (M σ) g gb dd) x = some (.int k a)) (hy : ∀ σ, ev C (mk (L σ) (M σ) g gb dd) y = some (.int k b))
    (yes : (a ≤ b) → VDZ C ops os κs K (fun σ => mk ((i, .bool true) :: L σ) (M σ) g gb dd)) (no : ¬ (a ≤ b) → VDZ C ops os κs K (fun σ => mk ((i, .bool false) :: L σ) (M σ) g gb dd)) : VDZ C ops (⟨some i, .binOp .leq T x y T', ty, pos, aft, gd⟩ :: os) ([] :: κs) K (fun σ => mk (L σ) (M σ) g gb dd) :=
  d_split hw rfl rfl (fun σ => o_leq (hx σ) (hy σ)) yes no
theorem d_gtr {k : IntKind} {a b : Int} {x y : Operand} {T T' : TypeId} (hw : ∀ σ, wantS C (mk (L σ) (M σ) g gb dd) ops ⟨some i, .binOp .gtr T x y T', ty, pos, aft, gd⟩ = some true) (hx : ∀ σ, ev C (mk (L σ) (M σ) g gb dd) x = some (.int k a)) (hy : ∀ σ, ev C (mk (L σ) (M σ) g gb dd) y = some (.int k b))
    (yes : (b < a) → VDZ C ops os κs K (fun σ => mk ((i, .bool true) :: L σ) (M σ) g gb dd)) (no : ¬ (b < a) → VDZ C ops os κs K (fun σ => mk ((i, .bool false) :: L σ) (M σ) g gb dd)) : VDZ C ops (⟨some i, .binOp .gtr T x y T', ty, pos, aft, gd⟩ :: os) ([] :: κs) K (fun σ => mk (L σ) (M σ) g gb dd) :=
  d_split hw rfl rfl (fun σ => o_gtr (hx σ) (hy σ)) yes no
theorem d_geq {k : IntKind} {a b : Int} {x y : Operand} {T T' : TypeId} (hw : ∀ σ, wantS C (mk (L σ) (M σ) g gb dd) ops ⟨some i, .binOp .geq T x y T', ty, pos, aft, gd⟩ = some true) (hx : ∀ σ, ev C (mk (L σ) (M σ) g gb dd) x = some (.int k a)) (hy : ∀ σ, ev C (mk (L σ) (M σ) g gb dd) y = some (.int k b))
    (yes : (b ≤ a) → VDZ C ops os κs K (fun σ => mk ((i, .bool true) :: L σ) (M σ) g gb dd)) (no : ¬ (b ≤ a) → VDZ C ops os κs K (fun σ => mk ((i, .bool false) :: L σ) (M σ) g gb dd)) : VDZ C ops (⟨some i, .binOp .geq T x y T', ty, pos, aft, gd⟩ :: os) ([] :: κs) K (fun σ => mk (L σ) (M σ) g gb dd) :=
  d_split hw rfl rfl (fun σ => o_geq (hx σ) (hy σ)) yes no
theorem d_eql {k : IntKind} {a b : Int} {x y : Operand} {T T' : TypeId} (hw : ∀ σ, wantS C (mk (L σ) (M σ) g gb dd) ops ⟨some i, .binOp .eql T x y T', ty, pos, aft, gd⟩ = some true) (hx : ∀ σ, ev C (mk (L σ) (M σ) g gb dd) x = some (.int k a)) (hy : ∀ σ, ev C (mk (L σ) (M σ) g gb dd) y = some (.int k b))
    (yes : (a = b) → VDZ C ops os κs K (fun σ => mk ((i, .bool true) :: L σ) (M σ) g gb dd)) (no : ¬ (a = b) → VDZ C ops os κs K (fun σ => mk ((i, .bool false) :: L σ) (M σ) g gb dd)) : VDZ C ops (⟨some i, .binOp .eql T x y T', ty, pos, aft, gd⟩ :: os) ([] :: κs) K (fun σ => mk (L σ) (M σ) g gb dd) :=
  d_split hw rfl rfl (fun σ => o_eql (hx σ) (hy σ)) yes no
theorem d_neq {k : IntKind} {a b : Int} {x y : Operand} {T T' : TypeId} (hw : ∀ σ, wantS C (mk (L σ) (M σ) g gb dd) ops ⟨some i, .binOp .neq T x y T', ty, pos, aft, gd⟩ = some true) (hx : ∀ σ, ev C (mk (L σ) (M σ) g gb dd) x = some (.int k a)) (hy : ∀ σ, ev C (mk (L σ) (M σ) g gb dd) y = some (.int k b))
    (yes : (a ≠ b) → VDZ C ops os κs K (fun σ => mk ((i, .bool true) :: L σ) (M σ) g gb dd)) (no : ¬ (a ≠ b) → VDZ C ops os κs K (fun σ => mk ((i, .bool false) :: L σ) (M σ) g gb dd)) : VDZ C ops (⟨some i, .binOp .neq T x y T', ty, pos, aft, gd⟩ :: os) ([] :: κs) K (fun σ => mk (L σ) (M σ) g gb dd) :=
  d_split hw rfl rfl (fun σ => o_neq (hx σ) (hy σ)) yes no
theorem lz_bool {p : Prop} [Decidable p] (yes : p → VL C ops rest K (mk ((i, .bool true) :: l) m g gb dd)) (no : ¬ p → VL C ops rest K (mk ((i, .bool false) :: l) m g gb dd)) : VL C ops rest K (mk ((i, .bool (decide p)) :: l) m g gb dd) := by
  by_cases hp : p
  · rw [decide_eq_true hp]; exact yes hp
  · rw [decide_eq_false hp]; exact no hp
theorem dz_bool {p : Prop} [Decidable p] (yes : p → VDZ C ops os κs K (fun σ => mk ((i, .bool true) :: L σ) (M σ) g gb dd)) (no : ¬ p → VDZ C ops os κs K (fun σ => mk ((i, .bool false) :: L σ) (M σ) g gb dd)) : VDZ C ops os κs K (fun σ => mk ((i, .bool (decide p)) :: L σ) (M σ) g gb dd) := by
  by_cases hp : p
  · rw [decide_eq_true hp]; exact yes hp
  · rw [decide_eq_false hp]; exact no hp

/-! ### to know less -/
def sel {α : Type} : List Nat → List (Nat × α) → Option (List (Nat × α))
  | [], _ => some []
  | k :: ks, l => match lk l k, sel ks l with | some v, some r => some ((k, v) :: r) | _, _ => none
theorem sel_ok {α : Type} {l : List (Nat × α)} : ∀ (ks : List Nat) (l' : List (Nat × α)), sel ks l = some l' → ∀ i v, lk l' i = some v → lk l i = some v
  | [], l', h, i, v, hv => by simp [sel] at h; subst h; cases hv
  | k :: ks, l', h, i, v, hv => by
    simp only [sel] at h
    split at h
    · rename_i u r hu hr
      cases h
      simp only [lk] at hv
      split at hv
      · rename_i hb
        have := Nat.eq_of_beq_eq_true hb
        subst this; cases hv; exact hu
      · exact sel_ok ks r hr i v hv
    · cases h
theorem le_sel (kl km : List Nat) (hl : sel kl l = some l') (hm : sel km m = some m') : Le (mk l m g gb dd) (mk l' m' g gb dd) := ⟨sel_ok kl l' hl, sel_ok km m' hm, rfl, rfl, rfl⟩
theorem l_sel (kl km : List Nat) (hl : sel kl l = some l') (hm : sel km m = some m') (h : VL C ops rest K (mk l' m' g gb dd)) : VL C ops rest K (mk l m g gb dd) := h.le (le_sel kl km hl hm)
theorem v_sel {c : Code} (kl km : List Nat) (hl : sel kl l = some l') (hm : sel km m = some m') (h : V C c K (mk l' m' g gb dd)) : V C c K (mk l m g gb dd) := h.le (le_sel kl km hl hm)

/-! ### control -/
variable {s : St} {n : St → Prop}
theorem kt_norm (h : n s) : thenK n K .normal s := h
theorem kt_ret (h : K .ret s) : thenK n K .ret s := h
theorem kt_exit {id : Nat} (h : K (.exit id) s) : thenK n K (.exit id) s := h
theorem kb_norm {id : Nat} (h : K .normal s) : blockK id K .normal s := h
theorem kb_ret {id : Nat} (h : K .ret s) : blockK id K .ret s := h
theorem kb_eq {id : Nat} (h : K .normal s) : blockK id K (.exit id) s := by simp only [blockK, if_true]; exact h
theorem kb_ne {id id' : Nat} (hne : id' ≠ id) (h : K (.exit id') s) : blockK id K (.exit id') s := by simp only [blockK, if_neg hne]; exact h
theorem v_condT {c : Operand} {x y : Code} (hc : ev C s c = some (.bool true)) (h : V C x K s) : V C (.cond c x y) K s := v_cond true hc (fun _ => h) (fun h => by cases h)
theorem v_condF {c : Operand} {x y : Code} (hc : ev C s c = some (.bool false)) (h : V C y K s) : V C (.cond c x y) K s := v_cond false hc (fun h => by cases h) (fun _ => h)
theorem v_condP {c : Operand} {x y : Code} {p : Prop} [Decidable p] (hc : ev C s c = some (.bool (decide p))) (ht : p → V C x K s) (hf : ¬ p → V C y K s) : V C (.cond c x y) K s :=
  v_cond _ hc (fun h => ht (of_decide_eq_true h)) (fun h => hf (of_decide_eq_false h))

/-! ### calls -/
/-- a function's answer, in whatever world; it turns nothing -/
def Ans (P : Program) (f : Nat) (vs : List Value) (r : Value) : Prop :=
  ((∀ args w, (callFunc f args).run P w = .ok (.enter f args) w) ∧ ∀ w, Calls P f vs.toArray w fun e w' => e = .returned r ∧ Below w.heap.size w w') ∨ (∀ w, (callFunc f vs.toArray).run P w = .ok (.value r) w)
theorem ent_of {P : Program} {f : Nat} {fn : Func} {c : Code} (hf : P.funcs[f]? = some fn) (hname : (fn.name == "runtime.NumGoroutine") = false) (hb : fn.body = some c) : ∀ args w, (callFunc f args).run P w = .ok (.enter f args) w := fun args w => by
  have h1 : fn.name ≠ "runtime.NumGoroutine" := by simpa using hname
  simp [callFunc, hf, h1, hb, Sem.run_bind]

theorem run_callTo {P : Program} {cal : Operand} {xs : Array Operand} {ts : Array TypeId} {f : Nat} {caps : Array Value} {vs : List Value} {ρ : Operand → Value} {w : World} (h : ρ cal = .func (.func f) #[] caps) (hargs : xs.toList.map ρ = vs) :
    (execOp ρ ⟨d, .call { callee := .value cal, args := xs, argTypes := ts }, ty, pos, aft, gd⟩).run P w = (callFunc f (vs.toArray ++ caps)).run P w := by
  have ha : xs.map ρ = vs.toArray := by apply Array.ext'; simp [hargs]
  simp [execOp, resolve, h, Deferred.ofValue, invoke, Sem.run_bind, Result.andThen, ha]

theorem callee_mem {cal : Operand} {xs : Array Operand} {ts : Array TypeId} : cal ∈ (⟨d, .call { callee := .value cal, args := xs, argTypes := ts }, ty, pos, aft, gd⟩ : Oper).op.operands := by simp [Op.operands, Call.operands]
theorem args_of {cal : Operand} {xs : Array Operand} {ts : Array TypeId} {vs : List Value} {ρ : Operand → Value} (hr : Reads C s ⟨d, .call { callee := .value cal, args := xs, argTypes := ts }, ty, pos, aft, gd⟩ ρ) (h : evs C s xs.toList = some vs) : xs.toList.map ρ = vs :=
  evs_ok (C := C) (s := s) xs.toList vs (fun x hx v hv => hr x (by simp [Op.operands, Call.operands]; right; simpa using hx) v hv) h

variable {f : Nat} {xs : Array Operand} {ts : Array TypeId} {vs : List Value} {r : Value}
theorem o_callC (hent : ∀ args w, (callFunc f args).run C.P w = .ok (.enter f args) w) (hargs : evs C s xs.toList = some vs)
    (hc : ∀ w, s.g w → Held s ks w → Calls C.P f vs.toArray w fun e w' => e = .returned r ∧ Below w.heap.size w w') : OpC C s ⟨d, .call { callee := .value (.func f), args := xs, argTypes := ts }, ty, pos, aft, gd⟩ ks r :=
  ⟨by simp, fun ρ w hr hg hh => ⟨f, vs.toArray, by rw [run_callTo (caps := #[]) (rd1 hr callee_mem rfl) (args_of hr hargs)]; simpa using hent vs.toArray w, hc w hg hh⟩⟩
theorem o_callX (hargs : evs C s xs.toList = some vs) (hx : ∀ w, (callFunc f vs.toArray).run C.P w = .ok (.value r) w) : OpV C s ⟨d, .call { callee := .value (.func f), args := xs, argTypes := ts }, ty, pos, aft, gd⟩ [] r :=
  opv _ _ (by simp) fun ρ w hr => by rw [run_callTo (caps := #[]) (rd1 hr callee_mem rfl) (args_of hr hargs)]; simpa using hx w
/-- a closure that is called -/
theorem o_callF {cal : Operand} {caps : Array Value} (hcal : ev C s cal = some (.func (.func f) #[] caps)) (hent : ∀ args w, (callFunc f args).run C.P w = .ok (.enter f args) w) (hargs : evs C s xs.toList = some vs)
    (hc : ∀ w, s.g w → Held s ks w → Calls C.P f (vs.toArray ++ caps) w fun e w' => e = .returned r ∧ Below w.heap.size w w') : OpC C s ⟨d, .call { callee := .value cal, args := xs, argTypes := ts }, ty, pos, aft, gd⟩ ks r :=
  ⟨by simp, fun ρ w hr hg hh => ⟨f, vs.toArray ++ caps, by rw [run_callTo (rd1 hr callee_mem hcal) (args_of hr hargs)]; exact hent _ w, hc w hg hh⟩⟩

theorem l_ans (hw : wantS C (mk l m g gb dd) ops ⟨some i, .call { callee := .value (.func f), args := xs, argTypes := ts }, ty, pos, aft, gd⟩ = some true) (hargs : evs C (mk l m g gb dd) xs.toList = some vs) (hc : Ans C.P f vs r)
    (next : VL C ops rest K (mk ((i, r) :: l) m g gb dd)) : VL C ops (⟨some i, .call { callee := .value (.func f), args := xs, argTypes := ts }, ty, pos, aft, gd⟩ :: rest) K (mk l m g gb dd) := by
  rcases hc with ⟨h1, h2⟩ | h
  · exact l_call (ks := []) hw (o_callC h1 hargs fun w _ _ => h2 w) next
  · exact l_val (ks := []) hw (o_callX hargs h) next
theorem d_ans (hw : ∀ σ, wantS C (mk (L σ) (M σ) g gb dd) ops ⟨some i, .call { callee := .value (.func f), args := xs, argTypes := ts }, ty, pos, aft, gd⟩ = some true) (hargs : ∀ σ, evs C (mk (L σ) (M σ) g gb dd) xs.toList = some vs) (hc : Ans C.P f vs r)
    (next : VDZ C ops os κs K (fun σ => mk ((i, r) :: L σ) (M σ) g gb dd)) : VDZ C ops (⟨some i, .call { callee := .value (.func f), args := xs, argTypes := ts }, ty, pos, aft, gd⟩ :: os) ([] :: κs) K (fun σ => mk (L σ) (M σ) g gb dd) := by
  rcases hc with ⟨h1, h2⟩ | h
  · exact d_call hw (fun σ => o_callC h1 (hargs σ) fun w _ _ => h2 w) next
  · exact d_valC (Y := fun _ => r) hw (fun σ => o_callX (hargs σ) h) next

/-! ### out of a function -/
def packV : List Value → Value | [v] => v | vs => .tuple vs.toArray
inductive ResOk (C : Cx) (s : St) : ResultVar → Value → Prop
  | tmp {t : Nat} {v : Value} (h : ev C s (.tmp t) = some v) : ResOk C s (.tmp t) v
  | cellW {t n key bl : Nat} {T T' : TypeId} {cs : List Value} [ht : TAgg C.P T n] (h : ev C s (.tmp t) = some (.pointer (some ⟨bl, 0, none⟩))) (hm : s.m key = some (.box bl T' cs)) (hl : cs.length = n) : ResOk C s (.cell t T) (.agg cs.toArray)
  | cell1 {t key bl : Nat} {T T' : TypeId} {v : Value} [ht : TOne C.P T] (h : ev C s (.tmp t) = some (.pointer (some ⟨bl, 0, none⟩))) (hm : s.m key = some (.box bl T' [v])) : ResOk C s (.cell t T) v
inductive ResAll (C : Cx) (s : St) : List ResultVar → List Value → Prop
  | nil : ResAll C s [] []
  | cons {r : ResultVar} {v : Value} {rs : List ResultVar} {vs : List Value} (h : ResOk C s r v) (t : ResAll C s rs vs) : ResAll C s (r :: rs) (v :: vs)
/-- where it ends: the results, and what is said of them -/
def retK (C : Cx) (rs : List ResultVar) (R : Value → St → Prop) : Exit → St → Prop
  | .ret, s => ∃ vs, ResAll C s rs vs ∧ R (packV vs) s
  | .normal, s => ∃ vs, ResAll C s rs vs ∧ R (packV vs) s
  | _, _ => False

def rdRes (tmps : Array Value) : ResultVar → Sem Value
  | .tmp t => pure (tmps.getD t undef)
  | .cell ad t => do loadVar t (← asAddr (tmps.getD ad undef))
variable {a : Act} {w : World}
theorem rdRes_ok (hr : Rep C s a w) {r : ResultVar} {v : Value} (h : ResOk C s r v) {w' : World} (hk : ∀ k hp, s.m k = some hp → hp.ok w') : (rdRes a.tmps r).run C.P w' = .ok v w' := by
  cases h with
  | tmp h => have := ev_ok hr h; simp only [rdRes]; rw [show a.tmps.getD _ undef = v from this, Sem.run_pure]
  | cellW h hm hl =>
    have e := ev_ok hr h
    have hb : Blk w' _ _ _ := hk _ _ hm
    simp only [rdRes, show a.tmps.getD _ undef = _ from e, asAddr, Sem.run_bind, Sem.run_pure, Result.andThen, run_loadVar_agg (by assumption) hl (hb.cellsAt 0 _ fun j v hj => by simpa using hj)]
  | cell1 h hm =>
    have e := ev_ok hr h
    have hb : Blk w' _ _ _ := hk _ _ hm
    simp only [rdRes, show a.tmps.getD _ undef = _ from e, asAddr, Sem.run_bind, Sem.run_pure, Result.andThen, run_loadVar_one (v := v) (by assumption) (hb.cell 0 v rfl)]
theorem rdAll_ok (hr : Rep C s a w) {w' : World} (hk : ∀ k hp, s.m k = some hp → hp.ok w') : ∀ (rs : List ResultVar) (vs : List Value), ResAll C s rs vs → (rs.mapM (rdRes a.tmps)).run C.P w' = .ok vs w' := by
  intro rs
  induction rs with
  | nil => intro vs h; cases h; simp
  | cons r rs ih =>
    intro vs h
    cases h with
    | cons h t =>
      rw [List.mapM_cons, Sem.run_bind, rdRes_ok hr h hk]
      simp only [Result.andThen, Sem.run_bind, ih _ t, Sem.run_pure]
theorem results_ok {fn : Func} (hr : Rep C s a w) {w' : World} (hk : ∀ k hp, s.m k = some hp → hp.ok w') {vs : List Value} (h : ResAll C s fn.results.toList vs) : (results fn a.tmps).run C.P w' = .ok (packV vs) w' := by
  have := rdAll_ok hr hk _ vs h
  have hres : results fn a.tmps = (do let vs ← fn.results.mapM (rdRes a.tmps); pure (if h : vs.size = 1 then vs[0] else .tuple vs)) := rfl
  rw [hres, Sem.run_bind, Array.mapM_eq_mapM_toList, Sem.run_map, this]
  simp only [Result.andThen, Sem.run_pure]
  match vs with
  | [] => rfl
  | [v] => rfl
  | _ :: _ :: _ => rfl

/-- behind a return: what the state says, of the world in which the marks have been taken -/
structure Out (C : Cx) (s : St) (w : World) : Prop where
  mo : ∀ k h, s.m k = some h → h.ok w ∧ ∀ b, h.has b → C.own b
  inj : ∀ k k' h h' b, s.m k = some h → s.m k' = some h' → h.has b → h'.has b → k = k'
  gh : s.g w
  fr : Chg C.W C.w0 w
  ko : C.kp → KeepsOthers C.w0 w

theorem leaves_ok {fn : Func} {vs : List Value} {R : Ending → World → Prop} (hrep : Rep C s a w) (hv : ResAll C s fn.results.toList vs) (hR : ∀ w', Out C s w' → R (.returned (packV vs)) w') :
    ∀ (ds : List Nat) (w' : World), ds.Nodup → (∀ D ∈ ds, D ∈ s.d ∧ w'.heap[D]? = some (.deferred (some []))) → Out C s w' → LeavesInM C.F C.n C.P fn a.tmps R (ds.map mark) .returning w'
  | [], w', _, _, ho => by
    refine ⟨_, results_ok hrep (fun k hp h => (ho.mo k hp h).1) hv, hR w' ho⟩
  | D :: ds, w', hnd, hd, ho => by
    have hD := hd D List.mem_cons_self
    have hnd' := List.nodup_cons.1 hnd
    refine ⟨by simp, .inl ⟨D, _, rfl, run_takeDeferred hD.2, leaves_ok hrep hv hR ds _ hnd'.2 (fun E hE => ⟨(hd E (List.mem_cons_of_mem _ hE)).1, ?_⟩) ?_⟩⟩
    · rw [World.putObj_heap_other (fun e => hnd'.1 (by rw [← e]; exact hE))]
      exact (hd E (List.mem_cons_of_mem _ hE)).2
    · have hg := hrep.dg D hD.1
      have hne : ∀ k h, s.m k = some h → ∀ b, h.has b → b ≠ D := fun k h hk b hb e => by
        subst e
        obtain ⟨o, h1, h2⟩ := Hp.isCells (ho.mo k h hk).1 hb
        rw [hD.2] at h1; cases h1; cases h2
      have hc : Chg (fun b => b = D) w' (w'.putObj D (.deferred none)) := ⟨rfl, rfl, rfl, by simp, fun k _ hn => World.putObj_heap_other hn⟩
      refine ⟨fun k h hk => ⟨Hp.keep (ho.mo k h hk).1 fun b hb => World.putObj_heap_other (hne k h hk b hb), (ho.mo k h hk).2⟩, ho.inj, hrep.st w' _ (hc.mono fun k _ e => by subst e; exact hg.2) ho.gh, ho.fr.trans (hc.mono fun k _ e => .inr (by subst e; exact hg.1)),
        fun hp => ⟨Nat.le_trans (ho.ko hp).size (by simp), fun k o hk hco => (World.putObj_heap_other (fun e => ?_)).trans ((ho.ko hp).same k o hk hco)⟩⟩
      have := (Array.getElem?_eq_some_iff.1 hk).1
      have := hg.1
      omega

def argsL : Nat → List Value → List (Nat × Value)
  | _, [] => []
  | i, v :: r => (i, v) :: argsL (i + 1) r
theorem argsL_ok : ∀ (vs : List Value) (j i : Nat) (v : Value), lk (argsL j vs) i = some v → j ≤ i ∧ vs[i - j]? = some v
  | [], j, i, v, h => by cases h
  | x :: r, j, i, v, h => by
    simp only [argsL, lk] at h
    split at h
    · rename_i hb
      have := Nat.eq_of_beq_eq_true hb
      subst this; cases h
      exact ⟨Nat.le_refl _, by simp⟩
    · have := argsL_ok r (j + 1) i v h
      refine ⟨by omega, ?_⟩
      rw [show i - j = (i - (j + 1)) + 1 by omega]
      simpa using this.2

/-- INTO a function and out of it. W: the blocks that it may turn; m0: what is known of them. -/
theorem enter {P : Program} {f N : Nat} {fn : Func} {c : Code} {rs : List ResultVar} {args : List Value} {w : World} (W : Nat → Prop) (m0 : List (Nat × Hp)) (R : Value → St → Prop) (hf : P.funcs[f]? = some fn) (hb : fn.body = some c) (hn : fn.ntmps = N) (hrs : fn.results = rs.toArray)
    (hsz : Nat.ble args.length N = true) (hm0 : ∀ k h, lk m0 k = some h → h.ok w ∧ ∀ b, h.has b → W b) (hi0 : ∀ k k' h h' b, lk m0 k = some h → lk m0 k' = some h' → h.has b → h'.has b → k = k')
    (h : V ⟨P, w, N, 3, none, W, True⟩ c (retK ⟨P, w, N, 3, none, W, True⟩ rs R) (mk (argsL 0 args) m0 (fun w' => Chg W w w') (fun b => b < w.heap.size ∧ ¬ W b) [])) :
    Calls P f args.toArray w fun e w' => ∃ v s', e = .returned v ∧ R v s' ∧ Out ⟨P, w, N, 3, none, W, True⟩ s' w' := by
  have hrs' : fn.results.toList = rs := by rw [hrs]
  rw [← hrs'] at h
  refine callsIn_wide (n := 3).1 (callsIn_of_wp_marks hf hb trivial ?_)
  have hle : args.length ≤ N := Nat.le_of_ble_eq_true hsz
  have hrep : Rep ⟨P, w, N, 3, none, W, True⟩ (mk (argsL 0 args) m0 (fun w' => Chg W w w') (fun b => b < w.heap.size ∧ ¬ W b) []) { tmps := args.toArray ++ Array.replicate (fn.ntmps - args.toArray.size) undef, defers := [] } w := by
    refine ⟨rfl, fun _ h => (by cases h), fun _ h => (by cases h), List.nodup_nil, by simp [hn]; omega, fun i v hi hv => ?_, fun k h hk => ⟨(hm0 k h hk).1, fun b hb => .inr ((hm0 k h hk).2 b hb)⟩, hi0, Chg.refl _ _, fun b hb => ⟨hb.1, fun k h hk e => hb.2 ((hm0 k h hk).2 b e)⟩, fun w1 w2 hc h1 => ?_, Chg.refl _ _, fun _ => KeepsOthers.refl _⟩
    · have := (argsL_ok args 0 i v hv).2
      have hlt := (List.getElem?_eq_some_iff.1 this).1
      rw [Array.getD_eq_getD_getElem?, Array.getElem?_append_left (by simpa using hlt)]
      simp at this
      simp [this]
    · refine h1.trans (hc.mono fun k hk hnb => ?_)
      by_cases hlt : k < w.heap.size
      · by_cases hW : W k
        · exact .inl hW
        · exact absurd ⟨hlt, hW⟩ hnb
      · exact .inr (by omega)
  refine wpIn_mono (h _ _ hrep) ?_
  rintro e a' w' ⟨s', hr', hk⟩
  have fin : (∃ vs, ResAll ⟨P, w, N, 3, none, W, True⟩ s' fn.results.toList vs ∧ R (packV vs) s') →
      LeavesInM Fence.wide 3 P fn a'.tmps (fun e w' => ∃ v s', e = .returned v ∧ R v s' ∧ Out ⟨P, w, N, 3, none, W, True⟩ s' w') a'.defers .returning w' := by
    rintro ⟨vs, h1, h2⟩
    rw [hr'.dfs]
    exact leaves_ok (C := ⟨P, w, N, 3, none, W, True⟩) hr' h1 (fun w'' ho => ⟨_, s', rfl, h2, ho⟩) s'.d w' hr'.dn (fun D hD => ⟨hD, hr'.dd D hD⟩) ⟨hr'.mo, hr'.inj, hr'.gh, hr'.fr, hr'.ko⟩
  cases e with
  | ret => exact fin hk
  | normal => exact fin hk
  | _ => exact hk.elim

/-- a function that turns nothing and answers r -/
theorem ans_of {P : Program} {f N : Nat} {fn : Func} {c : Code} {rs : List ResultVar} {args : List Value} {r : Value} (hf : P.funcs[f]? = some fn) (hb : fn.body = some c) (hn : fn.ntmps = N) (hrs : fn.results = rs.toArray) (hname : (fn.name == "runtime.NumGoroutine") = false)
    (hsz : Nat.ble args.length N = true)
    (h : ∀ w, V ⟨P, w, N, 3, none, fun _ => False, True⟩ c (retK ⟨P, w, N, 3, none, fun _ => False, True⟩ rs (fun v _ => v = r)) (mk (argsL 0 args) [] (fun w' => Chg (fun _ => False) w w') (fun b => b < w.heap.size ∧ ¬ False) [])) : Ans P f args r := by
  refine .inl ⟨ent_of hf hname hb, fun w => (enter (fun _ => False) [] (fun v _ => v = r) hf hb hn hrs hsz (fun k h hk => (by cases hk)) (fun k k' h h' b hk => (by cases hk)) (h w)).mono ?_⟩
  rintro e w' ⟨v, s', rfl, rfl, ho⟩
  exact ⟨rfl, ho.fr.below⟩
end Go.Proofs.Ytpgjbalnipinoaa

/- Rows: slices that are read, that grow, that are cut. Conditions: none. -/
namespace Go.Proofs.Ytpgjbalnipinoaa
open Go.Proofs Go.RowKit

variable {C : Cx} {K : Exit → St → Prop} {ops : Array Oper} {rest : List Oper} {l l' : List (Nat × Value)} {m m' : List (Nat × Hp)} {g : World → Prop} {gb : Nat → Prop} {dd : List Nat}
  {i : Nat} {d : Option Nat} {op : Op} {ty : TypeId} {pos : String} {aft : Array Edge} {gd : Option (Nat × Bool)} {ks : List Nat} {y : Value} {T T' E : TypeId} {s : St} {x z : Operand} {v u : Value} {n esz j : Nat} {xs : List Value}

def blkOf : Value → Nat | .slice (some a) _ _ => a.block | _ => 0
def offOf : Value → Nat | .slice (some a) _ _ => a.off | _ => 0
/-- a slice of n elements -/
def RowV (v : Value) (n : Nat) : Prop := (∃ b o c, v = .slice (some ⟨b, o, none⟩) n c) ∨ (v = .slice none 0 0 ∧ n = 0) ∨ (∃ a c, v = .slice (some a) 0 c ∧ n = 0)
theorem RowV.nil0 : RowV (.slice none 0 0) 0 := .inr (.inl ⟨rfl, rfl⟩)
theorem RowV.sl {v : Value} {n : Nat} (h : RowV v n) : ∃ a c, v = .slice a n c := by
  rcases h with ⟨b, o, c, rfl⟩ | ⟨rfl, rfl⟩ | ⟨a, c, rfl, rfl⟩ <;> exact ⟨_, _, rfl⟩
/-- its cells are xs -/
structure RowAt (w : World) (v : Value) (esz n : Nat) (xs : List Value) : Prop where
  len : xs.length = n * esz
  at_ : ∀ j u, xs[j]? = some u → w.cell? ⟨blkOf v, offOf v + j, none⟩ = some u
  one : ∀ u ∈ xs, u.oneCell' = true
def RowIn (s : St) (ks : List Nat) (v : Value) (esz n : Nat) (xs : List Value) : Prop := ∀ w, s.g w → Held s ks w → RowAt w v esz n xs

theorem rowV_own {w : World} (h : (Hp.own v E esz n xs).ok w) : RowV v n := by
  rcases h.1.2 with ⟨rfl, rfl⟩ | ⟨g, cap, cur, rfl, _⟩
  · exact .nil0
  · exact .inl ⟨g, 0, cap, rfl⟩
theorem rowAt_own {w : World} (h : (Hp.own v E esz n xs).ok w) : RowAt w v esz n xs := by
  refine ⟨h.1.1, fun j u hu => ?_, h.2⟩
  rcases h.1.2 with ⟨rfl, rfl⟩ | ⟨g, cap, cur, rfl, h0, hg, hr⟩
  · have : xs = [] := List.eq_nil_of_length_eq_zero (by simpa using h.1.1)
    subst this; cases hu
  · have := h.1.cells (g := g) rfl j u hu
    rwa [addAt] at this
theorem row_own {key : Nat} (hm : s.m key = some (.own v E esz n xs)) : RowIn s [key] v esz n xs := fun w _ hh => rowAt_own (hh key (by simp) _ hm)
theorem row_imm (hg : ∀ w, s.g w → RowAt w v esz n xs) : RowIn s [] v esz n xs := fun w h _ => hg w h
theorem RowAt.below {w w' : World} (h : RowAt w v esz n xs) (hb : Below w.heap.size w w') : RowAt w' v esz n xs :=
  ⟨h.len, fun j u hu => (hb.cell (World.block_lt_of_cell? w _ (h.at_ j u hu))).trans (h.at_ j u hu), h.one⟩
theorem RowAt.chg {S : Nat → Prop} {w w' : World} (h : RowAt w v esz n xs) (hc : Chg S w w') (hs : ¬ S (blkOf v)) : RowAt w' v esz n xs :=
  ⟨h.len, fun j u hu => (World.cell?_of_block (w := w) (hc.block _ (World.block_lt_of_cell? w _ (h.at_ j u hu)) hs)).trans (h.at_ j u hu), h.one⟩

/-- the c-th.. cells: the i-th element -/
def El (xs : List Value) (esz i : Nat) (c : List Value) : Prop := c.length = esz ∧ ∀ f, f < esz → xs[i * esz + f]? = c[f]?
theorem flat_len {α : Type} {enc : α → List Value} {esz : Nat} (henc : ∀ x, (enc x).length = esz) : ∀ l : List α, (l.flatMap enc).length = l.length * esz
  | [] => by simp
  | x :: r => by rw [List.flatMap_cons, List.length_append, henc, flat_len henc r, List.length_cons, Nat.add_mul]; omega
theorem el_flat {α : Type} {enc : α → List Value} {esz : Nat} (henc : ∀ x, (enc x).length = esz) (d : α) : ∀ (l : List α) (i : Nat), i < l.length → El (l.flatMap enc) esz i (enc (l.getD i d))
  | [], i, h => by simp at h
  | x :: r, 0, h => ⟨henc _, fun f hf => by
      rw [List.flatMap_cons, Nat.zero_mul, Nat.zero_add, List.getElem?_append_left (by rw [henc]; exact hf)]; rfl⟩
  | x :: r, i + 1, h => by
    have ih := el_flat henc d r i (by simpa using h)
    refine ⟨henc _, fun f hf => ?_⟩
    have := ih.2 f hf
    rw [List.flatMap_cons, List.getElem?_append_right (by rw [henc, Nat.add_mul]; omega), henc, show (i + 1) * esz + f - esz = i * esz + f by rw [Nat.add_mul]; omega, this]
    simp
/-- a row that is written out -/
theorem el_lit {xs c : List Value} {esz i : Nat} (h : (xs.drop (i * esz)).take esz = c) (hl : c.length = esz) : El xs esz i c := ⟨hl, fun f hf => by
  subst h; rw [List.getElem?_take_of_lt hf, List.getElem?_drop]⟩

/-! ### to read -/
theorem o_len {ts : Nat} [ht : TSl C.P ts E esz] (h : ev C s x = some v) (hv : RowV v n) : OpV C s ⟨d, .call { callee := .builtin .len, args := #[x], argTypes := #[ts] }, ty, pos, aft, gd⟩ [] (.int .i64 n) := opv _ _ (by simp) fun ρ w hr => by
  have hx := rd1 hr (x := x) (by simp [Op.operands, Call.operands]) h
  obtain ⟨b, c, rfl⟩ := hv.sl
  simp [execOp, resolve, hx, invoke, builtin, Builtin.len_, Sem.run_bind, run_underlying ht.h, Result.andThen, goInt]
theorem o_idx {k : IntKind} {a : Int} (j : Nat) [ht : TSl C.P T E esz] (h : ev C s x = some v) (hv : RowV v n) (h2 : ev C s z = some (.int k a)) (hj : a = ((j : Nat) : Int)) (hlt : j < n) :
    OpV C s ⟨d, .indexAddr T x z, ty, pos, aft, gd⟩ [] (.pointer (some ⟨blkOf v, offOf v + j * esz, none⟩)) := opv _ _ (by simp) fun ρ w hr => by
  have hx := rd1 hr (x := x) (by simp [Op.operands]) h
  have hz := rd1 hr (x := z) (by simp [Op.operands]) h2
  subst hj
  rcases hv with ⟨b, o, c, rfl⟩ | ⟨rfl, rfl⟩ | ⟨a, c, rfl, rfl⟩
  · have h0 : (0 : Int) ≤ (j : Int) := by omega
    have h1 : (j : Int) < n := by omega
    simp [execOp, hx, hz, Instr.indexAt, asIntOf, Sem.run_bind, run_underlying ht.h, h0, hlt, ht.sz, ht.pos, Result.andThen, addAt, blkOf, offOf]
  · omega
  · omega
theorem o_loadRE {c : List Value} {nn : Nat} [ht : TAgg C.P T esz] (h : ev C s x = some (.pointer (some ⟨blkOf v, offOf v + j * esz, none⟩))) (hrow : RowIn s ks v esz nn xs) (hel : El xs esz j c) {c' : List Value} (hc : c = c') : OpV C s ⟨d, .load T x, ty, pos, aft, gd⟩ ks (.agg c'.toArray) :=
  ⟨by simp, fun ρ w hr hg hh => by
    subst hc
    have hw := hrow w hg hh
    have hc : CellsAt w ⟨blkOf v, offOf v + j * esz, none⟩ c := fun f u hu => by
      have hf : f < esz := by rw [← hel.1]; exact (List.getElem?_eq_some_iff.1 hu).1
      rw [addAt, Nat.add_assoc]
      exact hw.at_ _ u ((hel.2 f hf).trans hu)
    simp [execOp, rd1 hr (x := x) (by simp [Op.operands]) h, Instr.loadAt, Instr.sureAddr, Sem.run_bind, Result.andThen, run_loadVar_agg ht hel.1 hc]⟩
theorem o_loadRF {c : List Value} {f nn : Nat} [ht : TOne C.P T] (h : ev C s x = some (.pointer (some ⟨blkOf v, offOf v + j * esz + f, none⟩))) (hrow : RowIn s ks v esz nn xs) (hel : El xs esz j c) (hu : c[f]? = some u) : OpV C s ⟨d, .load T x, ty, pos, aft, gd⟩ ks u :=
  ⟨by simp, fun ρ w hr hg hh => by
    have hw := hrow w hg hh
    have hf : f < esz := by rw [← hel.1]; exact (List.getElem?_eq_some_iff.1 hu).1
    have hc : w.cell? ⟨blkOf v, offOf v + j * esz + f, none⟩ = some u := by
      rw [Nat.add_assoc]; exact hw.at_ _ u ((hel.2 f hf).trans hu)
    simp [execOp, rd1 hr (x := x) (by simp [Op.operands]) h, Instr.loadAt, Instr.sureAddr, Sem.run_bind, Result.andThen, run_loadVar_one ht hc]⟩
theorem o_loadR1 {nn : Nat} [ht : TOne C.P T] (h : ev C s x = some (.pointer (some ⟨blkOf v, offOf v + j * 1, none⟩))) (hrow : RowIn s ks v 1 nn xs) (hel : El xs 1 j [u]) : OpV C s ⟨d, .load T x, ty, pos, aft, gd⟩ ks u :=
  o_loadRF (f := 0) (by simpa using h) hrow hel rfl
theorem o_makeFunc {fn : Fn} {caps : Array Operand} {vs : List Value} (h : evs C s caps.toList = some vs) : OpV C s ⟨d, .makeFunc fn #[] caps, ty, pos, aft, gd⟩ [] (.func fn #[] vs.toArray) := opv _ _ (by simp) fun ρ w hr => by
  have h1 := evs_ok (C := C) (s := s) (ρ := ρ) caps.toList vs (fun x hx v hv => rd1 hr (x := x) (by simp [Op.operands]; simpa using hx) hv) h
  have : caps.map ρ = vs.toArray := by apply Array.ext'; simp [h1]
  simp [execOp, this, Instr.makeFunc, Sem.run_bind, Result.andThen]

/-! ### rows of the code's own -/
/-- nothing, as a row that may grow -/
theorem rep_ghost {a : Act} {w : World} (hr : Rep C s a w) (key : Nat) (E esz : Nat) : Rep C (s.mem (some (key, .own (.slice none 0 0) E esz 0 []))) a w := by
  refine rep_chg hr (fun _ => False) (Chg.refl _ w) (fun _ h => h.elim) _ (fun k h hh => ?_) fun k k' h h' b hh hh' e e' => ?_
  · by_cases e : k = key
    · subst e; rw [updN_same] at hh; cases hh
      exact .inr ⟨⟨World.ownsRow_nil w 0 E esz, by simp⟩, fun b hb => by simp [Hp.has, Value.ownBlock] at hb⟩
    · rw [updN_other _ _ e] at hh; exact .inl ⟨hh, fun _ _ h => h⟩
  · by_cases e1 : k = key
    · subst e1; rw [updN_same] at hh; cases hh; simp [Hp.has, Value.ownBlock] at e
    · by_cases e2 : k' = key
      · subst e2; rw [updN_same] at hh'; cases hh'; simp [Hp.has, Value.ownBlock] at e'
      · rw [updN_other _ _ e1] at hh; rw [updN_other _ _ e2] at hh'; exact hr.inj k k' h h' b hh hh' e e'
theorem v_ghost (key E esz : Nat) {c : Code} (h : V C c K (mk l ((key, .own (.slice none 0 0) E esz 0 []) :: m) g gb dd)) : V C c K (mk l m g gb dd) := fun a w hr => h a w (by have := rep_ghost hr key E esz; rwa [mk_mem] at this)
theorem l_ghost (key E esz : Nat) (h : VL C ops rest K (mk l ((key, .own (.slice none 0 0) E esz 0 []) :: m) g gb dd)) : VL C ops rest K (mk l m g gb dd) := fun a w hr => h a w (by have := rep_ghost hr key E esz; rwa [mk_mem] at this)

/-- a row takes another one's place: what it was, its block; what stands there now -/
theorem rep_own {a : Act} {w w' : World} (hr : Rep C s a w) {key : Nat} {h0 h1 : Hp} (hk : s.m key = some h0) (hc : Chg (fun b => h0.has b) w w') (ho : h1.ok w') (hb : ∀ b, h1.has b → h0.has b ∨ w.heap.size ≤ b) (key' : Nat) (m1 : Nat → Option Hp)
    (hm1 : ∀ k h, m1 k = some h → s.m k = some h ∧ k ≠ key) : Rep C { s with m := updN m1 key' (some h1) } a w' := by
  have hmo := hr.mo key h0 hk
  have hlt : ∀ k h, s.m k = some h → ∀ b, h.has b → b < w.heap.size := fun k h hk b hb => Hp.lt (hr.mo k h hk).1 hb
  refine rep_chg hr _ hc (fun b hb' _ => ⟨hmo.2 b hb', fun hg => (hr.gd b hg).2 key h0 hk hb', fun o ho' => ?_⟩) _ (fun k h hh => ?_) fun k k' h h' b hh hh' e e' => ?_
  · obtain ⟨o', h2, h3⟩ := Hp.isCells hmo.1 hb'
    rw [h2] at ho'; cases ho'; exact h3
  · by_cases e : k = key'
    · subst e; rw [updN_same] at hh; cases hh
      exact .inr ⟨ho, fun b hb' => (hb b hb').imp (fun h => ⟨h, hlt key h0 hk b h⟩) id⟩
    · rw [updN_other _ _ e] at hh
      have := hm1 k h hh
      exact .inl ⟨this.1, fun b hb1 hb2 => this.2 (hr.inj k key h h0 b this.1 hk hb1 hb2)⟩
  · have key1 : ∀ k h, m1 k = some h → ∀ b, h.has b → h1.has b → False := fun k h hh b hb1 hb2 => by
      have := hm1 k h hh
      rcases hb b hb2 with h3 | h3
      · exact this.2 (hr.inj k key h h0 b this.1 hk hb1 h3)
      · have := hlt k h this.1 b hb1; omega
    by_cases e1 : k = key' <;> by_cases e2 : k' = key'
    · rw [e1, e2]
    · subst e1; rw [updN_same] at hh; cases hh; rw [updN_other _ _ e2] at hh'; exact (key1 k' h' hh' b e' e).elim
    · subst e2; rw [updN_same] at hh'; cases hh'; rw [updN_other _ _ e1] at hh; exact (key1 k h hh b e e').elim
    · rw [updN_other _ _ e1] at hh; rw [updN_other _ _ e2] at hh'
      exact hr.inj k k' h h' b (hm1 k h hh).1 (hm1 k' h' hh').1 e e'
theorem sel_key {α : Type} {l : List (Nat × α)} : ∀ (ks : List Nat) (l' : List (Nat × α)), sel ks l = some l' → ∀ i v, lk l' i = some v → i ∈ ks
  | [], l', h, i, v, hv => by simp [sel] at h; subst h; cases hv
  | k :: ks, l', h, i, v, hv => by
    simp only [sel] at h
    split at h
    · rename_i u r hu hr
      cases h
      simp only [lk] at hv
      split at hv
      · rename_i hb
        have := Nat.eq_of_beq_eq_true hb
        subst this; exact List.mem_cons_self
      · exact List.mem_cons_of_mem _ (sel_key ks r hr i v hv)
    · cases h
/-- as lists: the blocks of keep stay; key's is taken over by h1 under the name key' -/
theorem rep_ownL {a : Act} {w w' : World} (hr : Rep C (mk l m g gb dd) a w) {key : Nat} {h0 h1 : Hp} (hk : lk m key = some h0) (hc : Chg (fun b => h0.has b) w w') (ho : h1.ok w') (hb : ∀ b, h1.has b → h0.has b ∨ w.heap.size ≤ b) (key' : Nat)
    (keep : List Nat) (hs : sel keep m = some m') (hkeep : keep.contains key = false) : Rep C (mk l ((key', h1) :: m') g gb dd) a w' := by
  have := rep_own hr hk hc ho hb key' (lk m') (fun k h hh => ⟨sel_ok keep m' hs k h hh, fun e => by
    subst e
    have := sel_key keep m' hs k h hh
    simp at hkeep; exact hkeep this⟩)
  exact this

theorem oneCell_take {xs : List Value} (h : ∀ u ∈ xs, u.oneCell' = true) (k : Nat) : ∀ u ∈ xs.take k, u.oneCell' = true := fun u hu => h u (List.mem_of_mem_take hu)

theorem append_run {P : Program} {w : World} {ts by_ mm : Nat} {zv : Value} {ys : List Value} [ht : TSl P ts E esz] [he : TElem P E zv esz by_] (hok : (Hp.own v E esz n xs).ok w) (hu : RowV u mm) (hrw : RowAt w u esz mm ys) (hlen : n + mm ≤ 1099511627776) (hby : Nat.ble by_ 128 = true) :
    ∃ v' w', (Builtin.append_ #[ts, ts] ty #[v, u]).run P w = .ok v' w' ∧ w'.ownsRow 0 E esz v' (n + mm) (xs ++ ys) ∧ Chg (fun b => v.ownBlock = some b) w w' ∧ (∀ b, v'.ownBlock = some b → v.ownBlock = some b ∨ w.heap.size ≤ b) := by
  obtain ⟨ie, hi, hz, hsz, hb⟩ := he.h
  have hby' : by_ ≤ 128 := Nat.le_of_ble_eq_true hby
  have hbytes : (n + mm) * by_ ≤ 140737488355328 := Nat.le_trans (Nat.mul_le_mul hlen hby') (by decide)
  have hmax : n + mm ≤ maxLen := by unfold maxLen; omega
  subst hsz hb
  rcases hu with ⟨ub, uo, uc, rfl⟩ | hu
  · have hnews : ∀ j u, ys[j]? = some u → w.cell? ((⟨ub, uo, none⟩ : Addr).add j) = some u := fun j u hu => by rw [addAt]; exact hrw.at_ j u hu
    obtain ⟨v', w', h1, h2, h3, h4⟩ := run_append_own (P := P) w 0 ts ty E ie zv ie.size ie.bytes ht.h hi hz rfl rfl he.hz he.pos v n xs hok.1 ⟨ub, uo, none⟩ mm uc ys hrw.len hnews hrw.one hmax hbytes (Nat.zero_le _)
    refine ⟨v', w', h1, h2, Chg.grown h3, fun b hb => ?_⟩
    rcases hok.1.2 with ⟨rfl, rfl⟩ | ⟨g, cap, cur, rfl, h0, hg, hnc, hcm, hcs, htake⟩
    · by_cases hm : mm = 0
      · have := h4.2 ⟨rfl, hm⟩
        subst this; simp [Value.ownBlock] at hb
      · have hr := run_append_nil (P := P) w ts ty E ie zv ht.h hi hz ⟨ub, uo, none⟩ mm uc ys hrw.len hnews (by omega) (by unfold maxLen at hmax; omega) (by have hb := hbytes; simp only [Nat.zero_add] at hb; omega)
        have e := h1.symm.trans hr
        simp only [Result.ok.injEq] at e
        rw [e.1] at hb
        simp [Value.ownBlock] at hb
        exact .inr (by omega)
    · by_cases hroom : n + mm ≤ cap
      · have hfit : n * ie.size + ys.length ≤ cur.size := by rw [hrw.len, hcs, ← Nat.add_mul]; exact Nat.mul_le_mul_right _ hroom
        have hr := run_append_room (P := P) w ts ty E ie ht.h hi g n cap cur hg ⟨ub, uo, none⟩ mm uc ys hrw.len hnews hrw.one hroom hfit
        have e := h1.symm.trans hr
        simp only [Result.ok.injEq] at e
        rw [e.1] at hb
        exact .inl hb
      · have holds : ∀ j u, xs[j]? = some u → w.cell? ((⟨g, 0, none⟩ : Addr).add j) = some u := hok.1.cells (g := g) rfl
        have hr := run_append_grow (P := P) w ts ty E ie zv ht.h hi hz ⟨g, 0, none⟩ n cap xs hok.1.1 holds ⟨ub, uo, none⟩ mm uc ys hrw.len hnews (by omega) (by unfold maxLen at hmax; omega) (growslice_fits (by omega) hbytes)
        have e := h1.symm.trans hr
        simp only [Result.ok.injEq] at e
        rw [e.1] at hb
        simp [Value.ownBlock] at hb
        exact .inr (by omega)
  · have h0 : mm = 0 := by rcases hu with h | ⟨a, c, h⟩ <;> simp_all
    subst h0
    have : ys = [] := List.eq_nil_of_length_eq_zero (by simpa using hrw.len)
    subst this
    refine ⟨v, w, ?_, by simpa using hok.1, Chg.refl _ w, fun b hb => .inl hb⟩
    have hu' : u = .slice none 0 0 ∨ ∃ a c, u = .slice (some a) 0 c := by
      rcases hu with h | ⟨a, c, h, _⟩
      · exact .inl h.1
      · exact .inr ⟨a, c, h⟩
    rcases hok.1.2 with ⟨rfl, rfl⟩ | ⟨g, cap, cur, rfl, h0, hg, hnc, hcm, hcs, htake⟩ <;> rcases hu' with rfl | ⟨a, c, rfl⟩
    · simp [Builtin.append_, run_underlying ht.h, sizeOf, typeInfo, hi, Builtin.lenOf, Builtin.firstCells, Sem.run_bind, Result.andThen, loadCells, loadCellsFrom]
    · simp [Builtin.append_, run_underlying ht.h, sizeOf, typeInfo, hi, Builtin.lenOf, Builtin.firstCells, Sem.run_bind, Result.andThen, loadCells, loadCellsFrom]
    · simp [Builtin.append_, run_underlying ht.h, sizeOf, typeInfo, hi, Builtin.lenOf, Builtin.firstCells, Sem.run_bind, Result.andThen, hnc, storeCells, loadCells, loadCellsFrom]
    · simp [Builtin.append_, run_underlying ht.h, sizeOf, typeInfo, hi, Builtin.lenOf, Builtin.firstCells, Sem.run_bind, Result.andThen, hnc, storeCells, loadCells, loadCellsFrom]

/-- append -/
theorem l_append (key keep : _) {ts by_ mm : Nat} {zv : Value} {ys : List Value} {X Y : Operand} [ht : TSl C.P ts E esz] [he : TElem C.P E zv esz by_] (hw : wantS C (mk l m g gb dd) ops ⟨some i, .call { callee := .builtin .append, args := #[X, Y], argTypes := #[ts, ts] }, ty, pos, aft, gd⟩ = some true)
    (h : ev C (mk l m g gb dd) X = some v) (hk : lk m key = some (.own v E esz n xs)) (h2 : ev C (mk l m g gb dd) Y = some u) (hs : sel keep m = some m') (hkeep : keep.contains key = false) (hby : Nat.ble by_ 128 = true) (hu : RowV u mm) (hrow : RowIn (mk l m g gb dd) ks u esz mm ys)
    (hlen : n + mm ≤ 1099511627776)
    (next : ∀ v', RowV v' (n + mm) → VL C ops rest K (mk ((i, v') :: l) ((i, .own v' E esz (n + mm) (xs ++ ys)) :: m') g gb dd)) : VL C ops (⟨some i, .call { callee := .builtin .append, args := #[X, Y], argTypes := #[ts, ts] }, ty, pos, aft, gd⟩ :: rest) K (mk l m g gb dd) :=
  vl_step hw fun a w hr => by
    have hX : a.eval X = v := ev_ok hr h
    have hY : a.eval Y = u := ev_ok hr h2
    have hok : (Hp.own v E esz n xs).ok w := (hr.mo key _ hk).1
    have hrw := hrow w hr.gh (held_of hr ks)
    obtain ⟨v', w', h3, h4, h5, h6⟩ := append_run (P := C.P) (ts := ts) (ty := ty) hok hu hrw hlen hby
    have hone : ∀ u' ∈ xs ++ ys, u'.oneCell' = true := fun u' hu' => by
      rcases List.mem_append.1 hu' with h | h
      · exact hok.2 u' h
      · exact hrw.one u' h
    refine wpIn_value (y := v') (w' := w') (by simp) ?_ ⟨mk ((i, v') :: l) ((i, .own v' E esz (n + mm) (xs ++ ys)) :: m') g gb dd, ?_, next v' (rowV_own (w := w') ⟨h4, hone⟩)⟩
    · simp [execOp, resolve, hX, hY, invoke, builtin, Sem.run_bind, Result.andThen, h3]
    · rw [← mk_put]
      exact rep_put (rep_ownL hr hk (h1 := .own v' E esz (n + mm) (xs ++ ys)) h5 ⟨h4, hone⟩ h6 i keep hs hkeep) (some i) v'

/-! ### a slice that is written out -/
def zerosOf (z : List Value) : Nat → List Value
  | 0 => []
  | n + 1 => z ++ zerosOf z n
theorem zerosOf_len (z : List Value) : ∀ n, (zerosOf z n).length = n * z.length
  | 0 => by simp [zerosOf]
  | n + 1 => by simp [zerosOf, zerosOf_len z n, Nat.add_mul]; omega
theorem zerosOf_get (z : List Value) (hz : 0 < z.length) : ∀ (n i : Nat), i < n * z.length → (zerosOf z n)[i]? = z[i % z.length]?
  | 0, i, h => by omega
  | n + 1, i, h => by
    simp only [zerosOf]
    by_cases hi : i < z.length
    · rw [List.getElem?_append_left hi, Nat.mod_eq_of_lt hi]
    · rw [List.getElem?_append_right (by omega), zerosOf_get z hz n (i - z.length) (by rw [Nat.add_mul] at h; omega)]
      congr 1
      rw [Nat.mod_eq_sub_mod (a := i) (by omega)]
theorem zeros_ok (z : Array Value) (n : Nat) (hz : 0 < z.size) : (Array.range (n * z.size)).map (z[· % z.size]!) = (zerosOf z.toList n).toArray := by
  apply Array.ext
  · simp [zerosOf_len]
  · intro i h1 h2
    have hi : i < n * z.size := by simpa using h1
    have hm : i % z.size < z.size := Nat.mod_lt _ hz
    have := zerosOf_get z.toList (by simpa using hz) n i (by simpa using hi)
    have h3 : i < (zerosOf z.toList n).length := by simpa using h2
    rw [List.getElem?_eq_getElem h3, Array.length_toList, List.getElem?_eq_getElem (by simpa using hm)] at this
    simp only [Option.some.injEq] at this
    simp [hm, this]
theorem fillL_ok' {place : Nat → Option (Nat × Nat)} (pl : List (Nat × Nat)) (hp : ∀ i p, pl[i]? = some p → place i = some p) : ∀ (ps : List (Nat × Value)) (zs : List Value) (rs : List Value), fillL pl zs ps = some rs → Instr.fill place zs.toArray ps = some rs.toArray ∧ rs.length = zs.length
  | [], zs, rs, h => by simp only [fillL, Option.some.injEq] at h; subst h; exact ⟨rfl, rfl⟩
  | (i, v) :: r, zs, rs, h => by
    simp only [fillL] at h
    split at h
    · rename_i off n hpi
      split at h
      · rename_i hc
        simp only [Bool.and_eq_true] at hc
        have h1 : v.cells.size = n := by simpa using Nat.eq_of_beq_eq_true hc.1
        have h2 : off + n ≤ zs.length := Nat.le_of_ble_eq_true hc.2
        have ih := fillL_ok' pl hp r _ rs h
        refine ⟨?_, ih.2.trans (splice_len _ _ _)⟩
        simp only [Instr.fill, hp i _ hpi]
        rw [if_neg (by simp [h1]; omega), ← ih.1]
        congr 1
        apply Array.ext'
        have := splice_ok v.cells.toList zs.toArray off 0
        simp only [Nat.add_zero] at this
        rw [← this, ← Array.foldl_toList, Array.toList_zipIdx]
      · cases h
    · cases h
theorem rep_newOwn {a : Act} {w w' : World} (hr : Rep C (mk l m g gb dd) a w) {h1 : Hp} (hb : Below w.heap.size w w') (ho : h1.ok w') (hn : ∀ b, h1.has b → w.heap.size ≤ b) (key' : Nat) : Rep C (mk l ((key', h1) :: m) g gb dd) a w' := by
  have hlt : ∀ k h, lk m k = some h → ∀ b, h.has b → b < w.heap.size := fun k h hk b hb => Hp.lt (hr.mo k h hk).1 hb
  have := rep_chg hr (fun _ => False) (Chg.of_below hb) (fun _ h => h.elim) (updN (lk m) key' (some h1)) (fun k h hh => ?_) fun k k' h h' b hh hh' e e' => ?_
  · exact this
  · by_cases e : k = key'
    · subst e; rw [updN_same] at hh; cases hh
      exact .inr ⟨ho, fun b hb => .inr (hn b hb)⟩
    · rw [updN_other _ _ e] at hh; exact .inl ⟨hh, fun _ _ h => h⟩
  · by_cases e1 : k = key' <;> by_cases e2 : k' = key'
    · rw [e1, e2]
    · subst e1; rw [updN_same] at hh; cases hh; rw [updN_other _ _ e2] at hh'
      have := hn b e; have := hlt k' h' hh' b e'; omega
    · subst e2; rw [updN_same] at hh'; cases hh'; rw [updN_other _ _ e1] at hh
      have := hn b e'; have := hlt k h hh b e; omega
    · rw [updN_other _ _ e1] at hh; rw [updN_other _ _ e2] at hh'
      exact hr.inj k k' h h' b hh hh' e e'

theorem o_bs {n : Nat} {cs vs : List Value} {by_ : Nat} {zv : Value} {ps : Array (Nat × Operand)} [ht : TSl C.P T E esz] [he : TElem C.P E zv esz by_] (h : evs C s (ps.toList.map (·.2)) = some vs) (hf : fillL ((List.range n).map fun i => (i * esz, esz)) (zerosOf zv.cells.toList n) ((ps.toList.map (·.1)).zip vs) = some cs)
    (hn : Nat.ble n 1000 = true) (hsz : Nat.ble esz 1000 = true) : OpN C s ⟨d, .buildSlice T n ps, ty, pos, aft, gd⟩ (fun b => .slice (some ⟨b, 0, none⟩) n n) E cs :=
  ⟨by simp, fun ρ w hr => by
    have hvs := evs_ok (C := C) (s := s) (ρ := ρ) (ps.toList.map (·.2)) vs (fun x hx v hv => rd1 hr (x := x) (by simpa [Op.operands] using hx) hv) h
    have hps : (ps.map fun p => (p.1, ρ p.2)).toList = (ps.toList.map (·.1)).zip vs := by
      rw [Array.toList_map, ← hvs, List.map_map, List.zip_map']
      rfl
    obtain ⟨ie, hi, hz, hs2, hb⟩ := he.h
    have hn' : n ≤ 1000 := Nat.le_of_ble_eq_true hn
    have hsz' : esz ≤ 1000 := Nat.le_of_ble_eq_true hsz
    have hmul : n * esz ≤ 1000 * 1000 := Nat.mul_le_mul hn' hsz'
    have hfo := fillL_ok' (place := fun i => some (i * esz, esz)) _ (fun i p hp => by
      rw [List.getElem?_map] at hp
      by_cases hlt : i < n
      · rw [List.getElem?_range hlt] at hp; exact hp
      · rw [List.getElem?_eq_none (by simpa using hlt)] at hp; cases hp) _ _ _ hf
    have hzz := zeros_ok zv.cells n (by rw [he.hz]; exact he.pos)
    rw [he.hz] at hzz
    have main : (Instr.buildSlice T n (ps.map fun p => (p.1, ρ p.2))).run C.P w = .ok (.slice (some ⟨w.heap.size, 0, none⟩) n n) (w.alloc (.cells cs.toArray E)) := by
      have hzv : (zeroValue E).run C.P w = .ok zv w := by simp [zeroValue, typeInfo, hi, hz]
      have hso : (sizeOf E).run C.P w = .ok esz w := by simp [sizeOf, typeInfo, hi, hs2]
      have hne : ¬ (n * esz > 2 ^ 24) := by omega
      subst hs2
      by_cases h0 : n * ie.size = 0
      · have hn0 : n = 0 := by
          rcases Nat.mul_eq_zero.1 h0 with h | h
          · exact h
          · have := he.pos; omega
        subst hn0
        have hf2 := hfo.1
        rw [show (zerosOf zv.cells.toList 0).toArray = #[] from rfl, ← hps, Array.toList_map] at hf2
        have e0 : (Array.map (fun _ => (default : Value)) (Array.range 0)) = #[] := by
          apply Array.ext'
          simp
        unfold Instr.buildSlice
        simp [Sem.run_bind, run_underlying ht.h, hso, Result.andThen, e0, hf2, newRow, run_newObj_alloc]
      · exact run_buildSlice w T E n _ cs.toArray ie zv ht.h hi hz hne h0 (by rw [he.hz, hzz, hps]; exact hfo.1)
    have : (execOp ρ ⟨d, .buildSlice T n ps, ty, pos, aft, gd⟩) = (do pure (.value (← Instr.buildSlice T n (ps.map fun p => (p.1, ρ p.2)))) : Sem Next) := by simp only [execOp]
    rw [this, Sem.run_bind, main]; rfl⟩
/-- a new slice's cells, as a row of our own -/
theorem l_toOwn (key : Nat) (keep : List Nat) {b n : Nat} {cs : List Value} (esz : Nat) (hk : lk m key = some (.box b E cs)) (hs : sel keep m = some m') (hkeep : keep.contains key = false) (hl : cs.length = n * esz) (hn : Nat.ble n 1000 = true) (h1 : cs.all (·.oneCell') = true)
    (next : VL C ops rest K (mk l ((key, .own (.slice (some ⟨b, 0, none⟩) n n) E esz n cs) :: m') g gb dd)) : VL C ops rest K (mk l m g gb dd) := fun a w hr => next a w (by
  have hb : Blk w b cs.toArray E := (hr.mo key _ hk).1
  have hn' : n ≤ 1000 := Nat.le_of_ble_eq_true hn
  refine rep_ownL (h1 := .own (.slice (some ⟨b, 0, none⟩) n n) E esz n cs) hr hk (Chg.refl _ w) ⟨⟨hl, .inr ⟨b, n, cs.toArray, rfl, Nat.zero_le _, hb, Nat.le_refl _, by unfold maxLen; omega, by simp [hl], by simp [← hl]⟩⟩, fun u hu => List.all_eq_true.1 h1 u hu⟩ (fun b' hb' => .inl (by simpa [Hp.has, Value.ownBlock] using hb')) key keep hs hkeep)

theorem l_buildSlice {n : Nat} {cs vs : List Value} {by_ : Nat} {zv : Value} {ps : Array (Nat × Operand)} [ht : TSl C.P T E esz] [he : TElem C.P E zv esz by_] (hw : wantS C (mk l m g gb dd) ops ⟨some i, .buildSlice T n ps, ty, pos, aft, gd⟩ = some true)
    (h : evs C (mk l m g gb dd) (ps.toList.map (·.2)) = some vs) (hf : fillL ((List.range n).map fun i => (i * esz, esz)) (zerosOf zv.cells.toList n) ((ps.toList.map (·.1)).zip vs) = some cs) (hn : Nat.ble n 1000 = true) (hsz : Nat.ble esz 1000 = true) (h1 : cs.all (·.oneCell') = true)
    (next : ∀ v', RowV v' n → VL C ops rest K (mk ((i, v') :: l) ((i, .own v' E esz n cs) :: m) g gb dd)) : VL C ops (⟨some i, .buildSlice T n ps, ty, pos, aft, gd⟩ :: rest) K (mk l m g gb dd) :=
  vl_step hw fun a w hr => by
    have hvs := evs_ok (C := C) (s := mk l m g gb dd) (ρ := a.eval) (ps.toList.map (·.2)) vs (fun x hx v hv => ev_ok hr hv) h
    have hps : (ps.map fun p => (p.1, a.eval p.2)).toList = (ps.toList.map (·.1)).zip vs := by
      rw [Array.toList_map, ← hvs, List.map_map, List.zip_map']
      rfl
    have main : (Instr.buildSlice T n (ps.map fun p => (p.1, a.eval p.2))).run C.P w = .ok (.slice (some ⟨w.heap.size, 0, none⟩) n n) (w.alloc (.cells cs.toArray E)) ∧ cs.length = n * esz := by
      obtain ⟨ie, hi, hz, hs2, hb⟩ := he.h
      have hn' : n ≤ 1000 := Nat.le_of_ble_eq_true hn
      have hsz' : esz ≤ 1000 := Nat.le_of_ble_eq_true hsz
      have hmul : n * esz ≤ 1000 * 1000 := Nat.mul_le_mul hn' hsz'
      have hfo := fillL_ok' (place := fun i => some (i * esz, esz)) _ (fun i p hp => by
        rw [List.getElem?_map] at hp
        by_cases hlt : i < n
        · rw [List.getElem?_range hlt] at hp; exact hp
        · rw [List.getElem?_eq_none (by simpa using hlt)] at hp; cases hp) _ _ _ hf
      have hlen : cs.length = n * esz := by rw [hfo.2, zerosOf_len]; simp [he.hz]
      have hzz := zeros_ok zv.cells n (by rw [he.hz]; exact he.pos)
      rw [he.hz] at hzz
      refine ⟨?_, hlen⟩
      have hzv : (zeroValue E).run C.P w = .ok zv w := by simp [zeroValue, typeInfo, hi, hz]
      have hso : (sizeOf E).run C.P w = .ok esz w := by simp [sizeOf, typeInfo, hi, hs2]
      have hne : ¬ (n * esz > 2 ^ 24) := by omega
      subst hs2
      by_cases h0 : n * ie.size = 0
      · have hn0 : n = 0 := by
          rcases Nat.mul_eq_zero.1 h0 with h | h
          · exact h
          · have := he.pos; omega
        subst hn0
        have hf2 := hfo.1
        rw [show (zerosOf zv.cells.toList 0).toArray = #[] from rfl, ← hps, Array.toList_map] at hf2
        have e0 : (Array.map (fun _ => (default : Value)) (Array.range 0)) = #[] := by
          apply Array.ext'
          simp
        unfold Instr.buildSlice
        simp [Sem.run_bind, run_underlying ht.h, hso, Result.andThen, e0, hf2, newRow, run_newObj_alloc]
      · exact run_buildSlice w T E n _ cs.toArray ie zv ht.h hi hz hne h0 (by rw [he.hz, hzz, hps]; exact hfo.1)
    have hone : ∀ u' ∈ cs, u'.oneCell' = true := fun u' hu' => List.all_eq_true.1 h1 u' hu'
    have hn' : n ≤ 1000 := Nat.le_of_ble_eq_true hn
    have hown : (w.alloc (.cells cs.toArray E)).ownsRow 0 E esz (.slice (some ⟨w.heap.size, 0, none⟩) n n) n cs :=
      ⟨main.2, .inr ⟨w.heap.size, n, cs.toArray, rfl, Nat.zero_le _, Blk.new w _ E, Nat.le_refl _, by unfold maxLen; omega, by simp [main.2], by simp [← main.2]⟩⟩
    refine wpIn_value (y := .slice (some ⟨w.heap.size, 0, none⟩) n n) (w' := w.alloc (.cells cs.toArray E)) (by simp) ?_ ⟨mk ((i, .slice (some ⟨w.heap.size, 0, none⟩) n n) :: l) ((i, .own (.slice (some ⟨w.heap.size, 0, none⟩) n n) E esz n cs) :: m) g gb dd, ?_, next _ (.inl ⟨_, _, _, rfl⟩)⟩
    · have : (execOp a.eval ⟨some i, .buildSlice T n ps, ty, pos, aft, gd⟩) = (do pure (.value (← Instr.buildSlice T n (ps.map fun p => (p.1, a.eval p.2)))) : Sem Next) := by simp only [execOp]
      rw [this, Sem.run_bind, main.1]; rfl
    · rw [← mk_put]
      exact rep_put (rep_newOwn hr ((Below.refl _ w).alloc (Nat.le_refl _) _) (h1 := .own _ E esz n cs) ⟨hown, hone⟩ (fun b hb => by simp [Hp.has, Value.ownBlock] at hb; omega) i) (some i) _
end Go.Proofs.Ytpgjbalnipinoaa

/- Calls that make rows; a row that is written; a range over a function, from both sides. Conditions: none. -/
namespace Go.Proofs.Ytpgjbalnipinoaa
open Go.Proofs Go.RowKit

variable {C : Cx} {K : Exit → St → Prop} {ops : Array Oper} {rest : List Oper} {l l' : List (Nat × Value)} {m m' : List (Nat × Hp)} {g : World → Prop} {gb : Nat → Prop} {dd : List Nat}
  {i : Nat} {d : Option Nat} {op : Op} {ty : TypeId} {pos : String} {aft : Array Edge} {gd : Option (Nat × Bool)} {ks : List Nat} {y : Value} {T T' E : TypeId} {s : St} {x z : Operand} {v u : Value} {n esz j : Nat} {xs : List Value}
  {a : Act} {w w' : World} {f : Nat} {cal : Operand} {as_ : Array Operand} {ts : Array TypeId} {vs : List Value}

/-- a row that a call has made -/
def OwnAt (B : Nat) (w : World) (v : Value) (E : TypeId) (esz n : Nat) (xs : List Value) : Prop := (Hp.own v E esz n xs).ok w ∧ ∀ b, v.ownBlock = some b → B ≤ b
theorem OwnAt.row {B : Nat} (h : OwnAt B w v E esz n xs) : RowAt w v esz n xs := rowAt_own h.1
theorem OwnAt.rowV {B : Nat} (h : OwnAt B w v E esz n xs) : RowV v n := rowV_own h.1

theorem call_step {caps : Array Value} {R : Value → World → Prop} {K : Act → World → Prop} {Q : Exit → Act → World → Prop} (hr : Rep C s a w) (hcal : ev C s cal = some (.func (.func f) #[] caps)) (hent : ∀ args w, (callFunc f args).run C.P w = .ok (.enter f args) w) (hargs : evs C s as_.toList = some vs)
    (hc : Calls C.P f (vs.toArray ++ caps) w fun e w' => ∃ y, e = .returned y ∧ R y w') (hK : ∀ y w', R y w' → K (a.put d y) w') :
    (⟨d, .call { callee := .value cal, args := as_, argTypes := ts }, ty, pos, aft, gd⟩ : Oper).wpIn C.F C.n C.P a w K Q := by
  refine wpIn_enter (f := f) (args := vs.toArray ++ caps) (by simp) ?_ hc hK
  rw [run_callTo (ev_ok hr hcal) (args_of (d := d) (ty := ty) (pos := pos) (aft := aft) (gd := gd) (cal := cal) (ts := ts) (reads_of hr) hargs)]
  exact hent _ w

/-- a call that makes a row and turns nothing -/
theorem l_gown (hw : wantS C (mk l m g gb dd) ops ⟨some i, .call { callee := .value cal, args := as_, argTypes := ts }, ty, pos, aft, gd⟩ = some true) {caps : Array Value} (hcal : ev C (mk l m g gb dd) cal = some (.func (.func f) #[] caps)) (hent : ∀ args w, (callFunc f args).run C.P w = .ok (.enter f args) w) (hargs : evs C (mk l m g gb dd) as_.toList = some vs)
    (hc : ∀ w, g w → Held (mk l m g gb dd) ks w → Calls C.P f (vs.toArray ++ caps) w fun e w' => ∃ y, e = .returned y ∧ Below w.heap.size w w' ∧ OwnAt w.heap.size w' y E esz n xs)
    (next : ∀ y, RowV y n → VL C ops rest K (mk ((i, y) :: l) ((i, .own y E esz n xs) :: m) g gb dd)) : VL C ops (⟨some i, .call { callee := .value cal, args := as_, argTypes := ts }, ty, pos, aft, gd⟩ :: rest) K (mk l m g gb dd) :=
  vl_step hw fun a w hr => call_step (R := fun y w' => Below w.heap.size w w' ∧ OwnAt w.heap.size w' y E esz n xs) hr hcal hent hargs ((hc w hr.gh (held_of hr ks)).mono fun e w' ⟨y, h1, h2, h3⟩ => ⟨y, h1, h2, h3⟩) fun y w' ⟨h1, h2⟩ =>
    ⟨mk ((i, y) :: l) ((i, .own y E esz n xs) :: m) g gb dd, by rw [← mk_put]; exact rep_put (rep_newOwn hr h1 h2.1 (fun b hb => h2.2 b hb) i) (some i) y, next y h2.rowV⟩
/-- a call that turns a row of ours, and hands one back in its place -/
theorem l_gmut (key : Nat) (keep : List Nat) {n0 : Nat} {xs0 : List Value} {E0 e0 : Nat} (hw : wantS C (mk l m g gb dd) ops ⟨some i, .call { callee := .value cal, args := as_, argTypes := ts }, ty, pos, aft, gd⟩ = some true) {caps : Array Value} (hcal : ev C (mk l m g gb dd) cal = some (.func (.func f) #[] caps)) (hent : ∀ args w, (callFunc f args).run C.P w = .ok (.enter f args) w) (hargs : evs C (mk l m g gb dd) as_.toList = some vs)
    (hk : lk m key = some (.own v E0 e0 n0 xs0)) (hs : sel keep m = some m') (hkeep : keep.contains key = false)
    (hc : ∀ w, g w → Held (mk l m g gb dd) ks w → (Hp.own v E0 e0 n0 xs0).ok w → Calls C.P f (vs.toArray ++ caps) w fun e w' => ∃ y, e = .returned y ∧ Chg (fun b => v.ownBlock = some b) w w' ∧ (Hp.own y E esz n xs).ok w' ∧ ∀ b, y.ownBlock = some b → v.ownBlock = some b ∨ w.heap.size ≤ b)
    (next : ∀ y, RowV y n → VL C ops rest K (mk ((i, y) :: l) ((i, .own y E esz n xs) :: m') g gb dd)) : VL C ops (⟨some i, .call { callee := .value cal, args := as_, argTypes := ts }, ty, pos, aft, gd⟩ :: rest) K (mk l m g gb dd) :=
  vl_step hw fun a w hr => call_step (R := fun y w' => Chg (fun b => v.ownBlock = some b) w w' ∧ (Hp.own y E esz n xs).ok w' ∧ ∀ b, y.ownBlock = some b → v.ownBlock = some b ∨ w.heap.size ≤ b) hr hcal hent hargs ((hc w hr.gh (held_of hr ks) (hr.mo key _ hk).1).mono fun e w' ⟨y, h1, h2, h3, h4⟩ => ⟨y, h1, h2, h3, h4⟩) fun y w' ⟨h1, h2, h3⟩ =>
    ⟨mk ((i, y) :: l) ((i, .own y E esz n xs) :: m') g gb dd, by rw [← mk_put]; exact rep_put (rep_ownL hr hk h1 h2 h3 i keep hs hkeep) (some i) y, next y (rowV_own h2)⟩
/-- the same, where nothing is handed back -/
theorem l_gmut0 (key : Nat) {xs0 : List Value} (hw : wantS C (mk l m g gb dd) ops ⟨d, .call { callee := .value cal, args := as_, argTypes := ts }, ty, pos, aft, gd⟩ = some true) {caps : Array Value} (hcal : ev C (mk l m g gb dd) cal = some (.func (.func f) #[] caps)) (hent : ∀ args w, (callFunc f args).run C.P w = .ok (.enter f args) w) (hargs : evs C (mk l m g gb dd) as_.toList = some vs)
    (hk : lk m key = some (.own v E esz n xs0))
    (hc : ∀ w, g w → Held (mk l m g gb dd) ks w → (Hp.own v E esz n xs0).ok w → Calls C.P f (vs.toArray ++ caps) w fun e w' => (∃ y, e = .returned y) ∧ Chg (fun b => v.ownBlock = some b) w w' ∧ (Hp.own v E esz n xs).ok w')
    (next : ∀ y, VL C ops rest K ((mk l ((key, .own v E esz n xs) :: m) g gb dd).put d y)) : VL C ops (⟨d, .call { callee := .value cal, args := as_, argTypes := ts }, ty, pos, aft, gd⟩ :: rest) K (mk l m g gb dd) :=
  vl_step hw fun a w hr => call_step (R := fun y w' => Chg (fun b => v.ownBlock = some b) w w' ∧ (Hp.own v E esz n xs).ok w') hr hcal hent hargs ((hc w hr.gh (held_of hr ks) (hr.mo key _ hk).1).mono fun e w' ⟨⟨y, h1⟩, h2, h3⟩ => ⟨y, h1, h2, h3⟩) fun y w' ⟨h1, h2⟩ =>
    ⟨(mk l ((key, .own v E esz n xs) :: m) g gb dd).put d y, rep_put (by
      have := rep_store hr (k := key) (h' := .own v E esz n xs) hk rfl h2 h1
      rwa [mk_mem] at this) d y, next y⟩
/-- a call that makes a box and turns nothing -/
theorem l_gbox {X : Nat → Value} {cs : List Value} (hw : wantS C (mk l m g gb dd) ops ⟨some i, .call { callee := .value cal, args := as_, argTypes := ts }, ty, pos, aft, gd⟩ = some true) {caps : Array Value} (hcal : ev C (mk l m g gb dd) cal = some (.func (.func f) #[] caps)) (hent : ∀ args w, (callFunc f args).run C.P w = .ok (.enter f args) w) (hargs : evs C (mk l m g gb dd) as_.toList = some vs)
    (hc : ∀ w, g w → Held (mk l m g gb dd) ks w → Calls C.P f (vs.toArray ++ caps) w fun e w' => ∃ b, e = .returned (X b) ∧ Below w.heap.size w w' ∧ Blk w' b cs.toArray T ∧ w.heap.size ≤ b)
    (next : ∀ b, VL C ops rest K (mk ((i, X b) :: l) ((i, .box b T cs) :: m) g gb dd)) : VL C ops (⟨some i, .call { callee := .value cal, args := as_, argTypes := ts }, ty, pos, aft, gd⟩ :: rest) K (mk l m g gb dd) :=
  vl_step hw fun a w hr => call_step (R := fun y w' => ∃ b, y = X b ∧ Below w.heap.size w w' ∧ Blk w' b cs.toArray T ∧ w.heap.size ≤ b) hr hcal hent hargs ((hc w hr.gh (held_of hr ks)).mono fun e w' ⟨b, h1, h2⟩ => ⟨_, h1, b, rfl, h2⟩) fun y w' ⟨b, h0, h1, h2, h3⟩ =>
    ⟨mk ((i, X b) :: l) ((i, .box b T cs) :: m) g gb dd, by subst h0; rw [← mk_put]; exact rep_put (rep_newOwn hr h1 (h1 := .box b T cs) h2 (fun b' hb => by cases hb; exact h3) i) (some i) _, next b⟩

/-! ### what nobody turns any more -/
theorem rep_freeze (hr : Rep C (mk l m g gb dd) a w) {key : Nat} {h : Hp} (hk : lk m key = some h) (keep : List Nat) (hs : sel keep m = some m') (hkeep : keep.contains key = false) : Rep C (mk l m' (fun w => g w ∧ h.ok w) (fun b => gb b ∨ h.has b) dd) a w := by
  have hm : ∀ k p, lk m' k = some p → lk m k = some p ∧ k ≠ key := fun k p hp => ⟨sel_ok keep m' hs k p hp, fun e => by
    subst e; have := sel_key keep m' hs k p hp; simp at hkeep; exact hkeep this⟩
  have hok := (hr.mo key h hk).1
  refine ⟨hr.dfs, hr.dd, fun D hD => ⟨(hr.dg D hD).1, fun h' => ?_⟩, hr.dn, hr.sz, hr.tm, fun k p hp => hr.mo k p (hm k p hp).1, fun k k' p p' b e e' => hr.inj k k' p p' b (hm _ _ e).1 (hm _ _ e').1, ⟨hr.gh, hok⟩, fun b hb => ?_, fun w1 w2 hc hg => ?_, hr.fr, hr.ko⟩
  · rcases h' with h' | h'
    · exact (hr.dg D hD).2 h'
    · obtain ⟨o, h1, h2⟩ := Hp.isCells hok h'
      rw [hr.dd D hD] at h1; cases h1; cases h2
  · rcases hb with hb | hb
    · exact ⟨(hr.gd b hb).1, fun k p hp => (hr.gd b hb).2 k p (hm k p hp).1⟩
    · exact ⟨Hp.lt hok hb, fun k p hp e => (hm k p hp).2 (hr.inj k key p h b (hm k p hp).1 hk e hb)⟩
  · refine ⟨hr.st w1 w2 (hc.mono fun k _ hn => fun h => hn (.inl h)) hg.1, Hp.keep hg.2 fun b hb => hc.block b (Hp.lt hg.2 hb) fun hn => hn (.inr hb)⟩
theorem l_freeze (key : Nat) (keep : List Nat) {h : Hp} (hk : lk m key = some h) (hs : sel keep m = some m') (hkeep : keep.contains key = false) (next : VL C ops rest K (mk l m' (fun w => g w ∧ h.ok w) (fun b => gb b ∨ h.has b) dd)) : VL C ops rest K (mk l m g gb dd) :=
  fun a w hr => next a w (rep_freeze hr hk keep hs hkeep)
theorem v_freeze (key : Nat) (keep : List Nat) {c : Code} {h : Hp} (hk : lk m key = some h) (hs : sel keep m = some m') (hkeep : keep.contains key = false) (next : V C c K (mk l m' (fun w => g w ∧ h.ok w) (fun b => gb b ∨ h.has b) dd)) : V C c K (mk l m g gb dd) :=
  fun a w hr => next a w (rep_freeze hr hk keep hs hkeep)

/-! ### a row that is written -/
theorem setRow_row {w : World} {g : Nat} {cur : Array Value} {E : TypeId} (hg : w.heap[g]? = some (.cells cur E (0, 0))) (rs : Array Value) : (w.setRow g rs).heap[g]? = some (.cells rs E (0, 0)) := setRow_heap w g cur rs _ _ hg
theorem take_splice {α : Type} (cl news : List α) (off N : Nat) (h : off + news.length ≤ N) (hN : N ≤ cl.length) : (cl.take off ++ news ++ cl.drop (off + news.length)).take N = (cl.take N).take off ++ news ++ (cl.take N).drop (off + news.length) := by
  have e1 : (cl.take off).length = off := by rw [List.length_take]; omega
  rw [List.append_assoc, List.take_append, e1, List.take_append, List.take_of_length_le (l := cl.take off) (by omega), List.take_of_length_le (l := news) (by omega), List.take_take, Nat.min_eq_left (by omega), List.drop_take, List.append_assoc, Nat.sub_sub]
/-- cells of a row are stored -/
theorem own_store {P : Program} {w : World} (hok : (Hp.own v E esz n xs).ok w) (off : Nat) (news : List Value) (hle : off + news.length ≤ xs.length) (h1 : ∀ u ∈ news, u.oneCell' = true) (hne : news ≠ []) :
    ∃ w', (storeCells ⟨blkOf v, offOf v + off, none⟩ news).run P w = .ok () w' ∧ (Hp.own v E esz n (xs.take off ++ news ++ xs.drop (off + news.length))).ok w' ∧ Chg (fun b => v.ownBlock = some b) w w' := by
  have hpos : 0 < news.length := List.length_pos_iff.2 hne
  have hone : ∀ u ∈ xs.take off ++ news ++ xs.drop (off + news.length), u.oneCell' = true := fun u hu => by
    rcases List.mem_append.1 hu with hu | hu
    · rcases List.mem_append.1 hu with hu | hu
      · exact hok.2 u (List.mem_of_mem_take hu)
      · exact h1 u hu
    · exact hok.2 u (List.mem_of_mem_drop hu)
  rcases hok.1.2 with ⟨rfl, rfl⟩ | ⟨g, cap, cur, rfl, h0, hg, hnc, hcm, hcs, htake⟩
  · have hxs : xs.length = 0 := by simpa using hok.1.1
    omega
  · have hxl := hok.1.1
    have hfit : off + news.length ≤ cur.size := by
      rw [hcs]; have := Nat.mul_le_mul_right esz hnc; omega
    have hst := run_storeCells_at (P := P) g off E news 0 cur w hg (by simpa using hfit) h1
    simp only [Nat.add_zero] at hst
    refine ⟨_, by simpa [blkOf, offOf] using hst, ⟨⟨by simp; omega, .inr ⟨g, cap, _, rfl, h0, setRow_row hg _, hnc, hcm, by simp; omega, ?_⟩⟩, hone⟩, (Chg.setRow w g _).mono fun k _ hk => by simp [Value.ownBlock, hk]⟩
    rw [← htake]
    have e := take_splice cur.toList news off (n * esz) (by omega) (by simp [hcs]; exact Nat.mul_le_mul_right _ hnc)
    simpa [List.append_assoc] using e
theorem o_storeRE {key : Nat} {c : List Value} [ht : TAgg C.P T esz] (hesz : 0 < esz) (h : ev C s x = some (.pointer (some ⟨blkOf v, offOf v + j * esz, none⟩))) (h2 : ev C s z = some u) (hc : u.cells.toList = c) (hcl : c.length = esz) (h1 : c.all (·.oneCell') = true) (hm : s.m key = some (.own v E esz n xs)) (hlt : j < n) :
    OpS C s ⟨d, .store T x z, ty, pos, aft, gd⟩ key (.own v E esz n xs) (.own v E esz n (xs.take (j * esz) ++ c ++ xs.drop (j * esz + esz))) :=
  ⟨by simp, hm, rfl, fun ρ w hr hok => by
    have hxl := (show (Hp.own v E esz n xs).ok w from hok).1.1
    have hmul : j * esz + esz ≤ n * esz := by rw [← Nat.succ_mul]; exact Nat.mul_le_mul_right _ hlt
    obtain ⟨w', h3, h4, h5⟩ := own_store (P := C.P) hok (j * esz) c (by rw [hxl, hcl]; exact hmul) (fun u hu => List.all_eq_true.1 h1 u hu) (by intro e; subst e; simp at hcl; omega)
    rw [hcl] at h4
    refine ⟨w', ?_, h4, h5⟩
    have hus : u.cells.size = esz := by rw [← hcl, ← hc]; rfl
    have hrow : (storeVar T ⟨blkOf v, offOf v + j * esz, none⟩ u).run C.P w = .ok () w' := by
      unfold storeVar
      rw [Sem.run_bind, ht.sz]
      simp [Result.andThen, hus, hc, h3]
    simp [execOp, rd1 hr (x := x) (by simp [Op.operands]) h, rd1 hr (x := z) (by simp [Op.operands]) h2, Instr.storeAt, Instr.sureAddr, Sem.run_bind, Result.andThen, hrow]⟩

/-! ### a slice of a slice -/
def subFrom (v : Value) (esz lo : Nat) : Value := match v with | .slice a n c => .slice (if c = lo then a else a.map (·.add (lo * esz))) (n - lo) (c - lo) | v => v
def subTo (v : Value) (hi : Nat) : Value := match v with | .slice a _ c => .slice a hi c | v => v
theorem o_sliceFrom {k : IntKind} {q : Int} {lo : Nat} [ht : TSl C.P T E esz] (h : ev C s x = some v) (hv : RowV v n) (h2 : ev C s z = some (.int k q)) (hq : q = ((lo : Nat) : Int)) (hle : lo ≤ n) : OpV C s ⟨d, .slice T x (some z) none none, ty, pos, aft, gd⟩ [] (subFrom v esz lo) := opv _ _ (by simp) fun ρ w hr => by
  have hx := rd1 hr (x := x) (by simp [Op.operands]) h
  have hz := rd1 hr (x := z) (by simp [Op.operands]) h2
  subst hq
  obtain ⟨b, c, rfl⟩ := hv.sl
  have h3 : (lo : Int) ≤ n := by omega
  simp [execOp, hx, hz, Instr.sliceAt, Instr.slice, Instr.sliceBounds, Instr.sliceBound, asIntOf, Sem.run_bind, run_underlying ht.h, hle, ht.sz, Result.andThen, subFrom]
theorem run_sliceTo {P : Program} {w : World} [ht : TSl P T E esz] {k : IntKind} {hi c : Nat} {b : Option Addr} (n : Nat) (hle : hi ≤ c) : (Instr.sliceAt T (.slice b n c) none (some (.int k hi)) none).run P w = .ok (.slice b hi c) w := by
  have h3 : (hi : Int) ≤ c := by omega
  have e : (if c = 0 then b else Option.map (fun x => x.add 0) b) = b := by
    split
    · rfl
    · cases b <;> simp [Addr.add]
  simp [Instr.sliceAt, Instr.slice, Instr.sliceBounds, Instr.sliceBound, asIntOf, Sem.run_bind, run_underlying ht.h, hle, ht.sz, Result.andThen, e]
/-- a row is cut: its first elements -/
theorem l_cutTo (key keep : _) {k : IntKind} {q : Int} (hi : Nat) [ht : TSl C.P T E esz] (hw : wantS C (mk l m g gb dd) ops ⟨some i, .slice T x none (some z) none, ty, pos, aft, gd⟩ = some true) (h : ev C (mk l m g gb dd) x = some v) (hk : lk m key = some (.own v E esz n xs)) (h2 : ev C (mk l m g gb dd) z = some (.int k q))
    (hs : sel keep m = some m') (hkeep : keep.contains key = false) (hq : q = ((hi : Nat) : Int)) (hle : hi ≤ n) (next : ∀ v', RowV v' hi → VL C ops rest K (mk ((i, v') :: l) ((i, .own v' E esz hi (xs.take (hi * esz))) :: m') g gb dd)) : VL C ops (⟨some i, .slice T x none (some z) none, ty, pos, aft, gd⟩ :: rest) K (mk l m g gb dd) :=
  vl_step hw fun a w hr => by
    have hx : a.eval x = v := ev_ok hr h
    have hz : a.eval z = .int k hi := by subst hq; exact ev_ok hr h2
    have hok : (Hp.own v E esz n xs).ok w := (hr.mo key _ hk).1
    have hone := oneCell_take hok.2 (hi * esz)
    have main : ∃ v', (Instr.sliceAt T v none (some (.int k hi)) none).run C.P w = .ok v' w ∧ (Hp.own v' E esz hi (xs.take (hi * esz))).ok w ∧ v'.ownBlock = v.ownBlock := by
      rcases hok.1.2 with ⟨rfl, rfl⟩ | ⟨g', cap, cur, rfl, h0, hg, hnc, hcm, hcs, htake⟩
      · have : hi = 0 := by omega
        subst this
        exact ⟨_, run_sliceTo 0 (Nat.le_refl 0), ⟨⟨by simp, .inl ⟨rfl, rfl⟩⟩, hone⟩, rfl⟩
      · refine ⟨_, run_sliceTo n (by omega), ⟨⟨?_, .inr ⟨g', cap, cur, rfl, h0, hg, by omega, hcm, hcs, ?_⟩⟩, hone⟩, rfl⟩
        · rw [List.length_take, hok.1.1, Nat.min_eq_left (Nat.mul_le_mul_right _ hle)]
        · rw [← htake, List.take_take, Nat.min_eq_left (Nat.mul_le_mul_right _ hle)]
    obtain ⟨v', h3, h4, h5⟩ := main
    refine wpIn_value (y := v') (w' := w) (by simp) ?_ ⟨mk ((i, v') :: l) ((i, .own v' E esz hi (xs.take (hi * esz))) :: m') g gb dd, ?_, next v' (rowV_own h4)⟩
    · simp [execOp, hx, hz, h3, Sem.run_bind, Result.andThen]
    · rw [← mk_put]
      exact rep_put (rep_ownL hr hk (h1 := .own v' E esz hi (xs.take (hi * esz))) (Chg.refl _ w) h4 (fun b hb => .inl (h5.symm.trans hb)) i keep hs hkeep) (some i) v'
/-- the tail of a row is cleared -/
theorem l_clear (key : Nat) {ts lo by_ : Nat} {zv : Value} {zs : List Value} [ht : TSl C.P ts E esz] [he : TElem C.P E zv esz by_] (hw : wantS C (mk l m g gb dd) ops ⟨none, .call { callee := .builtin .clear, args := #[x], argTypes := #[ts] }, ty, pos, aft, gd⟩ = some true)
    (h : ev C (mk l m g gb dd) x = some (subFrom v esz lo)) (hk : lk m key = some (.own v E esz n xs)) (hzs : zv.cells.toList = zs) (h1 : zs.all (·.oneCell') = true) (hle : lo ≤ n)
    (next : VL C ops rest K (mk l ((key, .own v E esz n (xs.take (lo * esz) ++ zerosOf zs (n - lo))) :: m) g gb dd)) : VL C ops (⟨none, .call { callee := .builtin .clear, args := #[x], argTypes := #[ts] }, ty, pos, aft, gd⟩ :: rest) K (mk l m g gb dd) :=
  vl_step hw fun a w hr => by
    have hx : a.eval x = subFrom v esz lo := ev_ok hr h
    have hok : (Hp.own v E esz n xs).ok w := (hr.mo key _ hk).1
    subst hzs
    obtain ⟨ie, hi, hz, hs2, hb⟩ := he.h
    have hzv : ∀ w : World, (zeroValue E).run C.P w = .ok zv w := fun w => by simp [zeroValue, typeInfo, hi, hz]
    have hzlen : (zerosOf zv.cells.toList (n - lo)).length = (n - lo) * esz := by rw [zerosOf_len]; simp [he.hz]
    have hxl := hok.1.1
    have main : ∃ w', (Builtin.clear_ #[ts] ty #[subFrom v esz lo]).run C.P w = .ok (.tuple #[]) w' ∧ (Hp.own v E esz n (xs.take (lo * esz) ++ zerosOf zv.cells.toList (n - lo))).ok w' ∧ Chg (fun b => v.ownBlock = some b) w w' := by
      by_cases hlo : lo = n
      · subst hlo
        have e0 : ∃ a c, subFrom v esz lo = .slice a 0 c := by
          rcases hok.1.2 with ⟨rfl, rfl⟩ | ⟨g', cap, cur, rfl, _⟩
          · exact ⟨_, _, rfl⟩
          · exact ⟨_, _, by simp [subFrom]; exact ⟨rfl, rfl⟩⟩
        obtain ⟨a', c', e0⟩ := e0
        refine ⟨w, ?_, ?_, Chg.refl _ w⟩
        · rw [e0]; cases a' <;> simp [Builtin.clear_, run_underlying ht.h, Sem.run_bind, Result.andThen]
        · rw [Nat.sub_self]
          simp only [zerosOf, List.append_nil]
          rw [List.take_of_length_le (by omega)]; exact hok
      · have hlt : lo < n := by omega
        have hpos : 0 < (n - lo) * esz := Nat.mul_pos (by omega) he.pos
        obtain ⟨w', h3, h4, h5⟩ := own_store (P := C.P) hok (lo * esz) (zerosOf zv.cells.toList (n - lo)) (by rw [hzlen, hxl, ← Nat.add_mul]; exact Nat.mul_le_mul_right _ (by omega)) (fun u hu => by
          have key : ∀ k, ∀ u ∈ zerosOf zv.cells.toList k, u ∈ zv.cells.toList := fun k => by
            induction k with
            | zero => intro u hu; cases hu
            | succ k ih => intro u hu; rcases List.mem_append.1 hu with h | h
                           · exact h
                           · exact ih u h
          exact List.all_eq_true.1 h1 u (key _ u hu)) (by intro e; rw [e] at hzlen; simp at hzlen; omega)
        refine ⟨w', ?_, ?_, h5⟩
        · rcases hok.1.2 with ⟨rfl, rfl⟩ | ⟨g', cap, cur, rfl, h0, hg, hnc, hcm, hcs, htake⟩
          · omega
          · have hne : ¬ cap = lo := by omega
            have hn : n - lo ≠ 0 := by omega
            have hzz := zeros_ok zv.cells (n - lo) (by rw [he.hz]; exact he.pos)
            obtain ⟨q, hq⟩ : ∃ q, n - lo = q + 1 := ⟨n - lo - 1, by omega⟩
            simp only [blkOf, offOf, Nat.zero_add] at h3
            rw [hq] at hzz h3
            have hzl := congrArg Array.toList hzz
            simp only [Array.toList_map, Array.toList_range] at hzl
            simp [subFrom, hne, addAt, Builtin.clear_, hq, run_underlying ht.h, Sem.run_bind, Result.andThen, hzv, Builtin.zeroCells, hzl, h3]
        · have e : lo * esz + (zerosOf zv.cells.toList (n - lo)).length = xs.length := by rw [hzlen, hxl, ← Nat.add_mul]; congr 1; omega
          rw [e, List.drop_length, List.append_nil] at h4
          exact h4
    obtain ⟨w', h3, h4, h5⟩ := main
    refine wpIn_value (y := .tuple #[]) (w' := w') (by simp) ?_ ⟨mk l ((key, .own v E esz n (xs.take (lo * esz) ++ zerosOf zv.cells.toList (n - lo))) :: m) g gb dd, ?_, next⟩
    · simp [execOp, resolve, hx, invoke, builtin, Sem.run_bind, Result.andThen, h3]
    · have := rep_store hr (k := key) (h' := .own v E esz n (xs.take (lo * esz) ++ zerosOf zv.cells.toList (n - lo))) hk rfl h4 h5
      rwa [mk_mem] at this
end Go.Proofs.Ytpgjbalnipinoaa

/- A range over a function, from both sides. Conditions: none. -/
namespace Go.Proofs.Ytpgjbalnipinoaa
open Go.Proofs Go.RowKit

variable {C : Cx} {K : Exit → St → Prop} {ops : Array Oper} {rest : List Oper} {l l' : List (Nat × Value)} {m m' : List (Nat × Hp)} {g : World → Prop} {gb : Nat → Prop} {dd : List Nat}
  {i : Nat} {d : Option Nat} {op : Op} {ty : TypeId} {pos : String} {aft : Array Edge} {gd : Option (Nat × Bool)} {s : St} {a : Act} {w w' : World}

/-- AN ITERATOR: it hands on xs, one by one, whatever the rounds do to what is theirs (O), as long as what it reads (G) holds; a round may say 'no more' (Jx) -/
def Iter (P : Program) (gf : Nat) (lb : Array Value) {α : Type} (encs : α → List Value) (xs : List α) (G : World → Prop) : Prop :=
  ∀ (lp : Nat) (J : Nat → (Nat → Prop) → World → Prop) (Jx : World → Prop) (O : Nat → Prop) (W : World),
    (∀ k O W W', J k O W → Chg (fun _ => False) W W' → J k O W') → (∀ W W', Jx W → Chg (fun _ => False) W W' → Jx W') →
    (∀ k O W, J k O W → G W ∧ ∀ b, O b → b < W.heap.size) →
    (∀ k x O W1, xs[k]? = some x → J k O W1 → YieldAt Fence.wide 2 P lp (encs x).toArray W1 fun e W' =>
      (e = .returned (.bool true) ∧ Chg O W1 W' ∧ ∃ O', J (k + 1) O' W' ∧ ∀ b, O' b → O b ∨ W1.heap.size ≤ b) ∨ (e = .returned (.bool false) ∧ Chg O W1 W' ∧ Jx W')) →
    J 0 O W → Calls P gf (#[.func (.yield lp) #[] #[]] ++ lb) W fun e W' => (∃ v, e = .returned v) ∧ ((∃ O', J xs.length O' W') ∨ Jx W')

theorem rep_obj (hr : Rep C s a w) {r : Nat} {o : Obj} (o' : Obj) (h : w.heap[r]? = some o) (ho : o.isCells = false) (hlo : C.w0.heap.size ≤ r) (hgb : ¬ s.gb r) (hd : r ∉ s.d) : Rep C s a (w.putObj r o') := by
  have hc : Chg (fun b => b = r) w (w.putObj r o') := ⟨rfl, rfl, rfl, by simp, fun k _ hn => World.putObj_heap_other hn⟩
  have hne : ∀ k p, s.m k = some p → ∀ b, p.has b → b ≠ r := fun k p hk b hb e => by
    subst e
    obtain ⟨o2, h1, h2⟩ := Hp.isCells (hr.mo k p hk).1 hb
    rw [h] at h1; cases h1; rw [ho] at h2; cases h2
  refine ⟨hr.dfs, fun D hD => (World.putObj_heap_other (fun e => hd (by rw [← e]; exact hD))).trans (hr.dd D hD), hr.dg, hr.dn, hr.sz, hr.tm, fun k p hk => ⟨Hp.keep (hr.mo k p hk).1 fun b hb => World.putObj_heap_other (hne k p hk b hb), (hr.mo k p hk).2⟩, hr.inj,
    hr.st w _ (hc.mono fun k _ e => by subst e; exact hgb) hr.gh, fun b hb => ⟨by simpa using (hr.gd b hb).1, (hr.gd b hb).2⟩, hr.st, hr.fr.trans (hc.mono fun k _ e => .inr (by subst e; exact hlo)), fun hp => ⟨Nat.le_trans (hr.ko hp).size (by simp), fun k o2 hk hco => (World.putObj_heap_other (fun e => ?_)).trans ((hr.ko hp).same k o2 hk hco)⟩⟩
  have := (Array.getElem?_eq_some_iff.1 hk).1
  omega

theorem rep_cx (hr : Rep C (mk l m g gb dd) a w) (n' : Nat) (ro' : Option Nat) (Wa : Nat → Prop) (hW : ∀ k h b, lk m k = some h → h.has b → Wa b) : Rep ⟨C.P, w, C.N, n', ro', Wa, True⟩ (mk l m g gb []) { a with defers := [] } w :=
  ⟨rfl, fun _ h => (by cases h), fun _ h => (by cases h), List.nodup_nil, hr.sz, hr.tm, fun k h hk => ⟨(hr.mo k h hk).1, fun b hb => .inr (hW k h b hk hb)⟩, hr.inj, hr.gh, hr.gd, hr.st, Chg.refl _ _, fun _ => KeepsOthers.refl _⟩
theorem rep_back {n' : Nat} {ro' : Option Nat} {s1 : St} {a1 : Act} {Wa : Nat → Prop} (hr : Rep C (mk l m g gb dd) a w) (hr1 : Rep ⟨C.P, w, C.N, n', ro', Wa, True⟩ s1 a1 w') (hW : ∀ b, Wa b → C.own b) (hg : s1.g = g) (hgb : s1.gb = gb) (m' : List (Nat × Hp)) (hm' : ∀ k h, lk m' k = some h → s1.m k = some h) : Rep C (mk l m' g gb dd) a w' := by
  refine ⟨hr.dfs, fun D hD => (hr1.ko trivial).same D _ (hr.dd D hD) rfl, hr.dg, hr.dn, hr.sz, hr.tm, fun k h hk => ⟨(hr1.mo k h (hm' k h hk)).1, fun b hb => ?_⟩, fun k k' h h' b e e' => hr1.inj k k' h h' b (hm' _ _ e) (hm' _ _ e'), by have := hr1.gh; rwa [hg] at this,
    fun b hb => ?_, hr.st, hr.fr.trans (hr1.fr.mono fun k _ h => ?_), fun hp => (hr.ko hp).trans (hr1.ko trivial)⟩
  · rcases (hr1.mo k h (hm' k h hk)).2 b hb with h | h
    · exact .inl (Nat.le_trans hr.fr.size h)
    · exact hW b h
  · have := hr1.gd b (by rw [hgb]; exact hb)
    exact ⟨this.1, fun k h hk => this.2 k h (hm' k h hk)⟩
  · rcases hW k h with h | h
    · exact .inr h
    · exact .inl h
/-- the loop's record is turned; from here on anew -/
theorem rep_obj2 (hr : Rep C s a w) {r : Nat} {o : Obj} (o' : Obj) (h : w.heap[r]? = some o) (ho : o.isCells = false) (hgb : ¬ s.gb r) (hd : s.d = []) (Wb : Nat → Prop) (hW : ∀ b, C.own b → Wb b) : Rep ⟨C.P, w.putObj r o', C.N, C.n, C.ro, Wb, True⟩ s a (w.putObj r o') := by
  have hc : Chg (fun b => b = r) w (w.putObj r o') := ⟨rfl, rfl, rfl, by simp, fun k _ hn => World.putObj_heap_other hn⟩
  have hne : ∀ k p, s.m k = some p → ∀ b, p.has b → b ≠ r := fun k p hk b hb e => by
    subst e
    obtain ⟨o2, h1, h2⟩ := Hp.isCells (hr.mo k p hk).1 hb
    rw [h] at h1; cases h1; rw [ho] at h2; cases h2
  refine ⟨hr.dfs, fun D hD => ?_, fun D hD => ?_, hr.dn, hr.sz, hr.tm, fun k p hk => ⟨Hp.keep (hr.mo k p hk).1 fun b hb => World.putObj_heap_other (hne k p hk b hb), fun b hb => .inr (hW b ((hr.mo k p hk).2 b hb))⟩, hr.inj,
    hr.st w _ (hc.mono fun k _ e => by subst e; exact hgb) hr.gh, fun b hb => ⟨by simpa using (hr.gd b hb).1, (hr.gd b hb).2⟩, hr.st, Chg.refl _ _, fun _ => KeepsOthers.refl _⟩
  · rw [hd] at hD; cases hD
  · rw [hd] at hD; cases hD

def zipR : List Nat → List Value → List (Nat × Value) → List (Nat × Value)
  | p :: ps, v :: vs, l => zipR ps vs ((p, v) :: l)
  | _, _, l => l
theorem rep_zip : ∀ (ps : List Nat) (vs : List Value) (l : List (Nat × Value)) (t : Array Value) (ds : List Deferred), Rep C (mk l m g gb dd) ⟨t, ds⟩ w → Rep C (mk (zipR ps vs l) m g gb dd) ⟨(ps.zip vs).foldl (fun t p => t.setIfInBounds p.1 p.2) t, ds⟩ w
  | [], _, l, t, ds, h => by simpa [zipR] using h
  | p :: ps, [], l, t, ds, h => by simpa [zipR] using h
  | p :: ps, v :: vs, l, t, ds, h => by
    have h1 := rep_put h (some p) v
    rw [mk_put] at h1
    exact rep_zip ps vs _ _ ds h1

theorem v_range {α τ : Type} {fo : Operand} {ps : Array Tmp} {assign body : Code} {gf : Nat} {lb : Array Value} {encs : α → List Value} {xs : List α} {G : World → Prop} (hro : C.ro = none) (hn3 : C.n = 3)
    (hf : ev C (mk l m g gb dd) fo = some (.func (.func gf) #[] lb)) (hent : ∀ args w, (callFunc gf args).run C.P w = .ok (.enter gf args) w) (hit : Iter C.P gf lb encs xs G) (hG : ∀ W, g W → G W) (hps : ∀ x, (encs x).length = ps.size)
    (Mt : τ → List (Nat × Hp)) (Q : Nat → τ → Prop) (t0 : τ) (h0 : Q 0 t0) (km : List Nat) (hm0 : sel km m = some (Mt t0))
    (round : ∀ k x t lp W1 Wa, xs[k]? = some x → Q k t → V ⟨C.P, W1, C.N, 2, some lp, Wa, True⟩ assign (fun e s1 => e = .normal ∧ s1.g = g ∧ s1.gb = gb ∧ s1.d = [] ∧
      ∀ W2 Wb, V ⟨C.P, W2, C.N, 2, some lp, Wb, True⟩ body (fun e s2 => e = .normal ∧ ∃ t', Q (k + 1) t' ∧ Le s2 (mk [] (Mt t') g gb [])) s1) (mk (zipR ps.toList (encs x) l) (Mt t) g gb []))
    (next : ∀ t D, Q xs.length t → K .normal (mk l (Mt t) g gb (D :: dd))) : V C (.rangeFunc fo ps assign body) K (mk l m g gb dd) := by
  intro a w hr
  have hF : C.F = Fence.wide := by unfold Cx.F; rw [hro]
  refine wpIn_rangeFunc ?_
  intro fn hfn
  rw [C.rnd, hro]
  obtain ⟨rec, hrec⟩ : ∃ rec : LoopState → Option Code → Loop, rec = fun st pe => { state := st, pending := pe, fn, tmps := a.tmps, params := ps, assign, body, defers := w.heap.size } := ⟨_, rfl⟩
  obtain ⟨W1, hW1⟩ : ∃ W1, (w.alloc (.deferred (some []))).alloc (.loop (rec .ready none)) = W1 := ⟨_, rfl⟩
  have hL1 : W1.heap[w.heap.size + 1]? = some (.loop (rec .ready none)) := by
    rw [← hW1]; have := World.alloc_heap_new (w.alloc (.deferred (some []))) (.loop (rec .ready none)); rwa [World.size_alloc] at this
  have hK1 : W1.heap[w.heap.size]? = some (.deferred (some [])) := by
    rw [← hW1]; exact (Below.heap_alloc _ _ _ (by simp)).trans (World.alloc_heap_new w _)
  have hb1 : Below w.heap.size w W1 := by
    rw [← hW1]; exact ((Below.refl _ w).alloc (Nat.le_refl _) _).alloc (by simp) _
  have hsz1 := hr.fr.size
  have hlp : C.w0.heap.size ≤ w.heap.size + 1 := by omega
  have hgbl : ¬ gb (w.heap.size + 1) := fun h => by have := (hr.gd _ h).1; omega
  have hddl : ∀ D ∈ dd, D < w.heap.size := fun D hD => (Array.getElem?_eq_some_iff.1 (hr.dd D hD)).1
  have hdl : w.heap.size + 1 ∉ w.heap.size :: dd := fun h => by
    rcases List.mem_cons.1 h with h | h
    · omega
    · have := hddl _ h; omega
  have hr1 : Rep C (mk l (Mt t0) g gb (w.heap.size :: dd)) { a with defers := mark w.heap.size :: a.defers } W1 := by
    have h1 := rep_le (rep_below hr hb1) (s' := mk l (Mt t0) g gb dd) ⟨fun _ _ h => h, sel_ok km _ hm0, rfl, rfl, rfl⟩
    refine ⟨?_, fun D hD => ?_, fun D hD => ?_, List.nodup_cons.2 ⟨fun h => by have := hddl _ h; omega, hr.dn⟩, h1.sz, h1.tm, h1.mo, h1.inj, h1.gh, h1.gd, h1.st, h1.fr, h1.ko⟩
    · show mark w.heap.size :: a.defers = mark w.heap.size :: List.map mark dd
      rw [hr.dfs]; rfl
    · rcases List.mem_cons.1 hD with h | h
      · subst h; exact hK1
      · exact h1.dd D h
    · rcases List.mem_cons.1 hD with h | h
      · subst h; exact ⟨hsz1, fun h => by have := (hr.gd _ h).1; omega⟩
      · exact h1.dg D h
  refine ⟨w.heap.size + 1, [mark w.heap.size], W1, { target := .fn (.func gf) lb, args := #[.func (.yield (w.heap.size + 1)) #[] #[]] }, W1, gf,
    #[.func (.yield (w.heap.size + 1)) #[] #[]] ++ lb, W1, ?_, ?_, ?_, ?_, fun _ => by omega, ?_⟩
  · rw [← hW1, hrec]; exact run_enterLoop_outer _ _ _ _ _
  · simp only [resolve, ev_ok hr hf]
    simp [go_sem]
  · intro f' _; exact C.all f'
  · simp [invoke, go_sem, hent]
  · have hJ : ∀ (k : Nat) (O : Nat → Prop) (W : World), (∃ t, Q k t ∧ Rep C (mk l (Mt t) g gb (w.heap.size :: dd)) { a with defers := mark w.heap.size :: a.defers } W ∧ W.heap[w.heap.size + 1]? = some (.loop (rec .ready none)) ∧ ∀ b, O b ↔ (b = w.heap.size + 1 ∨ ∃ j h, lk (Mt t) j = some h ∧ h.has b)) → True := fun _ _ _ _ => trivial
    clear hJ
    have main := hit (w.heap.size + 1) (fun k O W => ∃ t, Q k t ∧ Rep C (mk l (Mt t) g gb (w.heap.size :: dd)) { a with defers := mark w.heap.size :: a.defers } W ∧ W.heap[w.heap.size + 1]? = some (.loop (rec .ready none)) ∧ ∀ b, O b ↔ (b = w.heap.size + 1 ∨ ∃ j h, lk (Mt t) j = some h ∧ h.has b))
      (fun _ => False) (fun b => b = w.heap.size + 1 ∨ ∃ j h, lk (Mt t0) j = some h ∧ h.has b) W1
      (fun k O W W' ⟨t, h1, h2, h3, h4⟩ hc => ⟨t, h1, rep_chg h2 (fun _ => False) hc (fun _ h => h.elim) _ (fun _ _ h => .inl ⟨h, fun _ _ h => h⟩) h2.inj, (hc.block _ (Array.getElem?_eq_some_iff.1 h3).1 (fun h => h)).trans h3, h4⟩)
      (fun _ _ h _ => h)
      (fun k O W ⟨t, h1, h2, h3, h4⟩ => ⟨hG W h2.gh, fun b hb => by
        rcases (h4 b).1 hb with h | ⟨j, h, hj, hb⟩
        · subst h; exact (Array.getElem?_eq_some_iff.1 h3).1
        · exact Hp.lt (h2.mo j h hj).1 hb⟩)
      ?_ ⟨t0, h0, hr1, hL1, fun _ => Iff.rfl⟩
    · rw [hF, hn3]
      refine callsIn_wide.2 (main.mono ?_)
      rintro e W2 ⟨⟨v, rfl⟩, ⟨O', t, hQ, hrep, hl, _⟩ | h⟩
      · refine ⟨none, _, by have := run_endLoop (P := C.P) hl (by rw [hrec]; simp); rw [hrec] at this; exact this, ⟨_, rep_obj hrep _ hl rfl hlp hgbl hdl, next t _ hQ⟩⟩
      · exact h.elim
    · -- ONE ROUND
      rintro k x O W hx ⟨t, hQ, hrep, hl, hO⟩
      have hlt := (Array.getElem?_eq_some_iff.1 hl).1
      have hy := run_yield (P := C.P) (args := (encs x).toArray) hl (by rw [hrec]; simpa using hps x)
      rw [hrec] at hy
      refine ⟨fn, _, assign, body, hy, roundIn_of_wpIn (F := Fence.wide) (n := 2) (by trivial) ?_⟩
      clear hy
      have hz := rep_zip (C := ⟨C.P, W, C.N, 2, some (w.heap.size + 1), fun b => ∃ j h, lk (Mt t) j = some h ∧ h.has b, True⟩) ps.toList (encs x) l a.tmps [] (rep_cx hrep 2 (some (w.heap.size + 1)) _ (fun j h b hj hb => ⟨j, h, hj, hb⟩))
      have hOt : ∀ b, (∃ j h, lk (Mt t) j = some h ∧ h.has b) → C.own b := fun b ⟨j, h, hj, hb⟩ => (hrep.mo j h hj).2 b hb
      have hszW := hrep.fr.size
      have htm : (ps.zip (encs x).toArray).foldl (fun t (p : Nat × Value) => t.setIfInBounds p.1 p.2) a.tmps = (ps.toList.zip (encs x)).foldl (fun t p => t.setIfInBounds p.1 p.2) a.tmps := by
        rw [← Array.foldl_toList, Array.toList_zip]
      have h1 := round k x t (w.heap.size + 1) W _ hx hQ _ W hz
      refine wpIn_mono (a := { tmps := (ps.zip (encs x).toArray).foldl (fun t (p : Nat × Value) => t.setIfInBounds p.1 p.2) a.tmps, defers := [] }) (by rw [htm]; exact h1) ?_
      rintro e a1 w1 ⟨s1, hr1', rfl, hsg, hsgb, hsd, hbody⟩
      -- behind the assignment: the record is taken up
      have hl1 : w1.heap[w.heap.size + 1]? = some (.loop (rec .ready none)) := (hr1'.ko trivial).same _ _ hl rfl
      refine ⟨_, run_beginRound hl1 (by rw [hrec]), ?_⟩
      have ho1 := rep_back hrep hr1' hOt hsg hsgb [] (fun _ _ h => by cases h)
      have ho2 := rep_obj ho1 (.loop { rec .ready none with state := .busy }) hl1 rfl hlp hgbl hdl
      have hl2 : (w1.putObj (w.heap.size + 1) (.loop { rec .ready none with state := .busy })).heap[w.heap.size + 1]? = some (.loop { rec .ready none with state := .busy }) := World.putObj_heap_same (Array.getElem?_eq_some_iff.1 hl1).1
      generalize hW2 : w1.putObj (w.heap.size + 1) (.loop { rec .ready none with state := .busy }) = W2 at ho2 hl2 ⊢
      have hr2 : Rep ⟨C.P, W2, C.N, 2, some (w.heap.size + 1), fun b => W.heap.size ≤ b ∨ ∃ j h, lk (Mt t) j = some h ∧ h.has b, True⟩ s1 a1 W2 := by
        have h2 := rep_obj2 hr1' (.loop { rec .ready none with state := .busy }) hl1 rfl (by rw [hsgb]; exact hgbl) hsd (fun b => W.heap.size ≤ b ∨ ∃ j h, lk (Mt t) j = some h ∧ h.has b) (fun b hb => hb)
        rw [hW2] at h2
        exact h2
      have hcw2 : Chg (fun b => b = w.heap.size + 1) w1 W2 := by
        rw [← hW2]; exact ⟨rfl, rfl, rfl, by simp, fun k _ hn => World.putObj_heap_other hn⟩
      have hWb : ∀ b, (W.heap.size ≤ b ∨ ∃ j h, lk (Mt t) j = some h ∧ h.has b) → C.own b := fun b hb => by
        rcases hb with h | h
        · exact .inl (Nat.le_trans hszW h)
        · exact hOt b h
      refine wpIn_mono (hbody W2 _ a1 W2 hr2) ?_
      rintro e a3 w3 ⟨s3, hr3, rfl, t', hQ', hle⟩
      have hl3 : w3.heap[w.heap.size + 1]? = some (.loop { rec .ready none with state := .busy }) := (hr3.ko trivial).same _ _ hl2 rfl
      have ho3 := rep_back ho2 hr3 hWb hle.g.symm hle.gb.symm (Mt t') hle.m
      have ho4 := rep_obj ho3 (.loop (rec .ready none)) hl3 rfl hlp hgbl hdl
      have hend := run_endRound (P := C.P) none hl3
      rw [hrec] at hend
      refine ⟨_, _, hend, .inl ⟨rfl, ?_, _, ⟨t', hQ', by rw [hrec] at ho4; exact ho4, by rw [hrec]; exact World.putObj_heap_same (Array.getElem?_eq_some_iff.1 hl3).1, fun _ => Iff.rfl⟩, fun b hb => ?_⟩⟩
      · refine Chg.trans (b := w1) (hr1'.fr.mono fun k _ h => (hO k).2 (.inr h)) (Chg.trans (b := W2) (hcw2.mono fun k _ h => .inl ((hO k).2 (.inl h))) (Chg.trans (b := w3) (hr3.fr.mono fun k _ h => ?_) ?_))
        · rcases h with h | h
          · exact .inl (.inr h)
          · exact .inl (.inl ((hO k).2 (.inr h)))
        · refine Chg.mono (S := fun b => b = w.heap.size + 1) ⟨rfl, rfl, rfl, by simp, fun k _ hn => World.putObj_heap_other hn⟩ fun k _ h => .inl (.inl (.inl ((hO k).2 (.inl h))))
      · rcases hb with h | ⟨j, h, hj, hb⟩
        · exact .inl ((hO b).2 (.inl h))
        · rcases (hr3.mo j h (hle.m j h hj)).2 b hb with h' | h' | h'
          · right
            have h1s : W.heap.size ≤ w1.heap.size := hr1'.fr.size
            have h2s : w1.heap.size ≤ W2.heap.size := hcw2.size
            have h3s : W2.heap.size ≤ b := h'
            omega
          · exact .inr h'
          · exact .inl ((hO b).2 (.inr h'))

/-! ### a loop, by lists -/
def leL {α : Type} (l : List (Nat × α)) : List (Nat × α) → Prop
  | [] => True
  | (i, v) :: r => lk l i = some v ∧ leL l r
theorem leL_ok {α : Type} {l : List (Nat × α)} : ∀ (l' : List (Nat × α)), leL l l' → ∀ i v, lk l' i = some v → lk l i = some v
  | [], _, i, v, h => by cases h
  | (j, u) :: r, ⟨h1, h2⟩, i, v, h => by
    simp only [lk] at h
    split at h
    · rename_i hb
      have := Nat.eq_of_beq_eq_true hb
      subst this; cases h; exact h1
    · exact leL_ok r h2 i v h
theorem lk_app {α : Type} : ∀ (l1 l2 : List (Nat × α)) (i : Nat) (v : α), lk (l1 ++ l2) i = some v → lk l1 i = some v ∨ lk l2 i = some v
  | [], l2, i, v, h => .inr h
  | (j, u) :: r, l2, i, v, h => by
    simp only [List.cons_append, lk] at h ⊢
    split at h
    · exact .inl h
    · exact lk_app r l2 i v h
theorem le_app {lc lv : List (Nat × Value)} {mc mv : List (Nat × Hp)} (h1 : leL l lv) (kl : List Nat) (h2 : sel kl l = some lc) (h3 : leL m mv) (km : List Nat) (h4 : sel km m = some mc) : Le (mk l m g gb dd) (mk (lv ++ lc) (mv ++ mc) g gb dd) :=
  ⟨fun i v h => (lk_app lv lc i v h).elim (leL_ok lv h1 i v) (sel_ok kl lc h2 i v), fun i v h => (lk_app mv mc i v h).elim (leL_ok mv h3 i v) (sel_ok km mc h4 i v), rfl, rfl, rfl⟩
theorem v_loopL {α : Type} {c : Code} (lv : α → List (Nat × Value)) (mv : α → List (Nat × Hp)) (gv : α → World → Prop) (gbv : α → Nat → Prop) {lc : List (Nat × Value)} {mc : List (Nat × Hp)} (Q : α → Prop) (μ : α → Nat) (x0 : α) (kl km : List Nat) (h0 : Q x0)
    (hg : g = gv x0) (hgb : gb = gbv x0) (h1 : leL l (lv x0)) (h2 : sel kl l = some lc) (h3 : leL m (mv x0)) (h4 : sel km m = some mc)
    (round : ∀ x, Q x → V C c (thenK (fun s' => ∃ x', Q x' ∧ μ x' < μ x ∧ Le s' (mk (lv x' ++ lc) (mv x' ++ mc) (gv x') (gbv x') dd)) K) (mk (lv x ++ lc) (mv x ++ mc) (gv x) (gbv x) dd)) : V C (.loop c) K (mk l m g gb dd) :=
  v_loopT (fun x => mk (lv x ++ lc) (mv x ++ mc) (gv x) (gbv x) dd) Q μ x0 h0 (by subst hg hgb; exact le_app h1 kl h2 h3 km h4) round
/-- the same, where what is said of other memory stays -/
theorem v_loopS {α : Type} {c : Code} (lv : α → List (Nat × Value)) (mv : α → List (Nat × Hp)) {lc : List (Nat × Value)} {mc : List (Nat × Hp)} (Q : α → Prop) (μ : α → Nat) (x0 : α) (kl km : List Nat) (h0 : Q x0)
    (h1 : leL l (lv x0)) (h2 : sel kl l = some lc) (h3 : leL m (mv x0)) (h4 : sel km m = some mc)
    (round : ∀ x, Q x → V C c (thenK (fun s' => ∃ x', Q x' ∧ μ x' < μ x ∧ Le s' (mk (lv x' ++ lc) (mv x' ++ mc) g gb dd)) K) (mk (lv x ++ lc) (mv x ++ mc) g gb dd)) : V C (.loop c) K (mk l m g gb dd) :=
  v_loopL lv mv (fun _ => g) (fun _ => gb) Q μ x0 kl km h0 rfl rfl h1 h2 h3 h4 round

/-! ### the iterator's side -/
/-- a call of yield: what the iterator has made lies idle; what it reads anew it is told of the world behind the round -/
theorem l_yield {k : Nat} {cal : Operand} {as_ : Array Operand} {ts : Array TypeId} {vs : List Value} {lp : Nat} {A B : World → Prop} (hro : C.ro = none) (hn3 : C.n = 3) (hCW : ∀ b, C.W b) (hkp : ¬ C.kp)
    (hw : wantS C (mk l m g gb []) ops ⟨some i, .call { callee := .value cal, args := as_, argTypes := ts }, ty, pos, aft, gd⟩ = some true) (hcal : ev C (mk l m g gb []) cal = some (.func (.yield lp) #[] #[])) (hargs : evs C (mk l m g gb []) as_.toList = some vs)
    (hy : ∀ w, g w → ∃ O : Nat → Prop, YieldAt Fence.wide 2 C.P lp vs.toArray w fun e w' => (e = .returned (.bool true) ∧ Chg O w w' ∧ A w') ∨ (e = .returned (.bool false) ∧ Chg O w w' ∧ B w'))
    (yes : ∀ W1, A W1 → VL C ops rest K (mk ((i, .bool true) :: l) [] (fun w => Chg (fun _ => False) W1 w) (fun b => b < W1.heap.size) []))
    (no : ∀ W1, B W1 → VL C ops rest K (mk ((i, .bool false) :: l) [] (fun w => Chg (fun _ => False) W1 w) (fun b => b < W1.heap.size) [])) :
    VL C ops (⟨some i, .call { callee := .value cal, args := as_, argTypes := ts }, ty, pos, aft, gd⟩ :: rest) K (mk l m g gb []) :=
  vl_step hw fun a w hr => by
    obtain ⟨O, fn, tmps, assign, body, hrun, hR⟩ := hy w hr.gh
    have hF : C.F = Fence.wide := by unfold Cx.F; rw [hro]
    have hc := ev_ok hr hcal
    have ha : as_.map a.eval = vs.toArray := by
      apply Array.ext'
      simpa using args_of (d := some i) (ty := ty) (pos := pos) (aft := aft) (gd := gd) (cal := cal) (ts := ts) (reads_of hr) hargs
    have hex : (execOp a.eval ⟨some i, .call { callee := .value cal, args := as_, argTypes := ts }, ty, pos, aft, gd⟩).run C.P w = .ok (.round lp fn tmps assign body) w := by
      simp [execOp, resolve, hc, Deferred.ofValue, invoke, Sem.run_bind, Result.andThen, ha, hrun]
    refine ⟨fun f _ => C.all f, ?_⟩
    rw [Oper.semAt_eq _ _ _ (by simp), hex, hF, hn3]
    refine ⟨by simp [Fence.wide], hR.mono ?_⟩
    have fin : ∀ (b : Bool) (W1 : World), Chg O w W1 → Rep C (mk ((i, .bool b) :: l) [] (fun w => Chg (fun _ => False) W1 w) (fun b => b < W1.heap.size) []) (a.put (some i) (.bool b)) W1 := fun b W1 hch => by
      rw [← mk_put]
      refine rep_put (s := mk l [] _ _ []) ?_ (some i) _
      exact ⟨hr.dfs, fun _ h => (by cases h), fun _ h => (by cases h), List.nodup_nil, hr.sz, hr.tm, fun k h hk => (by cases hk), fun k k' h h' b hk => (by cases hk), Chg.refl _ _, fun b hb => ⟨hb, fun k h hk => (by cases hk)⟩,
        fun w1 w2 hc2 h1 => h1.trans (hc2.mono fun k _ hn => (Decidable.em (k < W1.heap.size)).elim (fun h => absurd h hn) (fun h => .inr (by omega))),
        hr.fr.trans (hch.mono fun k _ _ => .inl (hCW k)), fun hp => absurd hp hkp⟩
    rintro e w' (⟨rfl, h1, h2⟩ | ⟨rfl, h1, h2⟩)
    · exact ⟨_, fin true w' h1, yes w' h2⟩
    · exact ⟨_, fin false w' h1, no w' h2⟩

/-- INTO an iterator and out of it -/
theorem enterI {P : Program} {f N : Nat} {fn : Func} {c : Code} {args : List Value} {W : World} {A : World → Prop} (hf : P.funcs[f]? = some fn) (hb : fn.body = some c) (hn : fn.ntmps = N) (hrs : fn.results = #[]) (hsz : Nat.ble args.length N = true)
    (hA : ∀ w w', A w → Chg (fun _ => False) w w' → A w')
    (h : V ⟨P, W, N, 3, none, fun _ => True, False⟩ c (retK ⟨P, W, N, 3, none, fun _ => True, False⟩ [] (fun _ s => s.d = [] ∧ ∀ w, s.g w → A w)) (mk (argsL 0 args) [] (fun w => Chg (fun _ => False) W w) (fun b => b < W.heap.size) [])) :
    Calls P f args.toArray W fun e w' => (∃ v, e = .returned v) ∧ A w' := by
  refine callsIn_wide (n := 3).1 (callsIn_of_wp_marks hf hb trivial ?_)
  have hle : args.length ≤ N := Nat.le_of_ble_eq_true hsz
  have hrep : Rep ⟨P, W, N, 3, none, fun _ => True, False⟩ (mk (argsL 0 args) [] (fun w => Chg (fun _ => False) W w) (fun b => b < W.heap.size) []) { tmps := args.toArray ++ Array.replicate (fn.ntmps - args.toArray.size) undef, defers := [] } W := by
    refine ⟨rfl, fun _ h => (by cases h), fun _ h => (by cases h), List.nodup_nil, by simp [hn]; omega, fun i v hi hv => ?_, fun k h hk => (by cases hk), fun k k' h h' b hk => (by cases hk), Chg.refl _ _, fun b hb => ⟨hb, fun k h hk => (by cases hk)⟩,
      fun w1 w2 hc2 h1 => h1.trans (hc2.mono fun k _ hn => (Decidable.em (k < W.heap.size)).elim (fun h => absurd h hn) (fun h => .inr (by omega))), Chg.refl _ _, fun hp => hp.elim⟩
    have := (argsL_ok args 0 i v hv).2
    have hlt := (List.getElem?_eq_some_iff.1 this).1
    rw [Array.getD_eq_getD_getElem?, Array.getElem?_append_left (by simpa using hlt)]
    simp at this
    simp [this]
  refine wpIn_mono (h _ _ hrep) ?_
  rintro e a' w' ⟨s', hr', hk⟩
  have fin : (∃ vs, ResAll ⟨P, W, N, 3, none, fun _ => True, False⟩ s' [] vs ∧ s'.d = [] ∧ ∀ w, s'.g w → A w) → LeavesInM Fence.wide 3 P fn a'.tmps (fun e w' => (∃ v, e = .returned v) ∧ A w') a'.defers .returning w' := by
    rintro ⟨vs, h1, h2, h3⟩
    cases h1
    rw [hr'.dfs, h2]
    refine ⟨.tuple #[], ?_, ⟨_, rfl⟩, h3 _ hr'.gh⟩
    rw [show results fn a'.tmps = (do let vs ← fn.results.mapM (rdRes a'.tmps); pure (if h : vs.size = 1 then vs[0] else .tuple vs)) from rfl, hrs]
    simp
  cases e with
  | ret => exact fin hk
  | normal => exact fin hk
  | _ => exact hk.elim
end Go.Proofs.Ytpgjbalnipinoaa

/- Structs of numbers compared, and a slice with nil. Conditions: none. -/
namespace Go.Proofs.Ytpgjbalnipinoaa
open Go.Proofs Go.RowKit

variable {C : Cx} {s : St} {d : Option Nat} {x y z : Operand} {T S T' : TypeId} {ty : TypeId} {pos : String} {aft : Array Edge} {gd : Option (Nat × Bool)} {k : IntKind} {v u : Value}

inductive FldsOk (P : Program) : List Field → Nat → Nat → Prop
  | nil {i : Nat} : FldsOk P [] i 0
  | cons {f : Field} {fs : List Field} {i n : Nat} {k : IntKind} (h1 : f.name ≠ "_") (h2 : P.underlying f.type = some (.int k)) (h3 : f.offset = i) (h : FldsOk P fs (i + 1) n) : FldsOk P (f :: fs) i (n + 1)
def fldsOk (P : Program) : List Field → Nat → Nat → Bool
  | [], _, 0 => true
  | f :: fs, i, n + 1 => (f.name != "_") && (match P.underlying f.type with | some (.int _) => true | _ => false) && (f.offset == i) && fldsOk P fs (i + 1) n
  | _, _, _ => false
theorem fldsOk_ok {P : Program} : ∀ (fs : List Field) (i n : Nat), fldsOk P fs i n = true → FldsOk P fs i n
  | [], i, 0, _ => .nil
  | [], i, n + 1, h => by simp [fldsOk] at h
  | f :: fs, i, 0, h => by simp [fldsOk] at h
  | f :: fs, i, n + 1, h => by
    simp only [fldsOk, Bool.and_eq_true] at h
    obtain ⟨⟨⟨h1, h2⟩, h3⟩, h4⟩ := h
    split at h2
    · rename_i k hk
      exact .cons (by simpa using h1) hk (by simpa using h3) (fldsOk_ok fs (i + 1) n h4)
    · cases h2
class TEqs (P : Program) (T : Nat) (n : outParam Nat) : Prop where
  hm : P.eqGuardType P.depth T = false
  hu : P.underlying T = some (.struct (P.fieldsOf T))
  hp : P.stoodInHeld T = false
  hf : fldsOk P (P.fieldsOf T).toList 0 n = true

def ints : List Value → Option (List (IntKind × Int))
  | [] => some []
  | .int k a :: r => (match ints r with | some l => some ((k, a) :: l) | none => none)
  | _ => none
theorem ints_get : ∀ (l : List Value) (az : List (IntKind × Int)), ints l = some az → l.length = az.length ∧ ∀ (j : Nat) (p : IntKind × Int), az[j]? = some p → l[j]? = some (Value.int p.1 p.2)
  | [], az, h => by simp [ints] at h; subst h; simp
  | v :: r, az, h => by
    cases v <;> simp only [ints] at h <;> try (cases h; done)
    split at h
    · rename_i k a l hl
      cases h
      have ih := ints_get r l hl
      refine ⟨by simp [ih.1], fun j p hj => ?_⟩
      cases j with
      | zero => simp at hj; subst hj; rfl
      | succ j => simpa using ih.2 j p (by simpa using hj)
    · cases h

theorem eqFields_ok {P : Program} (w : World) (d : Nat) (xs ys : Array Value) : ∀ (fs : List Field) (i n : Nat), FldsOk P fs i n → ∀ (az bz : List (IntKind × Int)), az.length = n → az.map (·.1) = bz.map (·.1) → (∀ (j : Nat) (p : IntKind × Int), az[j]? = some p → xs[i + j]? = some (.int p.1 p.2)) → (∀ (j : Nat) (p : IntKind × Int), bz[j]? = some p → ys[i + j]? = some (.int p.1 p.2)) →
    (Op.eqFields (d + 1) xs ys fs).run P w = .ok (decide (az.map (·.2) = bz.map (·.2))) w := by
  intro fs i n h
  induction h with
  | nil =>
    intro az bz hl hk _ _
    have : az = [] := List.eq_nil_of_length_eq_zero hl
    subst this
    have : bz = [] := by cases bz with | nil => rfl | cons _ _ => simp at hk
    subst this
    simp [Op.eqFields]
  | @cons f fs i n k h1 h2 h3 _ ih =>
    intro az bz hl hk hx hy
    cases az with
    | nil => simp at hl
    | cons a az =>
      cases bz with
      | nil => simp at hk
      | cons b bz =>
        obtain ⟨ka, a⟩ := a
        obtain ⟨kb, b⟩ := b
        simp only [List.map_cons, List.cons.injEq] at hk
        obtain ⟨rfl, hk⟩ := hk
        have hx0 := hx 0 (ka, a) rfl
        have hy0 := hy 0 (ka, b) rfl
        simp only [Nat.add_zero] at hx0 hy0
        have p1 : ∀ (cs : Array Value) (v : Value), cs[i]? = some v → (part f.type cs f.offset).run P w = .ok v w := fun cs v h => by
          simp [part, Sem.run_bind, isAgg, run_underlying h2, Result.andThen, h3, h]
        have ih' := ih az bz (by simpa using hl) hk (fun j p hj => by have := hx (j + 1) p (by simpa using hj); rwa [show i + (j + 1) = i + 1 + j by omega] at this) (fun j p hj => by have := hy (j + 1) p (by simpa using hj); rwa [show i + (j + 1) = i + 1 + j by omega] at this)
        rw [Op.eqFields.eq_2, if_pos h1, Sem.run_bind, p1 _ _ hx0]
        simp only [Result.andThen_ok, Sem.run_bind, p1 _ _ hy0, run_equalIn_int w d f.type ka k a b h2]
        by_cases e : a = b
        · subst e
          simp [ih']
        · have : (a == b) = false := by simpa using e
          simp [this, e]

theorem o_eqs {n : Nat} {xl yl : List Value} {az bz : List (IntKind × Int)} [ht : TEqs C.P T n] (h : ev C s x = some (.agg xl.toArray)) (h2 : ev C s y = some (.agg yl.toArray)) (ha : ints xl = some az) (hb : ints yl = some bz) (hn : az.length = n) (hk : az.map (·.1) = bz.map (·.1)) :
    OpV C s ⟨d, .binOp .eql T x y T', ty, pos, aft, gd⟩ [] (.bool (decide (az.map (·.2) = bz.map (·.2)))) := opv _ _ (by simp) fun ρ w hr => by
  have ea := ints_get xl az ha
  have eb := ints_get yl bz hb
  have hq := eqFields_ok (P := C.P) w 9998 xl.toArray yl.toArray _ 0 n (fldsOk_ok _ _ _ ht.hf) az bz hn hk (fun j p hj => by simpa using ea.2 j p hj) (fun j p hj => by simpa using eb.2 j p hj)
  simp only [execOp, rd1 hr (x := x) (by simp [Op.operands]) h, rd1 hr (x := y) (by simp [Op.operands]) h2, Sem.run_bind, run_eqGuard_agg w .eql T x y _ _ ht.hm, Result.andThen, run_eql_struct, run_equalIn_agg w 9999 T _ _ ht.hu ht.hp, hq, Sem.run_pure]
theorem o_neqs {n : Nat} {xl yl : List Value} {az bz : List (IntKind × Int)} [ht : TEqs C.P T n] (h : ev C s x = some (.agg xl.toArray)) (h2 : ev C s y = some (.agg yl.toArray)) (ha : ints xl = some az) (hb : ints yl = some bz) (hn : az.length = n) (hk : az.map (·.1) = bz.map (·.1)) :
    OpV C s ⟨d, .binOp .neq T x y T', ty, pos, aft, gd⟩ [] (.bool (decide (¬ az.map (·.2) = bz.map (·.2)))) := opv _ _ (by simp) fun ρ w hr => by
  have ea := ints_get xl az ha
  have eb := ints_get yl bz hb
  have hq := eqFields_ok (P := C.P) w 9998 xl.toArray yl.toArray _ 0 n (fldsOk_ok _ _ _ ht.hf) az bz hn hk (fun j p hj => by simpa using ea.2 j p hj) (fun j p hj => by simpa using eb.2 j p hj)
  simp only [execOp, rd1 hr (x := x) (by simp [Op.operands]) h, rd1 hr (x := y) (by simp [Op.operands]) h2, Sem.run_bind, run_eqGuard_agg w .neq T x y _ _ ht.hm, Result.andThen, run_neq_struct, run_equalIn_agg w 9999 T _ _ ht.hu ht.hp, hq, Sem.run_pure, decide_not]
variable {wf : Nat → Value → Prop} {K : Exit → St → Prop} {ops : Array Oper} {L : Pr wf → List (Nat × Value)} {M : Pr wf → List (Nat × Hp)} {os : List Oper} {κs : List (List Nat)} {g : World → Prop} {gb : Nat → Prop} {dd : List Nat} {i : Nat}
theorem d_eqs {n : Nat} {xl yl : List Value} {az bz : List (IntKind × Int)} [ht : TEqs C.P T n] (hw : ∀ σ, wantS C (mk (L σ) (M σ) g gb dd) ops ⟨some i, .binOp .eql T x y T', ty, pos, aft, gd⟩ = some true) (h : ∀ σ, ev C (mk (L σ) (M σ) g gb dd) x = some (.agg xl.toArray)) (h2 : ∀ σ, ev C (mk (L σ) (M σ) g gb dd) y = some (.agg yl.toArray)) (ha : ints xl = some az) (hb : ints yl = some bz) (hn : az.length = n) (hk : az.map (·.1) = bz.map (·.1))
    (yes : az.map (·.2) = bz.map (·.2) → VDZ C ops os κs K (fun σ => mk ((i, .bool true) :: L σ) (M σ) g gb dd)) (no : ¬ az.map (·.2) = bz.map (·.2) → VDZ C ops os κs K (fun σ => mk ((i, .bool false) :: L σ) (M σ) g gb dd)) : VDZ C ops (⟨some i, .binOp .eql T x y T', ty, pos, aft, gd⟩ :: os) ([] :: κs) K (fun σ => mk (L σ) (M σ) g gb dd) :=
  d_split hw rfl rfl (fun σ => o_eqs (h σ) (h2 σ) ha hb hn hk) yes no
theorem d_neqs {n : Nat} {xl yl : List Value} {az bz : List (IntKind × Int)} [ht : TEqs C.P T n] (hw : ∀ σ, wantS C (mk (L σ) (M σ) g gb dd) ops ⟨some i, .binOp .neq T x y T', ty, pos, aft, gd⟩ = some true) (h : ∀ σ, ev C (mk (L σ) (M σ) g gb dd) x = some (.agg xl.toArray)) (h2 : ∀ σ, ev C (mk (L σ) (M σ) g gb dd) y = some (.agg yl.toArray)) (ha : ints xl = some az) (hb : ints yl = some bz) (hn : az.length = n) (hk : az.map (·.1) = bz.map (·.1))
    (yes : ¬ az.map (·.2) = bz.map (·.2) → VDZ C ops os κs K (fun σ => mk ((i, .bool true) :: L σ) (M σ) g gb dd)) (no : ¬ ¬ az.map (·.2) = bz.map (·.2) → VDZ C ops os κs K (fun σ => mk ((i, .bool false) :: L σ) (M σ) g gb dd)) : VDZ C ops (⟨some i, .binOp .neq T x y T', ty, pos, aft, gd⟩ :: os) ([] :: κs) K (fun σ => mk (L σ) (M σ) g gb dd) :=
  d_split hw rfl rfl (fun σ => o_neqs (h σ) (h2 σ) ha hb hn hk) yes no
theorem o_eqnil {E esz : Nat} {b : Option Addr} {n c : Nat} [ht : TSl C.P T E esz] (h : ev C s x = some (.slice b n c)) : OpV C s ⟨d, .binOp .eql T x (.const (.slice none 0 0)) T', ty, pos, aft, gd⟩ [] (.bool b.isNone) := opv _ _ (by simp) fun ρ w hr => by
  have h1 := rd1 hr (x := x) (by simp [Op.operands]) h
  have h2 := rd1 hr (x := .const (.slice none 0 0)) (by simp [Op.operands]) rfl
  have hu := ht.h
  simp only [execOp, h1, h2, Sem.run_bind]
  have : (eqGuard .eql T x (.const (.slice none 0 0)) (.slice b n c) (.slice none 0 0)).run C.P w = .ok () w := by simp [eqGuard]
  simp only [this, Result.andThen_ok]
  have h3 : (binOp .eql T (.slice b n c) (.slice none 0 0)).run C.P w = .ok (.bool b.isNone) w := Go.Lib.run_eql_slice_nil w T E b n c 0 0 hu
  simp [h3]
variable {f : Nat} {cal : Operand} {as_ : Array Operand} {ts : Array TypeId} {vs : List Value} {r : Value} {rest : List Oper} {l : List (Nat × Value)} {m : List (Nat × Hp)}
/-- a function value that is called -/
theorem l_ansv (hw : wantS C (mk l m g gb dd) ops ⟨some i, .call { callee := .value cal, args := as_, argTypes := ts }, ty, pos, aft, gd⟩ = some true) (hcal : ev C (mk l m g gb dd) cal = some (.func (.func f) #[] #[])) (hargs : evs C (mk l m g gb dd) as_.toList = some vs) (hc : Ans C.P f vs r)
    (next : VL C ops rest K (mk ((i, r) :: l) m g gb dd)) : VL C ops (⟨some i, .call { callee := .value cal, args := as_, argTypes := ts }, ty, pos, aft, gd⟩ :: rest) K (mk l m g gb dd) := by
  rcases hc with ⟨h1, h2⟩ | h
  · exact l_call (ks := []) hw (o_callF hcal h1 hargs fun w _ _ => by simpa using h2 w) next
  · refine l_val (ks := []) hw (opv _ _ (by simp) fun ρ w hr => ?_) next
    rw [run_callTo (rd1 hr callee_mem hcal) (args_of hr hargs)]
    simpa using h w
theorem lz_cases {b : Bool} (yes : b = true → VL C ops rest K (mk ((i, .bool true) :: l) m g gb dd)) (no : b = false → VL C ops rest K (mk ((i, .bool false) :: l) m g gb dd)) : VL C ops rest K (mk ((i, .bool b) :: l) m g gb dd) := by
  cases b
  · exact no rfl
  · exact yes rfl

/-! ### contracts at one world -/
section
variable {P : Program} {f N : Nat} {fn : Func} {c : Code} {rs : List ResultVar} {args : List Value} {w : World} {r : Value}
theorem calls_of (hf : P.funcs[f]? = some fn) (hb : fn.body = some c) (hn : fn.ntmps = N) (hrs : fn.results = rs.toArray) (hsz : Nat.ble args.length N = true)
    (h : V ⟨P, w, N, 3, none, fun _ => False, True⟩ c (retK ⟨P, w, N, 3, none, fun _ => False, True⟩ rs (fun v _ => v = r)) (mk (argsL 0 args) [] (fun w' => Chg (fun _ => False) w w') (fun b => b < w.heap.size ∧ ¬ False) [])) :
    Calls P f args.toArray w fun e w' => e = .returned r ∧ Below w.heap.size w w' := by
  refine (enter (fun _ => False) [] (fun v _ => v = r) hf hb hn hrs hsz (fun k h hk => (by cases hk)) (fun k k' h h' b hk => (by cases hk)) h).mono ?_
  rintro e w' ⟨v, s', rfl, rfl, ho⟩
  exact ⟨rfl, ho.fr.below⟩
theorem calls_own {E esz n : Nat} {xs : List Value} (hf : P.funcs[f]? = some fn) (hb : fn.body = some c) (hn : fn.ntmps = N) (hrs : fn.results = rs.toArray) (hsz : Nat.ble args.length N = true)
    (h : V ⟨P, w, N, 3, none, fun _ => False, True⟩ c (retK ⟨P, w, N, 3, none, fun _ => False, True⟩ rs (fun v s => ∃ key, s.m key = some (.own v E esz n xs))) (mk (argsL 0 args) [] (fun w' => Chg (fun _ => False) w w') (fun b => b < w.heap.size ∧ ¬ False) [])) :
    Calls P f args.toArray w fun e w' => ∃ y, e = .returned y ∧ Below w.heap.size w w' ∧ OwnAt w.heap.size w' y E esz n xs := by
  refine (enter (fun _ => False) [] (fun v s => ∃ key, s.m key = some (.own v E esz n xs)) hf hb hn hrs hsz (fun k h hk => (by cases hk)) (fun k k' h h' b hk => (by cases hk)) h).mono ?_
  rintro e w' ⟨v, s', rfl, ⟨key, hk⟩, ho⟩
  exact ⟨v, rfl, ho.fr.below, (ho.mo key _ hk).1, fun b hb => ((ho.mo key _ hk).2 b hb).elim id False.elim⟩
/-- a function that turns a row that it is handed -/
theorem calls_mut {E esz n : Nat} {xs : List Value} (v0 : Value) {E0 e0 n0 : Nat} {xs0 : List Value} (hf : P.funcs[f]? = some fn) (hb : fn.body = some c) (hn : fn.ntmps = N) (hrs : fn.results = rs.toArray) (hsz : Nat.ble args.length N = true) (hok : (Hp.own v0 E0 e0 n0 xs0).ok w)
    (h : V ⟨P, w, N, 3, none, fun b => v0.ownBlock = some b, True⟩ c (retK ⟨P, w, N, 3, none, fun b => v0.ownBlock = some b, True⟩ rs (fun v s => ∃ key, s.m key = some (.own v E esz n xs))) (mk (argsL 0 args) [(1000, .own v0 E0 e0 n0 xs0)] (fun w' => Chg (fun b => v0.ownBlock = some b) w w') (fun b => b < w.heap.size ∧ ¬ v0.ownBlock = some b) [])) :
    Calls P f args.toArray w fun e w' => ∃ y, e = .returned y ∧ Chg (fun b => v0.ownBlock = some b) w w' ∧ (Hp.own y E esz n xs).ok w' ∧ ∀ b, y.ownBlock = some b → v0.ownBlock = some b ∨ w.heap.size ≤ b := by
  refine (enter (fun b => v0.ownBlock = some b) [(1000, .own v0 E0 e0 n0 xs0)] (fun v s => ∃ key, s.m key = some (.own v E esz n xs)) hf hb hn hrs hsz (fun k h hk => ?_) (fun k k' h h' b hk hk' _ _ => ?_) h).mono ?_
  · simp only [lk] at hk
    split at hk
    · cases hk; exact ⟨hok, fun b hb => hb⟩
    · cases hk
  · simp only [lk] at hk hk'
    split at hk
    · rename_i hb1
      split at hk'
      · rename_i hb2
        exact (Nat.eq_of_beq_eq_true hb1).trans (Nat.eq_of_beq_eq_true hb2).symm
      · cases hk'
    · cases hk
  · rintro e w' ⟨v, s', rfl, ⟨key, hk⟩, ho⟩
    exact ⟨v, rfl, ho.fr, (ho.mo key _ hk).1, fun b hb => ((ho.mo key _ hk).2 b hb).symm⟩
end

/-- a predicate, as a function value -/
structure PredF {α : Type} (P : Program) (f : Nat) (caps : Array Value) (enc : α → List Value) (p : α → Bool) (G : World → Prop) : Prop where
  ent : ∀ args w, (callFunc f args).run P w = .ok (.enter f args) w
  ans : ∀ w x, G w → Calls P f (#[.agg (enc x).toArray] ++ caps) w fun e w' => e = .returned (.bool (p x)) ∧ Below w.heap.size w w'

/-! ### rows of elements -/
variable {α : Type} {enc : α → List Value} {esz : Nat}
theorem flat_take (henc : ∀ x, (enc x).length = esz) : ∀ (l : List α) (i : Nat), (l.flatMap enc).take (i * esz) = (l.take i).flatMap enc
  | [], i => by simp
  | x :: r, 0 => by simp
  | x :: r, i + 1 => by
    rw [List.flatMap_cons, List.take_append, henc, Nat.add_mul, Nat.one_mul, List.take_of_length_le (l := enc x) (by rw [henc]; omega), show i * esz + esz - esz = i * esz by omega, flat_take henc r i]
    simp
theorem flat_drop (henc : ∀ x, (enc x).length = esz) : ∀ (l : List α) (i : Nat), (l.flatMap enc).drop (i * esz) = (l.drop i).flatMap enc
  | [], i => by simp
  | x :: r, 0 => by simp
  | x :: r, i + 1 => by
    rw [List.flatMap_cons, List.drop_append, henc, Nat.add_mul, Nat.one_mul, show (enc x).drop (i * esz + esz) = [] from List.drop_eq_nil_of_le (by rw [henc]; omega), show i * esz + esz - esz = i * esz by omega, flat_drop henc r i]
    simp
theorem flat_set (henc : ∀ x, (enc x).length = esz) (l : List α) (i : Nat) (x : α) (hi : i < l.length) : (l.flatMap enc).take (i * esz) ++ enc x ++ (l.flatMap enc).drop (i * esz + esz) = (l.set i x).flatMap enc := by
  rw [flat_take henc, show i * esz + esz = (i + 1) * esz by rw [Nat.add_mul, Nat.one_mul], flat_drop henc, List.set_eq_take_append_cons_drop, if_pos hi]
  simp
theorem flat_snoc (l : List α) (x : α) : l.flatMap enc ++ enc x = (l ++ [x]).flatMap enc := by simp
end Go.Proofs.Ytpgjbalnipinoaa

/- Calls that turn a row while others are read. Conditions: none. -/
namespace Go.Proofs.Ytpgjbalnipinoaa
open Go.Proofs Go.RowKit
variable {C : Cx} {K : Exit → St → Prop} {ops : Array Oper} {rest : List Oper} {l l' : List (Nat × Value)} {m m' : List (Nat × Hp)} {g : World → Prop} {gb : Nat → Prop} {dd : List Nat}
  {i : Nat} {d : Option Nat} {op : Op} {ty : TypeId} {pos : String} {aft : Array Edge} {gd : Option (Nat × Bool)} {ks : List Nat} {y : Value} {T T' E : TypeId} {s : St} {x z : Operand} {v u : Value} {n esz j : Nat} {xs : List Value}
  {a : Act} {w w' : World} {f : Nat} {cal : Operand} {as_ : Array Operand} {ts : Array TypeId} {vs : List Value}
/-- as l_gmut; the call's row has a block of its own -/
theorem l_gmutD (key : Nat) (keep : List Nat) {n0 : Nat} {xs0 : List Value} {E0 e0 : Nat} (hw : wantS C (mk l m g gb dd) ops ⟨some i, .call { callee := .value cal, args := as_, argTypes := ts }, ty, pos, aft, gd⟩ = some true) {caps : Array Value} (hcal : ev C (mk l m g gb dd) cal = some (.func (.func f) #[] caps)) (hent : ∀ args w, (callFunc f args).run C.P w = .ok (.enter f args) w) (hargs : evs C (mk l m g gb dd) as_.toList = some vs)
    (hk : lk m key = some (.own v E0 e0 n0 xs0)) (hs : sel keep m = some m') (hkeep : keep.contains key = false)
    (hc : ∀ w, g w → Held (mk l m g gb dd) ks w → (Hp.own v E0 e0 n0 xs0).ok w → (∀ k h b, lk m k = some h → k ≠ key → h.has b → ¬ v.ownBlock = some b) → Calls C.P f (vs.toArray ++ caps) w fun e w' => ∃ y, e = .returned y ∧ Chg (fun b => v.ownBlock = some b) w w' ∧ (Hp.own y E esz n xs).ok w' ∧ ∀ b, y.ownBlock = some b → v.ownBlock = some b ∨ w.heap.size ≤ b)
    (next : ∀ y, RowV y n → VL C ops rest K (mk ((i, y) :: l) ((i, .own y E esz n xs) :: m') g gb dd)) : VL C ops (⟨some i, .call { callee := .value cal, args := as_, argTypes := ts }, ty, pos, aft, gd⟩ :: rest) K (mk l m g gb dd) :=
  vl_step hw fun a w hr => call_step (R := fun y w' => Chg (fun b => v.ownBlock = some b) w w' ∧ (Hp.own y E esz n xs).ok w' ∧ ∀ b, y.ownBlock = some b → v.ownBlock = some b ∨ w.heap.size ≤ b) hr hcal hent hargs ((hc w hr.gh (held_of hr ks) (hr.mo key _ hk).1 (fun k h b h1 h2 h3 h4 => h2 (hr.inj k key h _ b h1 hk h3 h4))).mono fun e w' ⟨y, h1, h2, h3, h4⟩ => ⟨y, h1, h2, h3, h4⟩) fun y w' ⟨h1, h2, h3⟩ =>
    ⟨mk ((i, y) :: l) ((i, .own y E esz n xs) :: m') g gb dd, by rw [← mk_put]; exact rep_put (rep_ownL hr hk h1 h2 h3 i keep hs hkeep) (some i) y, next y (rowV_own h2)⟩
/-- a row by another name -/
theorem v_ren (key key' : Nat) (keep : List Nat) {c : Code} (hk : lk m key = some (.own v E esz n xs)) (hs : sel keep m = some m') (hkeep : keep.contains key = false) (next : V C c K (mk l ((key', .own v E esz n xs) :: m') g gb dd)) : V C c K (mk l m g gb dd) :=
  fun a w hr => next a w (rep_ownL hr hk (Chg.refl _ w) (hr.mo key _ hk).1 (fun b hb => .inl hb) key' keep hs hkeep)
theorem o_moveE {k : IntKind} {q q' : Int} (h : ev C s x = some (.int k q)) (e : q = q') : OpV C s ⟨d, .move x, ty, pos, aft, gd⟩ [] (.int k q') := by subst e; exact o_move h
theorem own_congr {n' : Nat} {xs' : List Value} (h1 : n = n') (h2 : xs = xs') : Hp.own v E esz n xs = Hp.own v E esz n' xs' := by subst h1 h2; rfl
/-- a call that turns a row of ours, to one of which Q is known -/
theorem l_gmutX {α : Type} (key : Nat) (Q : α → Prop) (X : α → List Value) {xs0 : List Value} (hw : wantS C (mk l m g gb dd) ops ⟨some i, .call { callee := .value cal, args := as_, argTypes := ts }, ty, pos, aft, gd⟩ = some true) {caps : Array Value} (hcal : ev C (mk l m g gb dd) cal = some (.func (.func f) #[] caps)) (hent : ∀ args w, (callFunc f args).run C.P w = .ok (.enter f args) w) (hargs : evs C (mk l m g gb dd) as_.toList = some vs)
    (hk : lk m key = some (.own v E esz n xs0))
    (hc : ∀ w, g w → Held (mk l m g gb dd) ks w → (Hp.own v E esz n xs0).ok w → Calls C.P f (vs.toArray ++ caps) w fun e w' => (∃ y, e = .returned y) ∧ ∃ x, Q x ∧ Chg (fun b => v.ownBlock = some b) w w' ∧ (Hp.own v E esz n (X x)).ok w')
    (next : ∀ x y, Q x → VL C ops rest K (mk ((i, y) :: l) ((key, .own v E esz n (X x)) :: m) g gb dd)) : VL C ops (⟨some i, .call { callee := .value cal, args := as_, argTypes := ts }, ty, pos, aft, gd⟩ :: rest) K (mk l m g gb dd) :=
  vl_step hw fun a w hr => call_step (R := fun y w' => ∃ x, Q x ∧ Chg (fun b => v.ownBlock = some b) w w' ∧ (Hp.own v E esz n (X x)).ok w') hr hcal hent hargs ((hc w hr.gh (held_of hr ks) (hr.mo key _ hk).1).mono fun e w' ⟨⟨y, h1⟩, h2⟩ => ⟨y, h1, h2⟩) fun y w' ⟨x, hq, h1, h2⟩ =>
    ⟨mk ((i, y) :: l) ((key, .own v E esz n (X x)) :: m) g gb dd, by
      have := rep_store hr (k := key) (h' := .own v E esz n (X x)) hk rfl h2 h1
      rw [mk_mem] at this
      rw [← mk_put]
      exact rep_put this (some i) y, next x y hq⟩
/-- a call that makes a row of which Q is known, and turns nothing -/
theorem l_gownX {α : Type} (Q : α → Prop) (X : α → List Value) (nX : α → Nat) (hw : wantS C (mk l m g gb dd) ops ⟨some i, .call { callee := .value cal, args := as_, argTypes := ts }, ty, pos, aft, gd⟩ = some true) {caps : Array Value} (hcal : ev C (mk l m g gb dd) cal = some (.func (.func f) #[] caps)) (hent : ∀ args w, (callFunc f args).run C.P w = .ok (.enter f args) w) (hargs : evs C (mk l m g gb dd) as_.toList = some vs)
    (hc : ∀ w, g w → Held (mk l m g gb dd) ks w → Calls C.P f (vs.toArray ++ caps) w fun e w' => ∃ y x, e = .returned y ∧ Q x ∧ Below w.heap.size w w' ∧ OwnAt w.heap.size w' y E esz (nX x) (X x))
    (next : ∀ x y, Q x → RowV y (nX x) → VL C ops rest K (mk ((i, y) :: l) ((i, .own y E esz (nX x) (X x)) :: m) g gb dd)) : VL C ops (⟨some i, .call { callee := .value cal, args := as_, argTypes := ts }, ty, pos, aft, gd⟩ :: rest) K (mk l m g gb dd) :=
  vl_step hw fun a w hr => call_step (R := fun y w' => ∃ x, Q x ∧ Below w.heap.size w w' ∧ OwnAt w.heap.size w' y E esz (nX x) (X x)) hr hcal hent hargs ((hc w hr.gh (held_of hr ks)).mono fun e w' ⟨y, x, h1, h2⟩ => ⟨y, h1, x, h2⟩) fun y w' ⟨x, hq, h1, h2⟩ =>
    ⟨mk ((i, y) :: l) ((i, .own y E esz (nX x) (X x)) :: m) g gb dd, by rw [← mk_put]; exact rep_put (rep_newOwn hr h1 h2.1 (fun b hb => h2.2 b hb) i) (some i) y, next x y hq h2.rowV⟩
theorem calls_ownX {P : Program} {f N : Nat} {fn : Func} {c : Code} {rs : List ResultVar} {args : List Value} {w : World} {α : Type} (Q : α → Prop) (X : α → List Value) (nX : α → Nat) (hf : P.funcs[f]? = some fn) (hb : fn.body = some c) (hn : fn.ntmps = N) (hrs : fn.results = rs.toArray) (hsz : Nat.ble args.length N = true)
    (h : V ⟨P, w, N, 3, none, fun _ => False, True⟩ c (retK ⟨P, w, N, 3, none, fun _ => False, True⟩ rs (fun v s => ∃ x, Q x ∧ ∃ key, s.m key = some (.own v E esz (nX x) (X x)))) (mk (argsL 0 args) [] (fun w' => Chg (fun _ => False) w w') (fun b => b < w.heap.size ∧ ¬ False) [])) :
    Calls P f args.toArray w fun e w' => ∃ y x, e = .returned y ∧ Q x ∧ Below w.heap.size w w' ∧ OwnAt w.heap.size w' y E esz (nX x) (X x) := by
  refine (enter (fun _ => False) [] (fun v s => ∃ x, Q x ∧ ∃ key, s.m key = some (.own v E esz (nX x) (X x))) hf hb hn hrs hsz (fun k h hk => (by cases hk)) (fun k k' h h' b hk => (by cases hk)) h).mono ?_
  rintro e w' ⟨v, s', rfl, ⟨x, hq, key, hk⟩, ho⟩
  exact ⟨v, x, rfl, hq, ho.fr.below, (ho.mo key _ hk).1, fun b hb => ((ho.mo key _ hk).2 b hb).elim id False.elim⟩
/-- a function that turns a row that it is handed, and hands nothing back -/
theorem calls_mutX {P : Program} {f N : Nat} {fn : Func} {c : Code} {args : List Value} {w : World} {α : Type} (v0 : Value) (Q : α → Prop) (X : α → List Value) {E0 e0 n0 : Nat} {xs0 : List Value} (hf : P.funcs[f]? = some fn) (hb : fn.body = some c) (hn : fn.ntmps = N) (hrs : fn.results = #[]) (hsz : Nat.ble args.length N = true) (hok : (Hp.own v0 E0 e0 n0 xs0).ok w)
    (h : V ⟨P, w, N, 3, none, fun b => v0.ownBlock = some b, True⟩ c (retK ⟨P, w, N, 3, none, fun b => v0.ownBlock = some b, True⟩ [] (fun _ s => ∃ x, Q x ∧ s.m 1000 = some (.own v0 E0 e0 n0 (X x)))) (mk (argsL 0 args) [(1000, .own v0 E0 e0 n0 xs0)] (fun w' => Chg (fun b => v0.ownBlock = some b) w w') (fun b => b < w.heap.size ∧ ¬ v0.ownBlock = some b) [])) :
    Calls P f args.toArray w fun e w' => (∃ y, e = .returned y) ∧ ∃ x, Q x ∧ Chg (fun b => v0.ownBlock = some b) w w' ∧ (Hp.own v0 E0 e0 n0 (X x)).ok w' := by
  refine (enter (fun b => v0.ownBlock = some b) [(1000, .own v0 E0 e0 n0 xs0)] (fun _ s => ∃ x, Q x ∧ s.m 1000 = some (.own v0 E0 e0 n0 (X x))) hf hb hn (by rw [hrs]) hsz (fun k h hk => ?_) (fun k k' h h' b hk hk' _ _ => ?_) h).mono ?_
  · simp only [lk] at hk
    split at hk
    · cases hk; exact ⟨hok, fun b hb => hb⟩
    · cases hk
  · simp only [lk] at hk hk'
    split at hk
    · rename_i hb1
      split at hk'
      · rename_i hb2
        exact (Nat.eq_of_beq_eq_true hb1).trans (Nat.eq_of_beq_eq_true hb2).symm
      · cases hk'
    · cases hk
  · rintro e w' ⟨v, s', rfl, ⟨x, hq, hk⟩, ho⟩
    exact ⟨⟨v, rfl⟩, x, hq, ho.fr, (ho.mo 1000 _ hk).1⟩
/-- a function value that is called, in a region that draws its order -/
theorem d_ansv {wf : Nat → Value → Prop} {L : Pr wf → List (Nat × Value)} {M : Pr wf → List (Nat × Hp)} {os : List Oper} {κs : List (List Nat)} {r : Value} (hw : ∀ σ, wantS C (mk (L σ) (M σ) g gb dd) ops ⟨some i, .call { callee := .value cal, args := as_, argTypes := ts }, ty, pos, aft, gd⟩ = some true) (hcal : ∀ σ, ev C (mk (L σ) (M σ) g gb dd) cal = some (.func (.func f) #[] #[])) (hargs : ∀ σ, evs C (mk (L σ) (M σ) g gb dd) as_.toList = some vs) (hc : Ans C.P f vs r)
    (next : VDZ C ops os κs K (fun σ => mk ((i, r) :: L σ) (M σ) g gb dd)) : VDZ C ops (⟨some i, .call { callee := .value cal, args := as_, argTypes := ts }, ty, pos, aft, gd⟩ :: os) ([] :: κs) K (fun σ => mk (L σ) (M σ) g gb dd) := by
  rcases hc with ⟨h1, h2⟩ | h
  · exact d_call hw (fun σ => o_callF (hcal σ) h1 (hargs σ) fun w _ _ => by simpa using h2 w) next
  · refine d_valC (Y := fun _ => r) hw (fun σ => opv _ _ (by simp) fun ρ w hr => ?_) next
    rw [run_callTo (rd1 hr callee_mem (hcal σ)) (args_of hr (hargs σ))]
    simpa using h w
theorem yieldAt_mono {F : Fence} {n : Nat} {P : Program} {lp : Nat} {vs : Array Value} {w : World} {R R' : Ending → World → Prop} (h : YieldAt F n P lp vs w R) (hm : ∀ e w', R e w' → R' e w') : YieldAt F n P lp vs w R' := by
  obtain ⟨fn, tmps, assign, body, h1, h2⟩ := h
  exact ⟨fn, tmps, assign, body, h1, h2.mono fun e w' => hm e w'⟩
/-- a function that makes a box, and hands something on that points to it -/
theorem calls_box {P : Program} {f N : Nat} {fn : Func} {c : Code} {rs : List ResultVar} {args : List Value} {w : World} {X : Nat → Value} {T : TypeId} {cs : List Value} (hf : P.funcs[f]? = some fn) (hb : fn.body = some c) (hn : fn.ntmps = N) (hrs : fn.results = rs.toArray) (hsz : Nat.ble args.length N = true)
    (h : V ⟨P, w, N, 3, none, fun _ => False, True⟩ c (retK ⟨P, w, N, 3, none, fun _ => False, True⟩ rs (fun v s => ∃ key b, v = X b ∧ s.m key = some (.box b T cs))) (mk (argsL 0 args) [] (fun w' => Chg (fun _ => False) w w') (fun b => b < w.heap.size ∧ ¬ False) [])) :
    Calls P f args.toArray w fun e w' => ∃ b, e = .returned (X b) ∧ Below w.heap.size w w' ∧ Blk w' b cs.toArray T ∧ w.heap.size ≤ b := by
  refine (enter (fun _ => False) [] (fun v s => ∃ key b, v = X b ∧ s.m key = some (.box b T cs)) hf hb hn hrs hsz (fun k h hk => (by cases hk)) (fun k k' h h' b hk => (by cases hk)) h).mono ?_
  rintro e w' ⟨v, s', rfl, ⟨key, b, rfl, hk⟩, ho⟩
  exact ⟨b, rfl, ho.fr.below, (ho.mo key _ hk).1, ((ho.mo key _ hk).2 b rfl).elim id False.elim⟩
theorem rowV_cells (h : RowV v n) : v.cells.toList = [v] := by obtain ⟨a, c, rfl⟩ := h.sl; rfl
theorem rowV_one (h : RowV v n) : v.oneCell' = true := by obtain ⟨a, c, rfl⟩ := h.sl; rfl
theorem el_one {xs : List Value} {j : Nat} (h : j < xs.length) : El xs 1 j [xs.getD j undef] := ⟨rfl, fun f hf => by
  obtain rfl : f = 0 := by omega
  rw [Nat.mul_one, Nat.add_zero, List.getD_eq_getElem?_getD, List.getElem?_eq_getElem h]; rfl⟩
end Go.Proofs.Ytpgjbalnipinoaa

/- From what a function answers to what a statement asks. Conditions: none. -/
namespace Go.Proofs.Ytpgjbalnipinoaa
open Go.Proofs Go.RowKit Go.ChangeShapes Go.WideShapes Go.ChangeAt
theorem ans_calls {P : Program} {f : Nat} {vs : List Value} {r : Value} (h : Ans P f vs r) (hent : ∀ args w, (callFunc f args).run P w = .ok (.enter f args) w) (w : World) : Calls P f vs.toArray w fun e w' => e = .returned r ∧ Below w.heap.size w w' := by
  rcases h with h | h
  · exact h.2 w
  · have h1 := h w
    rw [hent] at h1
    cases h1
/-- the statement's end, where old memory stands as it stood -/
theorem post_below {H : Type} {enc : TypeId × Value → H} {P : Program} {f : Func} {s : ChangeSpec} {apart fresh handsOn again : Bool} {W W' : World} {args : Array Value} {v : Value} {ds gs : List (DataW H)} {before pa pv : List MemPlace}
    (hW : DataW.Whole enc P f.params.toList s.vars apart W args.toList ds gs before) (hbel : Below W.heap.size W W')
    (hres : ∀ (b : Nat) (sp : Nat → Bool) (hd : Bool), DataW.TrodAll enc P W' b sp hd f.resultTypes.toList (v.resultList f.resultTypes.size) (s.fn H (ds ++ gs)).results [])
    (hargs : ∀ sp : Nat → Bool, (∀ p ∈ before, sp p.block = true) → DataW.TrodAll enc P W' 0 sp true f.params.toList args.toList (s.fn H (ds ++ gs)).args pa)
    (hvars : ∀ sp : Nat → Bool, (∀ p ∈ before, sp p.block = true) → DataW.TrodVars enc P W' sp s.vars (s.fn H (ds ++ gs)).vars pv)
    (hps : before = pa ++ pv)
    (hok : ∀ (j : Nat) (t : TypeId) (r : Value), f.resultTypes[j]? = some t → (v.resultList f.resultTypes.size)[j]? = some r → Value.okWide P W' .any 0 t r) :
    s.post enc P f apart fresh handsOn again W args v W' := by
  have hlt := hW.lt
  have hin : ∀ p ∈ before, (fun b => decide (b < W.heap.size)) p.block = true := fun p hp => by simpa using hlt p hp
  obtain ⟨_, _, _, _, _, hz, hn⟩ := id hW
  refine ⟨ds, gs, before, [], pa, pv, hW, hres _ _ _, hargs _ hin, hvars _ hin, World.keptBut_mono (fun p hp => ⟨hp, ?_⟩) (hbel.frame (· ∈ before)), fun _ => ⟨hok, _, _, ([] ++ pa) ++ pv, ⟨[] ++ pa, pv, trodAll_append (hargs _ (fun _ _ => rfl)) (hres _ _ _), hvars _ (fun _ _ => rfl), rfl, fun b off hp => ?_, fun ha => ?_⟩, fun p hp _ => ?_⟩⟩
  · rw [hps] at hp; exact .inr (List.mem_append.1 hp)
  · have hm : MemPlace.cell b off ∈ before := by rw [hps]; simpa using hp
    rw [hbel.frozen (hlt _ hm)]
    exact hz b off hm
  · have := hn ha; rw [hps] at this; simpa using this
  · rw [hps]; simpa using hp
theorem wf_i32 {a : Int} (h : (Lit.int .i32 a).wf = true) : -2147483648 ≤ a ∧ a < 2147483648 := by
  simp only [Lit.wf, Bool.and_eq_true, decide_eq_true_eq] at h
  have e1 : IntKind.i32.min = -2147483648 := by decide
  have e2 : IntKind.i32.max = 2147483647 := by decide
  omega
theorem wf_i16 {a : Int} (h : (Lit.int .i16 a).wf = true) : -32768 ≤ a ∧ a < 32768 := by
  simp only [Lit.wf, Bool.and_eq_true, decide_eq_true_eq] at h
  have e1 : IntKind.i16.min = -32768 := by decide
  have e2 : IntKind.i16.max = 32767 := by decide
  omega
theorem wf_u16 {a : Int} (h : (Lit.int .u16 a).wf = true) : 0 ≤ a ∧ a < 65536 := by
  simp only [Lit.wf, Bool.and_eq_true, decide_eq_true_eq] at h
  have e1 : IntKind.u16.min = 0 := by decide
  have e2 : IntKind.u16.max = 65535 := by decide
  omega
theorem wf_u32 {a : Int} (h : (Lit.int .u32 a).wf = true) : 0 ≤ a ∧ a < 4294967296 := by
  simp only [Lit.wf, Bool.and_eq_true, decide_eq_true_eq] at h
  have e1 : IntKind.u32.min = 0 := by decide
  have e2 : IntKind.u32.max = 4294967295 := by decide
  omega
theorem wf_i64 {a : Int} (h : (Lit.int .i64 a).wf = true) : -9223372036854775808 ≤ a ∧ a < 9223372036854775808 := by
  simp only [Lit.wf, Bool.and_eq_true, decide_eq_true_eq] at h
  have e1 : IntKind.i64.min = -9223372036854775808 := by decide
  have e2 : IntKind.i64.max = 9223372036854775807 := by decide
  omega
end Go.Proofs.Ytpgjbalnipinoaa

/- What comes in, opened: integers, structs of integers, rows of these; and shut again. Conditions: none. -/
namespace Go.Proofs.Ytpgjbalnipinoaa
open Go.Proofs Go.RowKit Go.ChangeShapes Go.WideShapes Go.ChangeAt Go.Deep
section
variable {H : Type} {enc : TypeId × Value → H} {P : Program} {w w' : World} {base : Nat} {spare : Nat → Bool} {held : Bool}
/-- what came in reads as it did -/
theorem trodAll_keep (hl : laidOutB P = true) (hb : Below w.heap.size w w') (sp : Nat → Bool) : ∀ (ts : List TypeId) (vs : List Value) (ds : List (DataW H)) (ps : List MemPlace), ts.all (fun t => P.readableRec t && decide (t < P.types.size)) = true → DataW.TrodAll enc P w 0 (fun _ => true) true ts vs ds ps →
    (∀ x ∈ ps, x.block < w.heap.size) → (∀ x ∈ ps, sp x.block = true) → DataW.TrodAll enc P w' 0 sp true ts vs ds ps
  | [], vs, ds, ps, _, h, _, _ => by
    obtain ⟨rfl, rfl, rfl⟩ := trodAll_nil h
    exact trodAll_mk0
  | t :: ts, vs, ds, ps, hr, h, hlt, hsp => by
    obtain ⟨v, vs', d, ds', p, q, rfl, rfl, rfl, h1, h2⟩ := trodAll_cons h
    simp only [List.all_cons, Bool.and_eq_true, decide_eq_true_eq] at hr
    exact ⟨p, q, WideElems.Trod_stays hl hr.1.1 hr.1.2 h1 (fun x hx => hb.same (hlt x (List.mem_append_left _ hx))) (fun x hx => hsp x (List.mem_append_left _ hx)),
      trodAll_keep hl hb sp ts vs' ds' q hr.2 h2 (fun x hx => hlt x (List.mem_append_right _ hx)) (fun x hx => hsp x (List.mem_append_right _ hx)), rfl⟩

/-- an integer of 64 bits -/
def IsInt (v : Value) : Prop := ∃ a, v = .int .i64 a ∧ (Lit.int .i64 a).wf = true
theorem open_ints {e T : TypeId} {fs : Array Field} {fuel : Nat} {cs : List Value} {x : DataW H × List MemPlace} (he : P.underlying e = some (.struct fs)) (hone : oneCellFields P fs = true) (hC : P.cellsOf e = fs.size) (hty : fs.all (fun f => f.type == T) = true)
    (hT : P.underlying T = some (.int .i64)) (h : DataW.trod enc P w base spare held fuel e cs = some x) : cs.length = fs.size ∧ ∀ u ∈ cs, IsInt u := by
  obtain ⟨ys, n, _, _, hlen, hyl, hf⟩ := DataW.trod_struct he h
  refine ⟨hlen.trans hC, fun u hu => ?_⟩
  obtain ⟨j, hj, rfl⟩ := List.getElem_of_mem hu
  have hjl : j < fs.size := by omega
  have hfj : fs[j]? = some fs[j] := Array.getElem?_eq_getElem hjl
  obtain ⟨ho, hk⟩ := hone_of hone j _ hfj
  have h1 := hf j _ hfj
  have ht : fs[j].type = T := by simpa using Array.all_eq_true.1 hty j hjl
  rw [ho, hk, ht, List.drop_eq_getElem_cons hj] at h1
  have hys : ys[j]? = some (ys[j]'(by omega)) := List.getElem?_eq_getElem (by omega)
  rw [hys] at h1
  obtain ⟨a, h2, _, h3⟩ := DataW.trod_int hT h1
  simp only [List.take_succ_cons, List.take_zero, List.cons.injEq, and_true] at h2
  exact ⟨a, h2, h3⟩
theorem ints2_of (cs : List Value) (hl : cs.length = 2) (h : ∀ u ∈ cs, IsInt u) : ∃ x y : Int, cs = [.int .i64 x, .int .i64 y] ∧ (Lit.int .i64 x).wf = true ∧ (Lit.int .i64 y).wf = true := by
  match cs, hl with
  | [u, v], _ =>
    obtain ⟨x, rfl, hx⟩ := h u (by simp)
    obtain ⟨y, rfl, hy⟩ := h v (by simp)
    exact ⟨x, y, rfl, hx, hy⟩
theorem ints4_of (cs : List Value) (hl : cs.length = 4) (h : ∀ u ∈ cs, IsInt u) : ∃ x y z t : Int, cs = [.int .i64 x, .int .i64 y, .int .i64 z, .int .i64 t] ∧ (Lit.int .i64 x).wf = true ∧ (Lit.int .i64 y).wf = true ∧ (Lit.int .i64 z).wf = true ∧ (Lit.int .i64 t).wf = true := by
  match cs, hl with
  | [u, v, u', v'], _ =>
    obtain ⟨x, rfl, hx⟩ := h u (by simp)
    obtain ⟨y, rfl, hy⟩ := h v (by simp)
    obtain ⟨z, rfl, hz⟩ := h u' (by simp)
    obtain ⟨t, rfl, ht⟩ := h v' (by simp)
    exact ⟨x, y, z, t, rfl, hx, hy, hz, ht⟩
/-- a struct of integers, by value -/
theorem open_aggI {r : Reach} {b0 : Nat} {t T : TypeId} {fs : Array Field} {v : Value} {d : DataW H} {p : List MemPlace} (hs : P.underlying t = some (.struct fs)) (hone : oneCellFields P fs = true) (hC : P.cellsOf t = fs.size) (hty : fs.all (fun f => f.type == T) = true)
    (hT : P.underlying T = some (.int .i64)) (hv : Value.okWide P w r b0 t v) (h : DataW.Trod enc P w base spare held t v d p) : ∃ cs : List Value, v = .agg cs.toArray ∧ cs.length = fs.size ∧ ∀ u ∈ cs, IsInt u := by
  obtain ⟨cs, rfl, _⟩ := okWide_struct hs hv
  obtain ⟨fuel, hf⟩ := h
  have := open_ints hs hone hC hty hT hf
  exact ⟨cs.toList, rfl, this⟩
/-- a row of structs of integers -/
theorem open_rowI {r : Reach} {b0 : Nat} {t e T : TypeId} {fs : Array Field} {v : Value} {d : DataW H} {p : List MemPlace} (ht : P.underlying t = some (.slice e)) (he : P.underlying e = some (.struct fs)) (hone : oneCellFields P fs = true) (hC : P.cellsOf e = fs.size) (hpos : 0 < fs.size) (hty : fs.all (fun f => f.type == T) = true)
    (hT : P.underlying T = some (.int .i64)) (hv : Value.okWide P w r b0 t v) (h : DataW.Trod enc P w base spare held t v d p) : ∃ (n : Nat) (xs : List Value), RowV v n ∧ n ≤ maxLen ∧ RowAt w v fs.size n xs ∧ ∀ u ∈ xs, IsInt u := by
  obtain ⟨a0, n0, c0, rfl⟩ := okWide_slice ht hv
  obtain ⟨fuel, hf⟩ := h
  rcases open_slice ht hf with ⟨h0, _⟩ | ⟨a, len, cap, m, n, D, Pl, hcs, hb, hl, hm, hmm, hx, hi⟩
  · simp only [Value.cells, List.cons.injEq, and_true] at h0
    rw [h0]
    exact ⟨0, [], .nil0, Nat.zero_le _, ⟨by simp, fun j u hu => by simp at hu, fun u hu => by simp at hu⟩, fun u hu => by simp at hu⟩
  · simp only [Value.cells, List.cons.injEq, and_true] at hcs
    rw [hcs]
    have hlm : len ≤ m := by rw [hmm]; split <;> omega
    have hel : ∀ i j, i < len → j < fs.size → ∃ u, w.cell? (a.add (i * fs.size + j)) = some u ∧ IsInt u := fun i j hil hj => by
      obtain ⟨cs', hc, htr⟩ := hi i (by omega)
      rw [hC] at hc
      obtain ⟨_, hcl, hat⟩ := World.cells?_some hc
      have := open_ints he hone hC hty hT htr
      have hjc : j < cs'.length := by omega
      refine ⟨cs'[j], ?_, this.2 _ (List.getElem_mem hjc)⟩
      rw [← add_add, hat j hj, List.getElem?_eq_getElem hjc]
    have hdm : ∀ q, q < len * fs.size → q / fs.size < len ∧ q % fs.size < fs.size ∧ q / fs.size * fs.size + q % fs.size = q := fun q hq => ⟨(Nat.div_lt_iff_lt_mul hpos).2 hq, Nat.mod_lt _ hpos, by rw [Nat.mul_comm]; exact Nat.div_add_mod q fs.size⟩
    have hspot : 0 < len → a = ⟨a.block, a.off, none⟩ := fun h => by
      obtain ⟨u, hu, _⟩ := hel 0 0 h hpos
      rw [show 0 * fs.size + 0 = 0 by omega, show a.add 0 = a from rfl] at hu
      obtain ⟨b, o, s⟩ := a
      cases s with
      | none => rfl
      | some s =>
        exfalso
        unfold World.cell? at hu
        split at hu <;> simp_all
    have hcell : ∀ q, q < len * fs.size → ∃ u, w.cell? ⟨a.block, a.off + q, none⟩ = some u ∧ IsInt u := fun q hq => by
      obtain ⟨h1, h2, h3⟩ := hdm q hq
      obtain ⟨u, hu, hI⟩ := hel _ _ h1 h2
      rw [h3, hspot (Nat.lt_of_le_of_lt (Nat.zero_le _) h1), addAt] at hu
      exact ⟨u, hu, hI⟩
    refine ⟨len, (List.range (len * fs.size)).map fun q => (w.cell? ⟨a.block, a.off + q, none⟩).getD undef, ?_, by omega, ⟨by simp, fun j u hu => ?_, fun u hu => ?_⟩, fun u hu => ?_⟩
    · by_cases h : 0 < len
      · rw [hspot h]; exact .inl ⟨_, _, _, rfl⟩
      · obtain rfl : len = 0 := by omega
        exact .inr (.inr ⟨a, cap, rfl, rfl⟩)
    · rw [List.getElem?_map] at hu
      by_cases hj : j < len * fs.size
      · rw [List.getElem?_range hj] at hu
        obtain ⟨u', hu', _⟩ := hcell j hj
        simp only [Option.map_some, hu', Option.getD_some, Option.some.injEq] at hu
        subst hu
        exact hu'
      · rw [List.getElem?_eq_none (by simpa using hj)] at hu; cases hu
    · obtain ⟨q, hq, rfl⟩ := List.mem_map.1 hu
      obtain ⟨u', hu', a', rfl, _⟩ := hcell q (List.mem_range.1 hq)
      rw [hu']; rfl
    · obtain ⟨q, hq, rfl⟩ := List.mem_map.1 hu
      obtain ⟨u', hu', hI⟩ := hcell q (List.mem_range.1 hq)
      rw [hu']; exact hI
end
end Go.Proofs.Ytpgjbalnipinoaa
