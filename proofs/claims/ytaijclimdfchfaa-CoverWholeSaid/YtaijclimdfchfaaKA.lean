import Derived.WalkKit
import Derived.WalkSpells
import Derived.WalkLawsBesides
import Derived.Lib.Hide
import Derived.Handy
import Derived.PlainAid
import Derived.RangeFuncNested
import Derived.RangeFuncCalls
import Derived.RangeFuncBound
import Derived.RangeFuncLeaves
import Derived.OrdersIn
import Derived.RangeFuncIn
import Derived.Laws.CopyOwn
/-
  A small calculus: what code does to temporaries and to blocks of its own. Conditions: none.
  States: what each temporary holds; the blocks that are known (boxes, rows that may grow); what is said of other memory, that nobody turns.
-/
namespace Go.Proofs.Ytaijclimdfchfaa
open Go.Proofs Go.RowKit

def Blk (w : World) (b : Nat) (vs : Array Value) (t : TypeId) : Prop := w.heap[b]? = some (.cells vs t (0, 0))
theorem Blk.lt {w : World} {b : Nat} {vs : Array Value} {t : TypeId} (h : Blk w b vs t) : b < w.heap.size := lt_of_block h
theorem Blk.cell {w : World} {b : Nat} {vs : Array Value} {t : TypeId} (h : Blk w b vs t) (o : Nat) (v : Value) (hv : vs[o]? = some v) : w.cell? ⟨b, o, none⟩ = some v := by
  simp [World.cell?, show w.heap[b]? = _ from h, hv]
theorem Blk.free {w : World} {b : Nat} {vs : Array Value} {t : TypeId} (h : Blk w b vs t) (o : Nat) : w.frozen? ⟨b, o, none⟩ = false := by
  simp [World.frozen?, show w.heap[b]? = _ from h]
theorem Blk.new (w : World) (vs : Array Value) (t : TypeId) : Blk (w.alloc (.cells vs t)) w.heap.size vs t := by
  show (w.heap.push _)[w.heap.size]? = _
  simp

/-- a block that is the code's own -/
inductive Hp where
  | box (b : Nat) (T : TypeId) (cs : List Value)
  | own (v : Value) (E : TypeId) (esz n : Nat) (xs : List Value)

def Hp.blk : Hp → Option Nat
  | .box b _ _ => some b
  | .own v _ _ _ _ => v.ownBlock
def Hp.ok (w : World) : Hp → Prop
  | .box b T cs => Blk w b cs.toArray T
  | .own v E esz n xs => w.ownsRow 0 E esz v n xs ∧ ∀ u ∈ xs, u.oneCell' = true

theorem Hp.keep {w w' : World} {h : Hp} (ho : h.ok w) (hb : ∀ b, h.blk = some b → w'.heap[b]? = w.heap[b]?) : h.ok w' := by
  cases h with
  | box b T cs => exact (hb b rfl).trans ho
  | own v E esz n xs =>
    refine ⟨⟨ho.1.1, ?_⟩, ho.2⟩
    rcases ho.1.2 with h | ⟨g, cap, cur, rfl, h0, hg, r⟩
    · exact .inl h
    · exact .inr ⟨g, cap, cur, rfl, h0, (hb g rfl).trans hg, r⟩
theorem Hp.lt {w : World} {h : Hp} (ho : h.ok w) {b : Nat} (hb : h.blk = some b) : b < w.heap.size := by
  cases h with
  | box b' T cs => cases hb; exact Blk.lt ho
  | own v E esz n xs => exact (ho.1.lt b hb).2
theorem Hp.isCells {w : World} {h : Hp} (ho : h.ok w) {b : Nat} (hb : h.blk = some b) : ∃ o, w.heap[b]? = some o ∧ o.isCells = true := by
  cases h with
  | box b' T cs => cases hb; exact ⟨_, ho, rfl⟩
  | own v E esz n xs =>
    rcases ho.1.2 with ⟨rfl, _⟩ | ⟨g, cap, cur, rfl, h0, hg, r⟩
    · simp [Hp.blk, Value.ownBlock] at hb
    · simp [Hp.blk, Value.ownBlock] at hb; subst hb; exact ⟨_, hg, rfl⟩

structure St where
  l : Nat → Option Value
  m : Nat → Option Hp
  g : World → Prop
  gb : Nat → Prop
  d : List Nat

def updN {α : Type} (f : Nat → α) (i : Nat) (x : α) : Nat → α := fun j => match Nat.beq j i with | true => x | false => f j
theorem updN_same {α : Type} (f : Nat → α) (i : Nat) (x : α) : updN f i x i = x := by
  have : Nat.beq i i = true := Nat.beq_refl i
  simp [updN, this]
theorem updN_other {α : Type} (f : Nat → α) {i j : Nat} (x : α) (h : j ≠ i) : updN f i x j = f j := by
  have : Nat.beq j i = false := by
    cases hb : Nat.beq j i
    · rfl
    · exact absurd (Nat.eq_of_beq_eq_true hb) h
  simp [updN, this]
theorem updN_comm {α : Type} (f : Nat → α) {i j : Nat} (x y : α) (h : i ≠ j) : updN (updN f i x) j y = updN (updN f j y) i x := by
  funext k
  by_cases hi : k = i
  · subst hi; rw [updN_other _ _ h, updN_same, updN_same]
  · by_cases hj : k = j
    · subst hj; rw [updN_same, updN_other _ _ hi, updN_same]
    · rw [updN_other _ _ hj, updN_other _ _ hi, updN_other _ _ hi, updN_other _ _ hj]

abbrev Wr := Option (Nat × Hp)
def St.put (s : St) (d : Option Nat) (x : Value) : St := match d with | some i => { s with l := updN s.l i (some x) } | none => s
def St.mem (s : St) (wr : Wr) : St := match wr with | some (k, h) => { s with m := updN s.m k (some h) } | none => s

/-- blocks that S does not name lie as they lay -/
structure Chg (S : Nat → Prop) (w w' : World) : Prop where
  os : w'.os = w.os
  tape : w'.tape = w.tape
  output : w'.output = w.output
  size : w.heap.size ≤ w'.heap.size
  block : ∀ k, k < w.heap.size → ¬ S k → w'.heap[k]? = w.heap[k]?

theorem Chg.refl (S : Nat → Prop) (w : World) : Chg S w w := ⟨rfl, rfl, rfl, Nat.le_refl _, fun _ _ _ => rfl⟩
theorem Chg.of_below {S : Nat → Prop} {w w' : World} (h : Below w.heap.size w w') : Chg S w w' := ⟨h.os, h.tape, h.output, h.size, fun k hk _ => h.block k hk⟩
theorem Chg.below {w w' : World} (h : Chg (fun _ => False) w w') : Below w.heap.size w w' := ⟨h.os, h.tape, h.output, h.size, fun k hk => h.block k hk (fun h => h)⟩
theorem Chg.mono {S S' : Nat → Prop} {w w' : World} (h : Chg S w w') (hs : ∀ k, k < w.heap.size → S k → S' k) : Chg S' w w' := ⟨h.os, h.tape, h.output, h.size, fun k hk hn => h.block k hk fun h' => hn (hs k hk h')⟩
theorem Chg.trans {S : Nat → Prop} {a b c : World} (h : Chg S a b) (k : Chg (fun i => S i ∨ a.heap.size ≤ i) b c) : Chg S a c :=
  ⟨k.os.trans h.os, k.tape.trans h.tape, k.output.trans h.output, Nat.le_trans h.size k.size, fun i hi hn => (k.block i (Nat.lt_of_lt_of_le hi h.size) (by rintro (h | h); exact hn h; omega)).trans (h.block i hi hn)⟩
theorem Chg.keeps {S : Nat → Prop} {w w' : World} (h : Chg S w w') (hc : ∀ b, S b → ∀ o, w.heap[b]? = some o → o.isCells = true) : KeepsOthers w w' :=
  ⟨h.size, fun k o hk ho => by
    have hlt := (Array.getElem?_eq_some_iff.1 hk).1
    exact (h.block k hlt fun hs => by have := hc k hs o hk; rw [ho] at this; cases this).trans hk⟩
theorem Chg.grown {w w' : World} {row : Option Nat} (h : w.grownBy w' row) : Chg (fun b => row = some b) w w' := ⟨h.os, h.tape, h.output, h.size, fun k hk hn => h.block k hk fun e => hn e.symm⟩
theorem Chg.alloc (S : Nat → Prop) (w : World) (o : Obj) : Chg S w (w.alloc o) := ⟨rfl, rfl, rfl, by simp, fun k hk _ => Below.heap_alloc w o k hk⟩
theorem Chg.setRow (w : World) (b : Nat) (cs : Array Value) : Chg (fun k => k = b) w (w.setRow b cs) := ⟨rfl, rfl, rfl, by simp, fun k _ hn => setRow_other w b k _ hn⟩

structure Cx where
  P : Program
  w0 : World
  N : Nat
  n : Nat
  ro : Option Nat
  W : Nat → Prop
  kp : Prop
def Cx.own (C : Cx) (b : Nat) : Prop := C.w0.heap.size ≤ b ∨ C.W b
/-- the fence: none, or a round's -/
def Cx.F (C : Cx) : Fence := match C.ro with | none => Fence.wide | some l => Fence.wide.inRound l
theorem Cx.all (C : Cx) (f : FuncId) : C.F.fn f := by unfold Cx.F; split <;> trivial
theorem Cx.nod (C : Cx) : C.F.depth = none := by unfold Cx.F; split <;> rfl
theorem Cx.rnd (C : Cx) : C.F.round = C.ro := by unfold Cx.F; split <;> (rename_i h; rw [h]; rfl)
theorem Cx.callsIn (C : Cx) {n : Nat} {f : FuncId} {args : Array Value} {w : World} {R : Ending → World → Prop} (h : Calls C.P f args w R) : CallsIn C.F n C.P f args w R := by
  unfold Cx.F; split
  · exact callsIn_wide.2 h
  · exact CallsIn.inRound _ (callsIn_wide.2 h)

def mark (D : Nat) : Deferred := { target := .collected D, args := #[] }

structure Rep (C : Cx) (s : St) (a : Act) (w : World) : Prop where
  dfs : a.defers = s.d.map mark
  dd : ∀ D ∈ s.d, w.heap[D]? = some (.deferred (some []))
  dg : ∀ D ∈ s.d, C.w0.heap.size ≤ D ∧ ¬ s.gb D
  dn : s.d.Nodup
  sz : a.tmps.size = C.N
  tm : ∀ i v, i < C.N → s.l i = some v → a.tmps.getD i undef = v
  mo : ∀ k h, s.m k = some h → h.ok w ∧ ∀ b, h.blk = some b → C.own b
  inj : ∀ k k' h h' b, s.m k = some h → s.m k' = some h' → h.blk = some b → h'.blk = some b → k = k'
  gh : s.g w
  gd : ∀ b, s.gb b → b < w.heap.size ∧ ∀ k h, s.m k = some h → h.blk ≠ some b
  st : ∀ w w' : World, Chg (fun b => ¬ s.gb b) w w' → s.g w → s.g w'
  fr : Chg C.W C.w0 w
  ko : C.kp → KeepsOthers C.w0 w

variable {C : Cx} {s : St} {a : Act} {w w' : World}

theorem rep_chg (hr : Rep C s a w) (S : Nat → Prop) (hc : Chg S w w') (hS : ∀ b, S b → b < w.heap.size → C.own b ∧ ¬ s.gb b ∧ ∀ o, w.heap[b]? = some o → o.isCells = true) (m' : Nat → Option Hp)
    (hm : ∀ k h, m' k = some h → (s.m k = some h ∧ ∀ b, h.blk = some b → ¬ S b) ∨ (h.ok w' ∧ ∀ b, h.blk = some b → (S b ∧ b < w.heap.size) ∨ w.heap.size ≤ b))
    (hinj : ∀ k k' h h' b, m' k = some h → m' k' = some h' → h.blk = some b → h'.blk = some b → k = k') : Rep C { s with m := m' } a w' := by
  have hk : KeepsOthers w w' := ⟨hc.size, fun k o hk ho => by
    have hlt := (Array.getElem?_eq_some_iff.1 hk).1
    exact (hc.block k hlt fun hs => by have := (hS k hs hlt).2.2 o hk; rw [ho] at this; cases this).trans hk⟩
  have hw0 := hr.fr.size
  refine ⟨hr.dfs, fun D hD => hk.same D _ (hr.dd D hD) rfl, hr.dg, hr.dn, hr.sz, hr.tm, fun k h hh => ?_, hinj, ?_, fun b hb => ⟨Nat.lt_of_lt_of_le (hr.gd b hb).1 hc.size, fun k h hh e => ?_⟩, hr.st, ?_, fun hp => (hr.ko hp).trans hk⟩
  · rcases hm k h hh with ⟨h1, h2⟩ | ⟨h1, h2⟩
    · have := hr.mo k h h1
      exact ⟨Hp.keep this.1 fun b hb => hc.block b (Hp.lt this.1 hb) (h2 b hb), this.2⟩
    · refine ⟨h1, fun b hb => ?_⟩
      rcases h2 b hb with h | h
      · exact (hS b h.1 h.2).1
      · exact .inl (Nat.le_trans hw0 h)
  · refine hr.st w w' ⟨hc.os, hc.tape, hc.output, hc.size, fun k hk' hn => ?_⟩ hr.gh
    exact hc.block k hk' fun hs => hn fun hg => (hS k hs hk').2.1 hg
  · rcases hm k h hh with ⟨h1, h2⟩ | ⟨h1, h2⟩
    · exact (hr.gd b hb).2 k h h1 e
    · rcases h2 b e with h | h
      · exact (hS b h.1 h.2).2.1 hb
      · have := (hr.gd b hb).1; omega
  · refine hr.fr.trans ⟨hc.os, hc.tape, hc.output, hc.size, fun k hk' hn => hc.block k hk' fun hs => hn ?_⟩
    rcases (hS k hs hk').1 with h | h
    · exact .inr h
    · exact .inl h

theorem rep_put (hr : Rep C s a w) (d : Option Nat) (x : Value) : Rep C (s.put d x) (a.put d x) w := by
  cases d with
  | none => exact hr
  | some d =>
    refine ⟨hr.dfs, hr.dd, hr.dg, hr.dn, by simp [Act.put, hr.sz], fun i v hi hv => ?_, hr.mo, hr.inj, hr.gh, hr.gd, hr.st, hr.fr, hr.ko⟩
    simp only [St.put, Act.put] at hv ⊢
    by_cases e : i = d
    · subst e
      rw [updN_same] at hv
      cases hv
      simp [Array.getD_eq_getD_getElem?, hr.sz, hi]
    · rw [updN_other _ _ e] at hv
      have : (a.tmps.setIfInBounds d x).getD i undef = a.tmps.getD i undef := by
        simp [Array.getD_eq_getD_getElem?, Array.getElem?_setIfInBounds_ne (Ne.symm e)]
      rw [this]; exact hr.tm i v hi hv
theorem rep_drew (hr : Rep C s a w) : Rep C s a { w with drawn := w.drawn + 1 } :=
  rep_chg (w' := { w with drawn := w.drawn + 1 }) hr (fun _ => False) ⟨rfl, rfl, rfl, Nat.le_refl _, fun _ _ _ => rfl⟩ (fun _ h => h.elim) s.m (fun _ _ h => .inl ⟨h, fun _ _ h => h⟩) hr.inj
theorem rep_below (hr : Rep C s a w) (hb : Below w.heap.size w w') : Rep C s a w' :=
  rep_chg hr (fun _ => False) (Chg.of_below hb) (fun _ h => h.elim) s.m (fun _ _ h => .inl ⟨h, fun _ _ h => h⟩) hr.inj

/-- to say less -/
structure Le (s s' : St) : Prop where
  l : ∀ i v, s'.l i = some v → s.l i = some v
  m : ∀ k h, s'.m k = some h → s.m k = some h
  g : s'.g = s.g
  gb : s'.gb = s.gb
  d : s'.d = s.d
theorem rep_le {s' : St} (hr : Rep C s a w) (h : Le s s') : Rep C s' a w := by
  obtain ⟨l', m', g', gb', d'⟩ := s'
  obtain ⟨h1, h2, rfl, rfl, rfl⟩ := h
  exact ⟨hr.dfs, hr.dd, hr.dg, hr.dn, hr.sz, fun i v hi hv => hr.tm i v hi (h1 i v hv), fun k h hh => hr.mo k h (h2 k h hh), fun k k' h h' b e e' => hr.inj k k' h h' b (h2 _ _ e) (h2 _ _ e'), hr.gh, fun b hb => ⟨(hr.gd b hb).1, fun k h hh => (hr.gd b hb).2 k h (h2 _ _ hh)⟩, hr.st, hr.fr, hr.ko⟩

/-- what code is asked for -/
def Post (C : Cx) (K : Exit → St → Prop) (e : Exit) (a : Act) (w : World) : Prop := ∃ s, Rep C s a w ∧ K e s
def V (C : Cx) (c : Code) (K : Exit → St → Prop) (s : St) : Prop := ∀ a w, Rep C s a w → c.wpIn C.F C.n C.P (Post C K) a w
def VL (C : Cx) (ops : Array Oper) (rest : List Oper) (K : Exit → St → Prop) (s : St) : Prop := ∀ a w, Rep C s a w → wpListIn C.F C.n C.P ops (Post C K) rest a w

def thenK (next : St → Prop) (K : Exit → St → Prop) : Exit → St → Prop
  | .normal, s => next s
  | e, s => K e s
def blockK (id : Nat) (K : Exit → St → Prop) : Exit → St → Prop
  | .exit id', s => if id' = id then K .normal s else K (.exit id') s
  | e, s => K e s

variable {K : Exit → St → Prop}

theorem V.mono {c : Code} {K' : Exit → St → Prop} (h : V C c K s) (hk : ∀ e s, K e s → K' e s) : V C c K' s :=
  fun a w hr => wpIn_mono (h a w hr) (fun _ _ _ ⟨s', h1, h2⟩ => ⟨s', h1, hk _ _ h2⟩)
theorem V.le {c : Code} {s' : St} (h : V C c K s') (hl : Le s s') : V C c K s := fun a w hr => h a w (rep_le hr hl)
theorem VL.le {ops : Array Oper} {rest : List Oper} {s' : St} (h : VL C ops rest K s') (hl : Le s s') : VL C ops rest K s := fun a w hr => h a w (rep_le hr hl)

theorem v_seq {x y : Code} (h : V C x (thenK (V C y K) K) s) : V C (.seq x y) K s := by
  intro a w hr
  refine wpIn_seq (wpIn_mono (h a w hr) ?_)
  rintro e a' w' ⟨s', hr', hk⟩
  cases e <;> first | exact hk _ _ hr' | exact ⟨s', hr', hk⟩
theorem v_skip (h : K .normal s) : V C .skip K s := fun a w hr => wpIn_skip ⟨s, hr, h⟩
theorem v_exit {id : Nat} (h : K (.exit id) s) : V C (.exit id) K s := fun a w hr => wpIn_exit ⟨s, hr, h⟩
theorem v_ret (h : K .ret s) : V C .ret K s := fun a w hr => wpIn_ret ⟨s, hr, h⟩
theorem v_block {id : Nat} {c : Code} (h : V C c (blockK id K) s) : V C (.block id c) K s := by
  intro a w hr
  refine wpIn_block (wpIn_mono (h a w hr) ?_)
  rintro e a' w' ⟨s', hr', hk⟩
  cases e with
  | exit id' =>
    simp only [blockK] at hk
    simp only [Exit.inBlock]
    split
    · rename_i h; rw [if_pos h] at hk; exact ⟨s', hr', hk⟩
    · rename_i h; rw [if_neg h] at hk; exact ⟨s', hr', hk⟩
  | _ => exact ⟨s', hr', hk⟩

def ev (C : Cx) (s : St) : Operand → Option Value
  | .tmp t => match Nat.blt t C.N with | true => s.l t | false => none
  | .const x => some x
  | .global g => some (.pointer (some ⟨g, 0, none⟩))
  | .func f => some (.func (.func f) #[] #[])
theorem ev_ok (hr : Rep C s a w) {x : Operand} {v : Value} (h : ev C s x = some v) : a.eval x = v := by
  cases x with
  | tmp t =>
    simp only [ev] at h
    split at h
    · rename_i hb; exact hr.tm t v (by simpa [Nat.blt_eq] using hb) h
    · cases h
  | const v => cases h; rfl
  | global g => cases h; rfl
  | func f => cases h; rfl
theorem v_cond {c : Operand} {x y : Code} (b : Bool) (hc : ev C s c = some (.bool b)) (ht : b = true → V C x K s) (hf : b = false → V C y K s) : V C (.cond c x y) K s :=
  fun a w hr => wpIn_cond_split (t := b) (ev_ok hr hc) (fun h => ht h a w hr) (fun h => hf h a w hr)

/-- A LOOP -/
theorem v_loop {c : Code} (I : St → Prop) (μ : St → Nat) (h0 : I s)
    (round : ∀ s, I s → V C c (thenK (fun s' => I s' ∧ μ s' < μ s) K) s) : V C (.loop c) K s := by
  intro a w hr b k cs hro hb hrm
  have key : ∀ j s a w, μ s = j → I s → Rep C s a w →
      ∃ e a' w', Post C K e a' w' ∧ ArrivesIn (Machine.fenced C.P C.F) C.P (lone (b.atR a (.code c :: .inLoop c :: k)) cs w) b k cs e a' w' := by
    intro j
    induction j using Nat.strongRecOn with
    | _ j ih =>
      intro s a w hn hI hr
      obtain ⟨e, a₁, w₁, ⟨s₁, hr₁, hk⟩, harr⟩ := round s hI a w hr b (.inLoop c :: k) cs hro hb hrm
      cases e with
      | normal =>
        obtain ⟨hI₁, hlt⟩ := hk
        obtain ⟨e₂, a₂, w₂, hq₂, harr₂⟩ := ih (μ s₁) (hn ▸ hlt) s₁ a₁ w₁ rfl hI₁ hr₁
        exact ⟨e₂, a₂, w₂, hq₂, .of_steps (StepsIn.trans harr (.one (fenced_calm hb hrm rfl) stepR_inLoop)) harr₂⟩
      | exit id => exact ⟨_, a₁, w₁, ⟨s₁, hr₁, hk⟩, .pass (x := .inLoop c) rfl (fun _ _ => .inl (by simp)) harr⟩
      | goto l => exact ⟨_, a₁, w₁, ⟨s₁, hr₁, hk⟩, .pass (x := .inLoop c) rfl (fun _ _ => .inl (by simp)) harr⟩
      | ret => exact ⟨_, a₁, w₁, ⟨s₁, hr₁, hk⟩, .pass (x := .inLoop c) rfl (fun _ _ => .inl (by simp)) harr⟩
      | panic ch => exact ⟨_, a₁, w₁, ⟨s₁, hr₁, hk⟩, .pass (x := .inLoop c) rfl (fun _ _ => .inl (by simp)) harr⟩
      | outgrown => exact ⟨_, a₁, w₁, ⟨s₁, hr₁, hk⟩, .pass (x := .inLoop c) rfl (fun _ _ => .inl (by simp)) harr⟩
  obtain ⟨e, a', w', hq, harr⟩ := key _ s a w rfl h0 hr
  exact ⟨e, a', w', hq, .of_steps (.one (fenced_calm hb hrm rfl) stepR_loop) harr⟩

/-- A loop by a family of states: each round goes from the state at x to that at some x' below it; what a round leaves may know more. -/
theorem v_loopT {α : Type} {c : Code} (T : α → St) (Q : α → Prop) (μ : α → Nat) (x0 : α) (h0 : Q x0) (hs : Le s (T x0))
    (round : ∀ x, Q x → V C c (thenK (fun s' => ∃ x', Q x' ∧ μ x' < μ x ∧ Le s' (T x')) K) (T x)) : V C (.loop c) K s := by
  suffices V C (.loop c) K (T x0) from this.le hs
  intro a w hr b k cs hro hb hrm
  have key : ∀ j x a w, μ x = j → Q x → Rep C (T x) a w →
      ∃ e a' w', Post C K e a' w' ∧ ArrivesIn (Machine.fenced C.P C.F) C.P (lone (b.atR a (.code c :: .inLoop c :: k)) cs w) b k cs e a' w' := by
    intro j
    induction j using Nat.strongRecOn with
    | _ j ih =>
      intro x a w hn hI hr
      obtain ⟨e, a₁, w₁, ⟨s₁, hr₁, hk⟩, harr⟩ := round x hI a w hr b (.inLoop c :: k) cs hro hb hrm
      cases e with
      | normal =>
        obtain ⟨x', hI₁, hlt, hle⟩ := hk
        obtain ⟨e₂, a₂, w₂, hq₂, harr₂⟩ := ih (μ x') (hn ▸ hlt) x' a₁ w₁ rfl hI₁ (rep_le hr₁ hle)
        exact ⟨e₂, a₂, w₂, hq₂, .of_steps (StepsIn.trans harr (.one (fenced_calm hb hrm rfl) stepR_inLoop)) harr₂⟩
      | exit id => exact ⟨_, a₁, w₁, ⟨s₁, hr₁, hk⟩, .pass (x := .inLoop c) rfl (fun _ _ => .inl (by simp)) harr⟩
      | goto l => exact ⟨_, a₁, w₁, ⟨s₁, hr₁, hk⟩, .pass (x := .inLoop c) rfl (fun _ _ => .inl (by simp)) harr⟩
      | ret => exact ⟨_, a₁, w₁, ⟨s₁, hr₁, hk⟩, .pass (x := .inLoop c) rfl (fun _ _ => .inl (by simp)) harr⟩
      | panic ch => exact ⟨_, a₁, w₁, ⟨s₁, hr₁, hk⟩, .pass (x := .inLoop c) rfl (fun _ _ => .inl (by simp)) harr⟩
      | outgrown => exact ⟨_, a₁, w₁, ⟨s₁, hr₁, hk⟩, .pass (x := .inLoop c) rfl (fun _ _ => .inl (by simp)) harr⟩
  obtain ⟨e, a', w', hq, harr⟩ := key _ x0 a w rfl h0 hr
  exact ⟨e, a', w', hq, .of_steps (.one (fenced_calm hb hrm rfl) stepR_loop) harr⟩
end Go.Proofs.Ytaijclimdfchfaa
