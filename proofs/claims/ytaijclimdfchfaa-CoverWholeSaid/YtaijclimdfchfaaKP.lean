import Derived.Test.YtaijclimdfchfaaKO
import Derived.Maps.Own
import Derived.Maps.Views
/- Maps of the code's own; calls that turn what is said of memory; calls that make blocks of which something is said. Conditions: none. -/
namespace Go.Proofs.Ytaijclimdfchfaa
open Go.Proofs Go.RowKit
variable {C : Cx} {K : Exit → St → Prop} {ops : Array Oper} {rest : List Oper} {l l' : List (Nat × Value)} {m m' : List (Nat × Hp)} {g : World → Prop} {gb : Nat → Prop} {dd : List Nat}
  {i : Nat} {d : Option Nat} {op : Op} {ty : TypeId} {pos : String} {aft : Array Edge} {gd : Option (Nat × Bool)} {ks : List Nat} {y : Value} {T T' E : TypeId} {s : St} {x z z' : Operand} {v u : Value} {n esz j : Nat} {xs : List Value}
  {a : Act} {w w' : World} {f : Nat} {cal : Operand} {as_ : Array Operand} {ts : Array TypeId} {vs : List Value} {o : Oper}

/-- blocks of which something is said are turned -/
theorem rep_turn (hr : Rep C (mk l m g gb dd) a w) {S : Nat → Prop} {g' : World → Prop} (hc : Chg S w w') (hg : g' w') (hS : ∀ b, S b → gb b ∧ (C.w0.heap.size ≤ b ∨ (C.W b ∧ ¬ C.kp))) (hst : ∀ w1 w2 : World, Chg (fun b => ¬ gb b) w1 w2 → g' w1 → g' w2) : Rep C (mk l m g' gb dd) a w' := by
  refine ⟨hr.dfs, fun D hD => ?_, hr.dg, hr.dn, hr.sz, hr.tm, fun k h hk => ⟨Hp.keep (hr.mo k h hk).1 fun b hb => hc.block b (Hp.lt (hr.mo k h hk).1 hb) fun hs => (hr.gd b (hS b hs).1).2 k h hk hb, (hr.mo k h hk).2⟩, hr.inj, hg, fun b hb => ⟨Nat.lt_of_lt_of_le (hr.gd b hb).1 hc.size, (hr.gd b hb).2⟩, hst, hr.fr.trans (hc.mono fun k _ hk => ?_), fun hp => ⟨Nat.le_trans (hr.ko hp).size hc.size, fun k o hk ho => ?_⟩⟩
  · have hD' := hr.dd D hD
    exact (hc.block D (Array.getElem?_eq_some_iff.1 hD').1 fun hs => (hr.dg D hD).2 (hS D hs).1).trans hD'
  · rcases (hS k hk).2 with h | h
    · exact .inr h
    · exact .inl h.1
  · have h1 := (hr.ko hp).same k o hk ho
    refine (hc.block k (Array.getElem?_eq_some_iff.1 h1).1 fun hs => ?_).trans h1
    rcases (hS k hs).2 with h | h
    · have := (Array.getElem?_eq_some_iff.1 hk).1; omega
    · exact h.2 hp
/-- new blocks of which something is said -/
theorem rep_said (hr : Rep C (mk l m g gb dd) a w) {Φ : World → Prop} {B : Nat → Prop} (hb : Below w.heap.size w w') (hΦ : Φ w') (hB : ∀ b, B b → w.heap.size ≤ b ∧ b < w'.heap.size) (hst : ∀ w1 w2 : World, Φ w1 → (∀ b, B b → w2.heap[b]? = w1.heap[b]?) → Φ w2) (hlt : ∀ w1 b, Φ w1 → B b → b < w1.heap.size) : Rep C (mk l m (fun w => g w ∧ Φ w) (fun b => gb b ∨ B b) dd) a w' := by
  have h1 := rep_below hr hb
  refine ⟨h1.dfs, h1.dd, fun D hD => ⟨(h1.dg D hD).1, fun h => ?_⟩, h1.dn, h1.sz, h1.tm, h1.mo, h1.inj, ⟨h1.gh, hΦ⟩, fun b hb' => ?_, fun w1 w2 hc hg => ⟨h1.st w1 w2 (hc.mono fun k _ hn => fun h => hn (.inl h)) hg.1, hst w1 w2 hg.2 fun b hb' => hc.block b (hlt w1 b hg.2 hb') fun hn => hn (.inr hb')⟩, h1.fr, h1.ko⟩
  · rcases h with h | h
    · exact (h1.dg D hD).2 h
    · have h2 := (Array.getElem?_eq_some_iff.1 (hr.dd D hD)).1
      have := (hB D h).1
      omega
  · rcases hb' with h | h
    · exact h1.gd b h
    · refine ⟨(hB b h).2, fun k hp hk e => ?_⟩
      have h2 := Hp.lt (hr.mo k hp hk).1 e
      have := (hB b h).1
      omega
/-- a call that turns blocks of which something is said -/
theorem l_gturn {S : Nat → Prop} {g' : World → Prop} (hw : wantS C (mk l m g gb dd) ops ⟨some i, .call { callee := .value cal, args := as_, argTypes := ts }, ty, pos, aft, gd⟩ = some true) {caps : Array Value} (hcal : ev C (mk l m g gb dd) cal = some (.func (.func f) #[] caps)) (hent : ∀ args w, (callFunc f args).run C.P w = .ok (.enter f args) w) (hargs : evs C (mk l m g gb dd) as_.toList = some vs)
    (hS : ∀ b, S b → gb b ∧ (C.w0.heap.size ≤ b ∨ (C.W b ∧ ¬ C.kp))) (hst : ∀ w1 w2 : World, Chg (fun b => ¬ gb b) w1 w2 → g' w1 → g' w2)
    (hc : ∀ w, g w → Held (mk l m g gb dd) ks w → Calls C.P f (vs.toArray ++ caps) w fun e w' => (∃ y, e = .returned y) ∧ Chg S w w' ∧ g' w')
    (next : ∀ y, VL C ops rest K (mk ((i, y) :: l) m g' gb dd)) : VL C ops (⟨some i, .call { callee := .value cal, args := as_, argTypes := ts }, ty, pos, aft, gd⟩ :: rest) K (mk l m g gb dd) :=
  vl_step hw fun a w hr => call_step (R := fun _ w' => Chg S w w' ∧ g' w') hr hcal hent hargs ((hc w hr.gh (held_of hr ks)).mono fun e w' ⟨⟨y, h1⟩, h2⟩ => ⟨y, h1, h2⟩) fun y w' ⟨h1, h2⟩ => ⟨mk ((i, y) :: l) m g' gb dd, by rw [← mk_put]; exact rep_put (rep_turn hr h1 h2 hS hst) (some i) y, next y⟩
/-- a call that makes blocks of which something is said, and turns nothing -/
theorem l_gsaid {α : Type} (X : α → Value) (Φ : α → World → Prop) (B : α → Nat → Prop) (hw : wantS C (mk l m g gb dd) ops ⟨some i, .call { callee := .value cal, args := as_, argTypes := ts }, ty, pos, aft, gd⟩ = some true) {caps : Array Value} (hcal : ev C (mk l m g gb dd) cal = some (.func (.func f) #[] caps)) (hent : ∀ args w, (callFunc f args).run C.P w = .ok (.enter f args) w) (hargs : evs C (mk l m g gb dd) as_.toList = some vs)
    (hst : ∀ x w1 w2, Φ x w1 → (∀ b, B x b → w2.heap[b]? = w1.heap[b]?) → Φ x w2) (hlt : ∀ x w1 b, Φ x w1 → B x b → b < w1.heap.size)
    (hc : ∀ w, g w → Held (mk l m g gb dd) ks w → Calls C.P f (vs.toArray ++ caps) w fun e w' => ∃ x, e = .returned (X x) ∧ Below w.heap.size w w' ∧ Φ x w' ∧ ∀ b, B x b → w.heap.size ≤ b)
    (next : ∀ x, VL C ops rest K (mk ((i, X x) :: l) m (fun w => g w ∧ Φ x w) (fun b => gb b ∨ B x b) dd)) : VL C ops (⟨some i, .call { callee := .value cal, args := as_, argTypes := ts }, ty, pos, aft, gd⟩ :: rest) K (mk l m g gb dd) :=
  vl_step hw fun a w hr => call_step (R := fun y w' => ∃ x, y = X x ∧ Below w.heap.size w w' ∧ Φ x w' ∧ ∀ b, B x b → w.heap.size ≤ b) hr hcal hent hargs ((hc w hr.gh (held_of hr ks)).mono fun e w' ⟨x, h1, h2⟩ => ⟨X x, h1, x, rfl, h2⟩) fun y w' ⟨x, h0, h1, h2, h3⟩ =>
    ⟨mk ((i, X x) :: l) m (fun w => g w ∧ Φ x w) (fun b => gb b ∨ B x b) dd, by subst h0; rw [← mk_put]; exact rep_put (rep_said hr h1 h2 (fun b hb => ⟨h3 b hb, hlt x w' b h2 hb⟩) (hst x) (hlt x)) (some i) _, next x⟩
/-- a map is made -/
theorem l_mapNew (Φ : Nat → World → Prop) (hw : wantS C (mk l m g gb dd) ops ⟨some i, .makeMap T none, ty, pos, aft, gd⟩ = some true) (h0 : ∀ w : World, Φ w.heap.size (w.alloc (.map #[] 0))) (hst : ∀ b w1 w2, Φ b w1 → w2.heap[b]? = w1.heap[b]? → Φ b w2) (hlt : ∀ b w1, Φ b w1 → b < w1.heap.size)
    (next : ∀ b, C.w0.heap.size ≤ b → VL C ops rest K (mk ((i, .map (some b)) :: l) m (fun w => g w ∧ Φ b w) (fun x => gb x ∨ x = b) dd)) : VL C ops (⟨some i, .makeMap T none, ty, pos, aft, gd⟩ :: rest) K (mk l m g gb dd) :=
  vl_step hw fun a w hr => by
    refine wpIn_value (y := .map (some w.heap.size)) (w' := w.alloc (.map #[] 0)) (by simp) (by simp [execOp, run_makeMap, Sem.run_bind, Result.andThen]) ⟨mk ((i, .map (some w.heap.size)) :: l) m (fun w' => g w' ∧ Φ w.heap.size w') (fun x => gb x ∨ x = w.heap.size) dd, ?_, next w.heap.size hr.fr.size⟩
    rw [← mk_put]
    exact rep_put (rep_said (B := fun x => x = w.heap.size) hr ((Below.refl _ w).alloc (Nat.le_refl _) _) (h0 w) (fun b hb => by subst hb; simp) (fun w1 w2 h1 h2 => hst _ w1 w2 h1 (h2 _ rfl)) (fun w1 b h1 hb => by subst hb; exact hlt _ w1 h1)) (some i) _
/-- a map is read -/
theorem o_lookup {b : Nat} {key : Value} (h : ev C s x = some (.map (some b))) (h2 : ev C s z = some key) (hl : ∀ w, s.g w → (Instr.lookup T (.map (some b)) key false).run C.P w = .ok v w) : OpV C s ⟨d, .lookup T x z false, ty, pos, aft, gd⟩ [] v :=
  ⟨by simp, fun ρ w hr hg _ => by simp [execOp, rd1 hr (x := x) (by simp [Op.operands]) h, rd1 hr (x := z) (by simp [Op.operands]) h2, hl w hg, Sem.run_bind, Result.andThen]⟩
/-- a map is written -/
theorem l_mapSet {b : Nat} {key val : Value} {S : Nat → Prop} {g' : World → Prop} (hw : wantS C (mk l m g gb dd) ops ⟨none, .mapUpdate T x z z', ty, pos, aft, gd⟩ = some true) (h : ev C (mk l m g gb dd) x = some (.map (some b))) (h2 : ev C (mk l m g gb dd) z = some key) (h3 : ev C (mk l m g gb dd) z' = some val)
    (hS : ∀ b, S b → gb b ∧ (C.w0.heap.size ≤ b ∨ (C.W b ∧ ¬ C.kp))) (hst : ∀ w1 w2 : World, Chg (fun b => ¬ gb b) w1 w2 → g' w1 → g' w2)
    (hc : ∀ w, g w → ∃ w', (Instr.mapUpdate T (.map (some b)) key val).run C.P w = .ok () w' ∧ Chg S w w' ∧ g' w')
    (next : VL C ops rest K (mk l m g' gb dd)) : VL C ops (⟨none, .mapUpdate T x z z', ty, pos, aft, gd⟩ :: rest) K (mk l m g gb dd) :=
  vl_step hw fun a w hr => by
    obtain ⟨w', h4, h5, h6⟩ := hc w hr.gh
    have e1 : a.eval x = _ := ev_ok hr h
    have e2 : a.eval z = _ := ev_ok hr h2
    have e3 : a.eval z' = _ := ev_ok hr h3
    exact wpIn_skipOp (w' := w') (by simp) (by simp [execOp, e1, e2, e3, h4, Sem.run_bind, Result.andThen]) ⟨_, rep_turn hr h5 h6 hS hst, next⟩
/-- INTO a function of whose memory something is said -/
theorem enterG {P : Program} {f N : Nat} {fn : Func} {c : Code} {rs : List ResultVar} {args : List Value} {w : World} (W : Nat → Prop) (kp : Prop) (g0 : World → Prop) (gb0 : Nat → Prop) (R : Value → St → Prop) (hf : P.funcs[f]? = some fn) (hb : fn.body = some c) (hn : fn.ntmps = N) (hrs : fn.results = rs.toArray)
    (hsz : Nat.ble args.length N = true) (hg0 : g0 w) (hgb : ∀ b, gb0 b → b < w.heap.size) (hst : ∀ w1 w2 : World, Chg (fun b => ¬ gb0 b) w1 w2 → g0 w1 → g0 w2)
    (h : V ⟨P, w, N, 3, none, W, kp⟩ c (retK ⟨P, w, N, 3, none, W, kp⟩ rs R) (mk (argsL 0 args) [] g0 gb0 [])) :
    Calls P f args.toArray w fun e w' => ∃ v s', e = .returned v ∧ R v s' ∧ Out ⟨P, w, N, 3, none, W, kp⟩ s' w' := by
  have hrs' : fn.results.toList = rs := by rw [hrs]
  rw [← hrs'] at h
  refine callsIn_wide (n := 3).1 (callsIn_of_wp_marks hf hb trivial ?_)
  have hle : args.length ≤ N := Nat.le_of_ble_eq_true hsz
  have hrep : Rep ⟨P, w, N, 3, none, W, kp⟩ (mk (argsL 0 args) [] g0 gb0 []) { tmps := args.toArray ++ Array.replicate (fn.ntmps - args.toArray.size) undef, defers := [] } w := by
    refine ⟨rfl, fun _ h => (by cases h), fun _ h => (by cases h), List.nodup_nil, by simp [hn]; omega, fun i v hi hv => ?_, fun k h hk => (by cases hk), fun k k' h h' b hk => (by cases hk), hg0, fun b hb => ⟨hgb b hb, fun k h hk => (by cases hk)⟩, hst, Chg.refl _ _, fun _ => KeepsOthers.refl _⟩
    have := (argsL_ok args 0 i v hv).2
    have hlt := (List.getElem?_eq_some_iff.1 this).1
    rw [Array.getD_eq_getD_getElem?, Array.getElem?_append_left (by simpa using hlt)]
    simp at this
    simp [this]
  refine wpIn_mono (h _ _ hrep) ?_
  rintro e a' w' ⟨s', hr', hk⟩
  have fin : (∃ vs, ResAll ⟨P, w, N, 3, none, W, kp⟩ s' fn.results.toList vs ∧ R (packV vs) s') →
      LeavesInM Fence.wide 3 P fn a'.tmps (fun e w' => ∃ v s', e = .returned v ∧ R v s' ∧ Out ⟨P, w, N, 3, none, W, kp⟩ s' w') a'.defers .returning w' := by
    rintro ⟨vs, h1, h2⟩
    rw [hr'.dfs]
    exact leaves_ok (C := ⟨P, w, N, 3, none, W, kp⟩) hr' h1 (fun w'' ho => ⟨_, s', rfl, h2, ho⟩) s'.d w' hr'.dn (fun D hD => ⟨hD, hr'.dd D hD⟩) ⟨hr'.mo, hr'.inj, hr'.gh, hr'.fr, hr'.ko⟩
  cases e with
  | ret => exact fin hk
  | normal => exact fin hk
  | _ => exact hk.elim
/-- a function that turns block b, of which something is said -/
theorem calls_turn {P : Program} {f N : Nat} {fn : Func} {c : Code} {args : List Value} {rs : List ResultVar} {w : World} (b : Nat) (Φ Φ' : World → Prop) (hf : P.funcs[f]? = some fn) (hb : fn.body = some c) (hn : fn.ntmps = N) (hrs : fn.results = rs.toArray) (hsz : Nat.ble args.length N = true)
    (h0 : Φ w) (hst : ∀ w1 w2, Φ w1 → w2.heap[b]? = w1.heap[b]? → Φ w2) (hlt : b < w.heap.size)
    (h : V ⟨P, w, N, 3, none, fun x => x = b, False⟩ c (retK ⟨P, w, N, 3, none, fun x => x = b, False⟩ rs (fun _ s => ∀ w', s.g w' → Φ' w')) (mk (argsL 0 args) [] (fun w' => Chg (fun x => x = b) w w' ∧ Φ w') (fun x => x < w.heap.size) [])) :
    Calls P f args.toArray w fun e w' => (∃ y, e = .returned y) ∧ Chg (fun x => x = b) w w' ∧ Φ' w' := by
  refine (enterG (fun x => x = b) False (fun w' => Chg (fun x => x = b) w w' ∧ Φ w') (fun x => x < w.heap.size) (fun _ s => ∀ w', s.g w' → Φ' w') hf hb hn hrs hsz ⟨Chg.refl _ w, h0⟩ (fun _ h => h) (fun w1 w2 hc h1 => ⟨h1.1.trans (hc.mono fun k _ hk => .inr (by omega)), hst w1 w2 h1.2 (hc.block b (Nat.lt_of_lt_of_le hlt h1.1.size) fun hn => hn hlt)⟩) h).mono ?_
  rintro e w' ⟨v, s', rfl, h1, ho⟩
  exact ⟨⟨v, rfl⟩, ho.fr, h1 w' ho.gh⟩
/-- a function that makes blocks of which something is said -/
theorem calls_said {P : Program} {f N : Nat} {fn : Func} {c : Code} {rs : List ResultVar} {args : List Value} {w : World} {α : Type} (X : α → Value) (Φ : α → World → Prop) (B : α → Nat → Prop) (hf : P.funcs[f]? = some fn) (hb : fn.body = some c) (hn : fn.ntmps = N) (hrs : fn.results = rs.toArray) (hsz : Nat.ble args.length N = true)
    (h : V ⟨P, w, N, 3, none, fun _ => False, True⟩ c (retK ⟨P, w, N, 3, none, fun _ => False, True⟩ rs (fun v s => ∃ x, v = X x ∧ ∀ w', Out ⟨P, w, N, 3, none, fun _ => False, True⟩ s w' → Φ x w' ∧ ∀ b, B x b → w.heap.size ≤ b)) (mk (argsL 0 args) [] (fun w' => Chg (fun _ => False) w w') (fun b => b < w.heap.size ∧ ¬ False) [])) :
    Calls P f args.toArray w fun e w' => ∃ x, e = .returned (X x) ∧ Below w.heap.size w w' ∧ Φ x w' ∧ ∀ b, B x b → w.heap.size ≤ b := by
  refine (enter (fun _ => False) [] (fun v s => ∃ x, v = X x ∧ ∀ w', Out ⟨P, w, N, 3, none, fun _ => False, True⟩ s w' → Φ x w' ∧ ∀ b, B x b → w.heap.size ≤ b) hf hb hn hrs hsz (fun k h hk => (by cases hk)) (fun k k' h h' b hk => (by cases hk)) h).mono ?_
  rintro e w' ⟨v, s', rfl, ⟨x, rfl, h1⟩, ho⟩
  exact ⟨x, rfl, ho.fr.below, h1 w' ho⟩
/-- as l_gown; its block is new -/
theorem l_gownB (hw : wantS C (mk l m g gb dd) ops ⟨some i, .call { callee := .value cal, args := as_, argTypes := ts }, ty, pos, aft, gd⟩ = some true) {caps : Array Value} (hcal : ev C (mk l m g gb dd) cal = some (.func (.func f) #[] caps)) (hent : ∀ args w, (callFunc f args).run C.P w = .ok (.enter f args) w) (hargs : evs C (mk l m g gb dd) as_.toList = some vs)
    (hc : ∀ w, g w → Held (mk l m g gb dd) ks w → Calls C.P f (vs.toArray ++ caps) w fun e w' => ∃ y, e = .returned y ∧ Below w.heap.size w w' ∧ OwnAt w.heap.size w' y E esz n xs)
    (next : ∀ y, RowV y n → (∀ b, y.ownBlock = some b → C.w0.heap.size ≤ b) → VL C ops rest K (mk ((i, y) :: l) ((i, .own y E esz n xs) :: m) g gb dd)) : VL C ops (⟨some i, .call { callee := .value cal, args := as_, argTypes := ts }, ty, pos, aft, gd⟩ :: rest) K (mk l m g gb dd) :=
  vl_step hw fun a w hr => call_step (R := fun y w' => Below w.heap.size w w' ∧ OwnAt w.heap.size w' y E esz n xs) hr hcal hent hargs ((hc w hr.gh (held_of hr ks)).mono fun e w' ⟨y, h1, h2, h3⟩ => ⟨y, h1, h2, h3⟩) fun y w' ⟨h1, h2⟩ =>
    ⟨mk ((i, y) :: l) ((i, .own y E esz n xs) :: m) g gb dd, by rw [← mk_put]; exact rep_put (rep_newOwn hr h1 h2.1 (fun b hb => h2.2 b hb) i) (some i) y, next y h2.rowV fun b hb => Nat.le_trans hr.fr.size (h2.2 b hb)⟩
/-- a block of an iterator's own lies idle while a round goes on -/
theorem yield_keeps {h : Hp} {O O' : Nat → Prop} {W w w2 : World} (hok : h.ok W) (hg : Chg (fun _ => False) W w) (hO : ∀ b, h.blk = some b → ¬ O b) (hc : Chg O w w2) (hO' : ∀ b, O' b → O b ∨ w.heap.size ≤ b) : (∀ b, h.blk = some b → ¬ O' b) ∧ h.ok w2 := by
  have okw : h.ok w := Hp.keep hok fun b hb => hg.block b (Hp.lt hok hb) fun h => h
  refine ⟨fun b hb ho => ?_, Hp.keep okw fun b hb => hc.block b (Hp.lt okw hb) (hO b hb)⟩
  rcases hO' b ho with h1 | h1
  · exact hO b hb h1
  · have := Hp.lt okw hb; omega
/-- anew from the world that is: in an iterator -/
theorem v_rebase {c : Code} (hCW : ∀ b, C.W b) (hkp : ¬ C.kp) (h : ∀ W1, g W1 → (∀ k hp, lk m k = some hp → hp.ok W1) → V C c K (mk l [] (fun w => Chg (fun _ => False) W1 w) (fun b => b < W1.heap.size) [])) : V C c K (mk l m g gb []) := fun a w hr =>
  h w hr.gh (fun k hp hk => (hr.mo k hp hk).1) a w ⟨hr.dfs, fun _ h => (by cases h), fun _ h => (by cases h), List.nodup_nil, hr.sz, hr.tm, fun k h hk => (by cases hk), fun k k' h h' b hk => (by cases hk), Chg.refl _ _, fun b hb => ⟨hb, fun k h hk => (by cases hk)⟩,
    fun w1 w2 hc2 h1 => h1.trans (hc2.mono fun k _ hn => (Decidable.em (k < w.heap.size)).elim (fun h => absurd h hn) (fun h => .inr (by omega))), hr.fr, fun hp => absurd hp hkp⟩
/-! ### rows that lie still, one by one -/
def gF (g0 : World → Prop) : List Hp → World → Prop
  | [] => g0
  | h :: r => fun w => gF g0 r w ∧ h.ok w
def gbF (gb0 : Nat → Prop) : List Hp → Nat → Prop
  | [] => gb0
  | h :: r => fun b => gbF gb0 r b ∨ h.blk = some b
theorem gF_base {g0 : World → Prop} {w : World} : ∀ (fs : List Hp), gF g0 fs w → g0 w
  | [], h => h
  | _ :: r, h => gF_base r h.1
theorem gF_mem {g0 : World → Prop} {w : World} {h : Hp} : ∀ (fs : List Hp), h ∈ fs → gF g0 fs w → h.ok w
  | [], hm, _ => by simp at hm
  | x :: r, hm, hg => by
    rcases List.mem_cons.1 hm with e | hm
    · rw [e]; exact hg.2
    · exact gF_mem r hm hg.1
end Go.Proofs.Ytaijclimdfchfaa
