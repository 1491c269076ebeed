import Derived.Test.YtaijclimdfchfaaKI
/- Calls that turn a row while others are read. Conditions: none. -/
namespace Go.Proofs.Ytaijclimdfchfaa
open Go.Proofs Go.RowKit
variable {C : Cx} {K : Exit → St → Prop} {ops : Array Oper} {rest : List Oper} {l l' : List (Nat × Value)} {m m' : List (Nat × Hp)} {g : World → Prop} {gb : Nat → Prop} {dd : List Nat}
  {i : Nat} {d : Option Nat} {op : Op} {ty : TypeId} {pos : String} {aft : Array Edge} {gd : Option (Nat × Bool)} {ks : List Nat} {y : Value} {T T' E : TypeId} {s : St} {x z : Operand} {v u : Value} {n esz j : Nat} {xs : List Value}
  {a : Act} {w w' : World} {f : Nat} {cal : Operand} {as_ : Array Operand} {ts : Array TypeId} {vs : List Value}
/-- as l_gmut; the call's row has a block of its own -/
theorem l_gmutD (key : Nat) (keep : List Nat) {n0 : Nat} {xs0 : List Value} {E0 e0 : Nat} (hw : wantS C (mk l m g gb dd) ops ⟨some i, .call { callee := .value cal, args := as_, argTypes := ts }, ty, pos, aft, gd⟩ = some true) {caps : Array Value} (hcal : ev C (mk l m g gb dd) cal = some (.func (.func f) #[] caps)) (hent : ∀ args w, (callFunc f args).run C.P w = .ok (.enter f args) w) (hargs : evs C (mk l m g gb dd) as_.toList = some vs)
    (hk : lk m key = some (.own v E0 e0 n0 xs0)) (hs : sel keep m = some m') (hkeep : keep.contains key = false)
    (hc : ∀ w, g w → Held (mk l m g gb dd) ks w → (Hp.own v E0 e0 n0 xs0).ok w → (∀ k h b, lk m k = some h → k ≠ key → h.blk = some b → ¬ v.ownBlock = some b) → Calls C.P f (vs.toArray ++ caps) w fun e w' => ∃ y, e = .returned y ∧ Chg (fun b => v.ownBlock = some b) w w' ∧ (Hp.own y E esz n xs).ok w' ∧ ∀ b, y.ownBlock = some b → v.ownBlock = some b ∨ w.heap.size ≤ b)
    (next : ∀ y, RowV y n → VL C ops rest K (mk ((i, y) :: l) ((i, .own y E esz n xs) :: m') g gb dd)) : VL C ops (⟨some i, .call { callee := .value cal, args := as_, argTypes := ts }, ty, pos, aft, gd⟩ :: rest) K (mk l m g gb dd) :=
  vl_step hw fun a w hr => call_step (R := fun y w' => Chg (fun b => v.ownBlock = some b) w w' ∧ (Hp.own y E esz n xs).ok w' ∧ ∀ b, y.ownBlock = some b → v.ownBlock = some b ∨ w.heap.size ≤ b) hr hcal hent hargs ((hc w hr.gh (held_of hr ks) (hr.mo key _ hk).1 (fun k h b h1 h2 h3 h4 => h2 (hr.inj k key h _ b h1 hk h3 h4))).mono fun e w' ⟨y, h1, h2, h3, h4⟩ => ⟨y, h1, h2, h3, h4⟩) fun y w' ⟨h1, h2, h3⟩ =>
    ⟨mk ((i, y) :: l) ((i, .own y E esz n xs) :: m') g gb dd, by rw [← mk_put]; exact rep_put (rep_ownL hr hk h1 h2 h3 i keep hs hkeep) (some i) y, next y (rowV_own h2)⟩
/-- a row by another name -/
theorem v_ren (key key' : Nat) (keep : List Nat) {c : Code} (hk : lk m key = some (.own v E esz n xs)) (hs : sel keep m = some m') (hkeep : keep.contains key = false) (next : V C c K (mk l ((key', .own v E esz n xs) :: m') g gb dd)) : V C c K (mk l m g gb dd) :=
  fun a w hr => next a w (rep_ownL hr hk (Chg.refl _ w) (hr.mo key _ hk).1 (fun b hb => .inl hb) key' keep hs hkeep)
theorem o_moveE {k : IntKind} {q q' : Int} (h : ev C s x = some (.int k q)) (e : q = q') : OpV C s ⟨d, .move x, ty, pos, aft, gd⟩ [] (.int k q') := by subst e; exact o_move h
theorem own_congr {n' : Nat} {xs' : List Value} (h1 : n = n') (h2 : xs = xs') : Hp.own v E esz n xs = Hp.own v E esz n' xs' := by subst h1 h2; rfl
/-- a call that turns a row of ours, to one of which Q is known -/
theorem l_gmutX {α : Type} (key : Nat) (Q : α → Prop) (X : α → List Value) {xs0 : List Value} (hw : wantS C (mk l m g gb dd) ops ⟨some i, .call { callee := .value cal, args := as_, argTypes := ts }, ty, pos, aft, gd⟩ = some true) {caps : Array Value} (hcal : ev C (mk l m g gb dd) cal = some (.func (.func f) #[] caps)) (hent : ∀ args w, (callFunc f args).run C.P w = .ok (.enter f args) w) (hargs : evs C (mk l m g gb dd) as_.toList = some vs)
    (hk : lk m key = some (.own v E esz n xs0))
    (hc : ∀ w, g w → Held (mk l m g gb dd) ks w → (Hp.own v E esz n xs0).ok w → Calls C.P f (vs.toArray ++ caps) w fun e w' => (∃ y, e = .returned y) ∧ ∃ x, Q x ∧ Chg (fun b => v.ownBlock = some b) w w' ∧ (Hp.own v E esz n (X x)).ok w')
    (next : ∀ x y, Q x → VL C ops rest K (mk ((i, y) :: l) ((key, .own v E esz n (X x)) :: m) g gb dd)) : VL C ops (⟨some i, .call { callee := .value cal, args := as_, argTypes := ts }, ty, pos, aft, gd⟩ :: rest) K (mk l m g gb dd) :=
  vl_step hw fun a w hr => call_step (R := fun y w' => ∃ x, Q x ∧ Chg (fun b => v.ownBlock = some b) w w' ∧ (Hp.own v E esz n (X x)).ok w') hr hcal hent hargs ((hc w hr.gh (held_of hr ks) (hr.mo key _ hk).1).mono fun e w' ⟨⟨y, h1⟩, h2⟩ => ⟨y, h1, h2⟩) fun y w' ⟨x, hq, h1, h2⟩ =>
    ⟨mk ((i, y) :: l) ((key, .own v E esz n (X x)) :: m) g gb dd, by
      have := rep_store hr (k := key) (h' := .own v E esz n (X x)) hk rfl h2 h1
      rw [mk_mem] at this
      rw [← mk_put]
      exact rep_put this (some i) y, next x y hq⟩
/-- a call that makes a row of which Q is known, and turns nothing -/
theorem l_gownX {α : Type} (Q : α → Prop) (X : α → List Value) (nX : α → Nat) (hw : wantS C (mk l m g gb dd) ops ⟨some i, .call { callee := .value cal, args := as_, argTypes := ts }, ty, pos, aft, gd⟩ = some true) {caps : Array Value} (hcal : ev C (mk l m g gb dd) cal = some (.func (.func f) #[] caps)) (hent : ∀ args w, (callFunc f args).run C.P w = .ok (.enter f args) w) (hargs : evs C (mk l m g gb dd) as_.toList = some vs)
    (hc : ∀ w, g w → Held (mk l m g gb dd) ks w → Calls C.P f (vs.toArray ++ caps) w fun e w' => ∃ y x, e = .returned y ∧ Q x ∧ Below w.heap.size w w' ∧ OwnAt w.heap.size w' y E esz (nX x) (X x))
    (next : ∀ x y, Q x → RowV y (nX x) → VL C ops rest K (mk ((i, y) :: l) ((i, .own y E esz (nX x) (X x)) :: m) g gb dd)) : VL C ops (⟨some i, .call { callee := .value cal, args := as_, argTypes := ts }, ty, pos, aft, gd⟩ :: rest) K (mk l m g gb dd) :=
  vl_step hw fun a w hr => call_step (R := fun y w' => ∃ x, Q x ∧ Below w.heap.size w w' ∧ OwnAt w.heap.size w' y E esz (nX x) (X x)) hr hcal hent hargs ((hc w hr.gh (held_of hr ks)).mono fun e w' ⟨y, x, h1, h2⟩ => ⟨y, h1, x, h2⟩) fun y w' ⟨x, hq, h1, h2⟩ =>
    ⟨mk ((i, y) :: l) ((i, .own y E esz (nX x) (X x)) :: m) g gb dd, by rw [← mk_put]; exact rep_put (rep_newOwn hr h1 h2.1 (fun b hb => h2.2 b hb) i) (some i) y, next x y hq h2.rowV⟩
theorem calls_ownX {P : Program} {f N : Nat} {fn : Func} {c : Code} {rs : List ResultVar} {args : List Value} {w : World} {α : Type} (Q : α → Prop) (X : α → List Value) (nX : α → Nat) (hf : P.funcs[f]? = some fn) (hb : fn.body = some c) (hn : fn.ntmps = N) (hrs : fn.results = rs.toArray) (hsz : Nat.ble args.length N = true)
    (h : V ⟨P, w, N, 3, none, fun _ => False, True⟩ c (retK ⟨P, w, N, 3, none, fun _ => False, True⟩ rs (fun v s => ∃ x, Q x ∧ ∃ key, s.m key = some (.own v E esz (nX x) (X x)))) (mk (argsL 0 args) [] (fun w' => Chg (fun _ => False) w w') (fun b => b < w.heap.size ∧ ¬ False) [])) :
    Calls P f args.toArray w fun e w' => ∃ y x, e = .returned y ∧ Q x ∧ Below w.heap.size w w' ∧ OwnAt w.heap.size w' y E esz (nX x) (X x) := by
  refine (enter (fun _ => False) [] (fun v s => ∃ x, Q x ∧ ∃ key, s.m key = some (.own v E esz (nX x) (X x))) hf hb hn hrs hsz (fun k h hk => (by cases hk)) (fun k k' h h' b hk => (by cases hk)) h).mono ?_
  rintro e w' ⟨v, s', rfl, ⟨x, hq, key, hk⟩, ho⟩
  exact ⟨v, x, rfl, hq, ho.fr.below, (ho.mo key _ hk).1, fun b hb => ((ho.mo key _ hk).2 b hb).elim id False.elim⟩
/-- a function that turns a row that it is handed, and hands nothing back -/
theorem calls_mutX {P : Program} {f N : Nat} {fn : Func} {c : Code} {args : List Value} {w : World} {α : Type} (v0 : Value) (Q : α → Prop) (X : α → List Value) {E0 e0 n0 : Nat} {xs0 : List Value} (hf : P.funcs[f]? = some fn) (hb : fn.body = some c) (hn : fn.ntmps = N) (hrs : fn.results = #[]) (hsz : Nat.ble args.length N = true) (hok : (Hp.own v0 E0 e0 n0 xs0).ok w)
    (h : V ⟨P, w, N, 3, none, fun b => v0.ownBlock = some b, True⟩ c (retK ⟨P, w, N, 3, none, fun b => v0.ownBlock = some b, True⟩ [] (fun _ s => ∃ x, Q x ∧ s.m 1000 = some (.own v0 E0 e0 n0 (X x)))) (mk (argsL 0 args) [(1000, .own v0 E0 e0 n0 xs0)] (fun w' => Chg (fun b => v0.ownBlock = some b) w w') (fun b => b < w.heap.size ∧ ¬ v0.ownBlock = some b) [])) :
    Calls P f args.toArray w fun e w' => (∃ y, e = .returned y) ∧ ∃ x, Q x ∧ Chg (fun b => v0.ownBlock = some b) w w' ∧ (Hp.own v0 E0 e0 n0 (X x)).ok w' := by
  refine (enter (fun b => v0.ownBlock = some b) [(1000, .own v0 E0 e0 n0 xs0)] (fun _ s => ∃ x, Q x ∧ s.m 1000 = some (.own v0 E0 e0 n0 (X x))) hf hb hn (by rw [hrs]) hsz (fun k h hk => ?_) (fun k k' h h' b hk hk' _ _ => ?_) h).mono ?_
  · simp only [lk] at hk
    split at hk
    · cases hk; exact ⟨hok, fun b hb => hb⟩
    · cases hk
  · simp only [lk] at hk hk'
    split at hk
    · rename_i hb1
      split at hk'
      · rename_i hb2
        exact (Nat.eq_of_beq_eq_true hb1).trans (Nat.eq_of_beq_eq_true hb2).symm
      · cases hk'
    · cases hk
  · rintro e w' ⟨v, s', rfl, ⟨x, hq, hk⟩, ho⟩
    exact ⟨⟨v, rfl⟩, x, hq, ho.fr, (ho.mo 1000 _ hk).1⟩
/-- a function value that is called, in a region that draws its order -/
theorem d_ansv {wf : Nat → Value → Prop} {L : Pr wf → List (Nat × Value)} {M : Pr wf → List (Nat × Hp)} {os : List Oper} {κs : List (List Nat)} {r : Value} (hw : ∀ σ, wantS C (mk (L σ) (M σ) g gb dd) ops ⟨some i, .call { callee := .value cal, args := as_, argTypes := ts }, ty, pos, aft, gd⟩ = some true) (hcal : ∀ σ, ev C (mk (L σ) (M σ) g gb dd) cal = some (.func (.func f) #[] #[])) (hargs : ∀ σ, evs C (mk (L σ) (M σ) g gb dd) as_.toList = some vs) (hc : Ans C.P f vs r)
    (next : VDZ C ops os κs K (fun σ => mk ((i, r) :: L σ) (M σ) g gb dd)) : VDZ C ops (⟨some i, .call { callee := .value cal, args := as_, argTypes := ts }, ty, pos, aft, gd⟩ :: os) ([] :: κs) K (fun σ => mk (L σ) (M σ) g gb dd) := by
  rcases hc with ⟨h1, h2⟩ | h
  · exact d_call hw (fun σ => o_callF (hcal σ) h1 (hargs σ) fun w _ _ => by simpa using h2 w) next
  · refine d_valC (Y := fun _ => r) hw (fun σ => opv _ _ (by simp) fun ρ w hr => ?_) next
    rw [run_callTo (rd1 hr callee_mem (hcal σ)) (args_of hr (hargs σ))]
    simpa using h w
theorem yieldAt_mono {F : Fence} {n : Nat} {P : Program} {lp : Nat} {vs : Array Value} {w : World} {R R' : Ending → World → Prop} (h : YieldAt F n P lp vs w R) (hm : ∀ e w', R e w' → R' e w') : YieldAt F n P lp vs w R' := by
  obtain ⟨fn, tmps, assign, body, h1, h2⟩ := h
  exact ⟨fn, tmps, assign, body, h1, h2.mono fun e w' => hm e w'⟩
/-- a function that makes a box, and hands something on that points to it -/
theorem calls_box {P : Program} {f N : Nat} {fn : Func} {c : Code} {rs : List ResultVar} {args : List Value} {w : World} {X : Nat → Value} {T : TypeId} {cs : List Value} (hf : P.funcs[f]? = some fn) (hb : fn.body = some c) (hn : fn.ntmps = N) (hrs : fn.results = rs.toArray) (hsz : Nat.ble args.length N = true)
    (h : V ⟨P, w, N, 3, none, fun _ => False, True⟩ c (retK ⟨P, w, N, 3, none, fun _ => False, True⟩ rs (fun v s => ∃ key b, v = X b ∧ s.m key = some (.box b T cs))) (mk (argsL 0 args) [] (fun w' => Chg (fun _ => False) w w') (fun b => b < w.heap.size ∧ ¬ False) [])) :
    Calls P f args.toArray w fun e w' => ∃ b, e = .returned (X b) ∧ Below w.heap.size w w' ∧ Blk w' b cs.toArray T ∧ w.heap.size ≤ b := by
  refine (enter (fun _ => False) [] (fun v s => ∃ key b, v = X b ∧ s.m key = some (.box b T cs)) hf hb hn hrs hsz (fun k h hk => (by cases hk)) (fun k k' h h' b hk => (by cases hk)) h).mono ?_
  rintro e w' ⟨v, s', rfl, ⟨key, b, rfl, hk⟩, ho⟩
  exact ⟨b, rfl, ho.fr.below, (ho.mo key _ hk).1, ((ho.mo key _ hk).2 b rfl).elim id False.elim⟩
theorem rowV_cells (h : RowV v n) : v.cells.toList = [v] := by obtain ⟨a, c, rfl⟩ := h.sl; rfl
theorem rowV_one (h : RowV v n) : v.oneCell' = true := by obtain ⟨a, c, rfl⟩ := h.sl; rfl
theorem el_one {xs : List Value} {j : Nat} (h : j < xs.length) : El xs 1 j [xs.getD j undef] := ⟨rfl, fun f hf => by
  obtain rfl : f = 0 := by omega
  rw [Nat.mul_one, Nat.add_zero, List.getD_eq_getElem?_getD, List.getElem?_eq_getElem h]; rfl⟩
end Go.Proofs.Ytaijclimdfchfaa
