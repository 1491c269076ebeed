import Derived.Test.YtaijclimdfchfaaKH
import Derived.Laws.StructEq
/- Structs of numbers compared, and a slice with nil. Conditions: none. -/
namespace Go.Proofs.Ytaijclimdfchfaa
open Go.Proofs Go.RowKit

variable {C : Cx} {s : St} {d : Option Nat} {x y z : Operand} {T S T' : TypeId} {ty : TypeId} {pos : String} {aft : Array Edge} {gd : Option (Nat × Bool)} {k : IntKind} {v u : Value}

inductive FldsOk (P : Program) : List Field → Nat → Nat → Prop
  | nil {i : Nat} : FldsOk P [] i 0
  | cons {f : Field} {fs : List Field} {i n : Nat} {k : IntKind} (h1 : f.name ≠ "_") (h2 : P.underlying f.type = some (.int k)) (h3 : f.offset = i) (h : FldsOk P fs (i + 1) n) : FldsOk P (f :: fs) i (n + 1)
def fldsOk (P : Program) : List Field → Nat → Nat → Bool
  | [], _, 0 => true
  | f :: fs, i, n + 1 => (f.name != "_") && (match P.underlying f.type with | some (.int _) => true | _ => false) && (f.offset == i) && fldsOk P fs (i + 1) n
  | _, _, _ => false
theorem fldsOk_ok {P : Program} : ∀ (fs : List Field) (i n : Nat), fldsOk P fs i n = true → FldsOk P fs i n
  | [], i, 0, _ => .nil
  | [], i, n + 1, h => by simp [fldsOk] at h
  | f :: fs, i, 0, h => by simp [fldsOk] at h
  | f :: fs, i, n + 1, h => by
    simp only [fldsOk, Bool.and_eq_true] at h
    obtain ⟨⟨⟨h1, h2⟩, h3⟩, h4⟩ := h
    split at h2
    · rename_i k hk
      exact .cons (by simpa using h1) hk (by simpa using h3) (fldsOk_ok fs (i + 1) n h4)
    · cases h2
class TEqs (P : Program) (T : Nat) (n : outParam Nat) : Prop where
  hm : P.eqGuardType P.depth T = false
  hu : P.underlying T = some (.struct (P.fieldsOf T))
  hp : P.stoodInHeld T = false
  hf : fldsOk P (P.fieldsOf T).toList 0 n = true

def ints : List Value → Option (List (IntKind × Int))
  | [] => some []
  | .int k a :: r => (match ints r with | some l => some ((k, a) :: l) | none => none)
  | _ => none
theorem ints_get : ∀ (l : List Value) (az : List (IntKind × Int)), ints l = some az → l.length = az.length ∧ ∀ (j : Nat) (p : IntKind × Int), az[j]? = some p → l[j]? = some (Value.int p.1 p.2)
  | [], az, h => by simp [ints] at h; subst h; simp
  | v :: r, az, h => by
    cases v <;> simp only [ints] at h <;> try (cases h; done)
    split at h
    · rename_i k a l hl
      cases h
      have ih := ints_get r l hl
      refine ⟨by simp [ih.1], fun j p hj => ?_⟩
      cases j with
      | zero => simp at hj; subst hj; rfl
      | succ j => simpa using ih.2 j p (by simpa using hj)
    · cases h

theorem eqFields_ok {P : Program} (w : World) (d : Nat) (xs ys : Array Value) : ∀ (fs : List Field) (i n : Nat), FldsOk P fs i n → ∀ (az bz : List (IntKind × Int)), az.length = n → az.map (·.1) = bz.map (·.1) → (∀ (j : Nat) (p : IntKind × Int), az[j]? = some p → xs[i + j]? = some (.int p.1 p.2)) → (∀ (j : Nat) (p : IntKind × Int), bz[j]? = some p → ys[i + j]? = some (.int p.1 p.2)) →
    (Op.eqFields (d + 1) xs ys fs).run P w = .ok (decide (az.map (·.2) = bz.map (·.2))) w := by
  intro fs i n h
  induction h with
  | nil =>
    intro az bz hl hk _ _
    have : az = [] := List.eq_nil_of_length_eq_zero hl
    subst this
    have : bz = [] := by cases bz with | nil => rfl | cons _ _ => simp at hk
    subst this
    simp [Op.eqFields]
  | @cons f fs i n k h1 h2 h3 _ ih =>
    intro az bz hl hk hx hy
    cases az with
    | nil => simp at hl
    | cons a az =>
      cases bz with
      | nil => simp at hk
      | cons b bz =>
        obtain ⟨ka, a⟩ := a
        obtain ⟨kb, b⟩ := b
        simp only [List.map_cons, List.cons.injEq] at hk
        obtain ⟨rfl, hk⟩ := hk
        have hx0 := hx 0 (ka, a) rfl
        have hy0 := hy 0 (ka, b) rfl
        simp only [Nat.add_zero] at hx0 hy0
        have p1 : ∀ (cs : Array Value) (v : Value), cs[i]? = some v → (part f.type cs f.offset).run P w = .ok v w := fun cs v h => by
          simp [part, Sem.run_bind, isAgg, run_underlying h2, Result.andThen, h3, h]
        have ih' := ih az bz (by simpa using hl) hk (fun j p hj => by have := hx (j + 1) p (by simpa using hj); rwa [show i + (j + 1) = i + 1 + j by omega] at this) (fun j p hj => by have := hy (j + 1) p (by simpa using hj); rwa [show i + (j + 1) = i + 1 + j by omega] at this)
        rw [Op.eqFields.eq_2, if_pos h1, Sem.run_bind, p1 _ _ hx0]
        simp only [Result.andThen_ok, Sem.run_bind, p1 _ _ hy0, run_equalIn_int w d f.type ka k a b h2]
        by_cases e : a = b
        · subst e
          simp [ih']
        · have : (a == b) = false := by simpa using e
          simp [this, e]

theorem o_eqs {n : Nat} {xl yl : List Value} {az bz : List (IntKind × Int)} [ht : TEqs C.P T n] (h : ev C s x = some (.agg xl.toArray)) (h2 : ev C s y = some (.agg yl.toArray)) (ha : ints xl = some az) (hb : ints yl = some bz) (hn : az.length = n) (hk : az.map (·.1) = bz.map (·.1)) :
    OpV C s ⟨d, .binOp .eql T x y T', ty, pos, aft, gd⟩ [] (.bool (decide (az.map (·.2) = bz.map (·.2)))) := opv _ _ (by simp) fun ρ w hr => by
  have ea := ints_get xl az ha
  have eb := ints_get yl bz hb
  have hq := eqFields_ok (P := C.P) w 9998 xl.toArray yl.toArray _ 0 n (fldsOk_ok _ _ _ ht.hf) az bz hn hk (fun j p hj => by simpa using ea.2 j p hj) (fun j p hj => by simpa using eb.2 j p hj)
  simp only [execOp, rd1 hr (x := x) (by simp [Op.operands]) h, rd1 hr (x := y) (by simp [Op.operands]) h2, Sem.run_bind, run_eqGuard_agg w .eql T x y _ _ ht.hm, Result.andThen, run_eql_struct, run_equalIn_agg w 9999 T _ _ ht.hu ht.hp, hq, Sem.run_pure]
theorem o_neqs {n : Nat} {xl yl : List Value} {az bz : List (IntKind × Int)} [ht : TEqs C.P T n] (h : ev C s x = some (.agg xl.toArray)) (h2 : ev C s y = some (.agg yl.toArray)) (ha : ints xl = some az) (hb : ints yl = some bz) (hn : az.length = n) (hk : az.map (·.1) = bz.map (·.1)) :
    OpV C s ⟨d, .binOp .neq T x y T', ty, pos, aft, gd⟩ [] (.bool (decide (¬ az.map (·.2) = bz.map (·.2)))) := opv _ _ (by simp) fun ρ w hr => by
  have ea := ints_get xl az ha
  have eb := ints_get yl bz hb
  have hq := eqFields_ok (P := C.P) w 9998 xl.toArray yl.toArray _ 0 n (fldsOk_ok _ _ _ ht.hf) az bz hn hk (fun j p hj => by simpa using ea.2 j p hj) (fun j p hj => by simpa using eb.2 j p hj)
  simp only [execOp, rd1 hr (x := x) (by simp [Op.operands]) h, rd1 hr (x := y) (by simp [Op.operands]) h2, Sem.run_bind, run_eqGuard_agg w .neq T x y _ _ ht.hm, Result.andThen, run_neq_struct, run_equalIn_agg w 9999 T _ _ ht.hu ht.hp, hq, Sem.run_pure, decide_not]
variable {wf : Nat → Value → Prop} {K : Exit → St → Prop} {ops : Array Oper} {L : Pr wf → List (Nat × Value)} {M : Pr wf → List (Nat × Hp)} {os : List Oper} {κs : List (List Nat)} {g : World → Prop} {gb : Nat → Prop} {dd : List Nat} {i : Nat}
theorem d_eqs {n : Nat} {xl yl : List Value} {az bz : List (IntKind × Int)} [ht : TEqs C.P T n] (hw : ∀ σ, wantS C (mk (L σ) (M σ) g gb dd) ops ⟨some i, .binOp .eql T x y T', ty, pos, aft, gd⟩ = some true) (h : ∀ σ, ev C (mk (L σ) (M σ) g gb dd) x = some (.agg xl.toArray)) (h2 : ∀ σ, ev C (mk (L σ) (M σ) g gb dd) y = some (.agg yl.toArray)) (ha : ints xl = some az) (hb : ints yl = some bz) (hn : az.length = n) (hk : az.map (·.1) = bz.map (·.1))
    (yes : az.map (·.2) = bz.map (·.2) → VDZ C ops os κs K (fun σ => mk ((i, .bool true) :: L σ) (M σ) g gb dd)) (no : ¬ az.map (·.2) = bz.map (·.2) → VDZ C ops os κs K (fun σ => mk ((i, .bool false) :: L σ) (M σ) g gb dd)) : VDZ C ops (⟨some i, .binOp .eql T x y T', ty, pos, aft, gd⟩ :: os) ([] :: κs) K (fun σ => mk (L σ) (M σ) g gb dd) :=
  d_split hw rfl rfl (fun σ => o_eqs (h σ) (h2 σ) ha hb hn hk) yes no
theorem d_neqs {n : Nat} {xl yl : List Value} {az bz : List (IntKind × Int)} [ht : TEqs C.P T n] (hw : ∀ σ, wantS C (mk (L σ) (M σ) g gb dd) ops ⟨some i, .binOp .neq T x y T', ty, pos, aft, gd⟩ = some true) (h : ∀ σ, ev C (mk (L σ) (M σ) g gb dd) x = some (.agg xl.toArray)) (h2 : ∀ σ, ev C (mk (L σ) (M σ) g gb dd) y = some (.agg yl.toArray)) (ha : ints xl = some az) (hb : ints yl = some bz) (hn : az.length = n) (hk : az.map (·.1) = bz.map (·.1))
    (yes : ¬ az.map (·.2) = bz.map (·.2) → VDZ C ops os κs K (fun σ => mk ((i, .bool true) :: L σ) (M σ) g gb dd)) (no : ¬ ¬ az.map (·.2) = bz.map (·.2) → VDZ C ops os κs K (fun σ => mk ((i, .bool false) :: L σ) (M σ) g gb dd)) : VDZ C ops (⟨some i, .binOp .neq T x y T', ty, pos, aft, gd⟩ :: os) ([] :: κs) K (fun σ => mk (L σ) (M σ) g gb dd) :=
  d_split hw rfl rfl (fun σ => o_neqs (h σ) (h2 σ) ha hb hn hk) yes no
theorem o_eqnil {E esz : Nat} {b : Option Addr} {n c : Nat} [ht : TSl C.P T E esz] (h : ev C s x = some (.slice b n c)) : OpV C s ⟨d, .binOp .eql T x (.const (.slice none 0 0)) T', ty, pos, aft, gd⟩ [] (.bool b.isNone) := opv _ _ (by simp) fun ρ w hr => by
  have h1 := rd1 hr (x := x) (by simp [Op.operands]) h
  have h2 := rd1 hr (x := .const (.slice none 0 0)) (by simp [Op.operands]) rfl
  have hu := ht.h
  simp only [execOp, h1, h2, Sem.run_bind]
  have : (eqGuard .eql T x (.const (.slice none 0 0)) (.slice b n c) (.slice none 0 0)).run C.P w = .ok () w := by simp [eqGuard]
  simp only [this, Result.andThen_ok]
  have h3 : (binOp .eql T (.slice b n c) (.slice none 0 0)).run C.P w = .ok (.bool b.isNone) w := Go.Lib.run_eql_slice_nil w T E b n c 0 0 hu
  simp [h3]
variable {f : Nat} {cal : Operand} {as_ : Array Operand} {ts : Array TypeId} {vs : List Value} {r : Value} {rest : List Oper} {l : List (Nat × Value)} {m : List (Nat × Hp)}
/-- a function value that is called -/
theorem l_ansv (hw : wantS C (mk l m g gb dd) ops ⟨some i, .call { callee := .value cal, args := as_, argTypes := ts }, ty, pos, aft, gd⟩ = some true) (hcal : ev C (mk l m g gb dd) cal = some (.func (.func f) #[] #[])) (hargs : evs C (mk l m g gb dd) as_.toList = some vs) (hc : Ans C.P f vs r)
    (next : VL C ops rest K (mk ((i, r) :: l) m g gb dd)) : VL C ops (⟨some i, .call { callee := .value cal, args := as_, argTypes := ts }, ty, pos, aft, gd⟩ :: rest) K (mk l m g gb dd) := by
  rcases hc with ⟨h1, h2⟩ | h
  · exact l_call (ks := []) hw (o_callF hcal h1 hargs fun w _ _ => by simpa using h2 w) next
  · refine l_val (ks := []) hw (opv _ _ (by simp) fun ρ w hr => ?_) next
    rw [run_callTo (rd1 hr callee_mem hcal) (args_of hr hargs)]
    simpa using h w
theorem lz_cases {b : Bool} (yes : b = true → VL C ops rest K (mk ((i, .bool true) :: l) m g gb dd)) (no : b = false → VL C ops rest K (mk ((i, .bool false) :: l) m g gb dd)) : VL C ops rest K (mk ((i, .bool b) :: l) m g gb dd) := by
  cases b
  · exact no rfl
  · exact yes rfl

/-! ### contracts at one world -/
section
variable {P : Program} {f N : Nat} {fn : Func} {c : Code} {rs : List ResultVar} {args : List Value} {w : World} {r : Value}
theorem calls_of (hf : P.funcs[f]? = some fn) (hb : fn.body = some c) (hn : fn.ntmps = N) (hrs : fn.results = rs.toArray) (hsz : Nat.ble args.length N = true)
    (h : V ⟨P, w, N, 3, none, fun _ => False, True⟩ c (retK ⟨P, w, N, 3, none, fun _ => False, True⟩ rs (fun v _ => v = r)) (mk (argsL 0 args) [] (fun w' => Chg (fun _ => False) w w') (fun b => b < w.heap.size ∧ ¬ False) [])) :
    Calls P f args.toArray w fun e w' => e = .returned r ∧ Below w.heap.size w w' := by
  refine (enter (fun _ => False) [] (fun v _ => v = r) hf hb hn hrs hsz (fun k h hk => (by cases hk)) (fun k k' h h' b hk => (by cases hk)) h).mono ?_
  rintro e w' ⟨v, s', rfl, rfl, ho⟩
  exact ⟨rfl, ho.fr.below⟩
theorem calls_own {E esz n : Nat} {xs : List Value} (hf : P.funcs[f]? = some fn) (hb : fn.body = some c) (hn : fn.ntmps = N) (hrs : fn.results = rs.toArray) (hsz : Nat.ble args.length N = true)
    (h : V ⟨P, w, N, 3, none, fun _ => False, True⟩ c (retK ⟨P, w, N, 3, none, fun _ => False, True⟩ rs (fun v s => ∃ key, s.m key = some (.own v E esz n xs))) (mk (argsL 0 args) [] (fun w' => Chg (fun _ => False) w w') (fun b => b < w.heap.size ∧ ¬ False) [])) :
    Calls P f args.toArray w fun e w' => ∃ y, e = .returned y ∧ Below w.heap.size w w' ∧ OwnAt w.heap.size w' y E esz n xs := by
  refine (enter (fun _ => False) [] (fun v s => ∃ key, s.m key = some (.own v E esz n xs)) hf hb hn hrs hsz (fun k h hk => (by cases hk)) (fun k k' h h' b hk => (by cases hk)) h).mono ?_
  rintro e w' ⟨v, s', rfl, ⟨key, hk⟩, ho⟩
  exact ⟨v, rfl, ho.fr.below, (ho.mo key _ hk).1, fun b hb => ((ho.mo key _ hk).2 b hb).elim id False.elim⟩
/-- a function that turns a row that it is handed -/
theorem calls_mut {E esz n : Nat} {xs : List Value} (v0 : Value) {E0 e0 n0 : Nat} {xs0 : List Value} (hf : P.funcs[f]? = some fn) (hb : fn.body = some c) (hn : fn.ntmps = N) (hrs : fn.results = rs.toArray) (hsz : Nat.ble args.length N = true) (hok : (Hp.own v0 E0 e0 n0 xs0).ok w)
    (h : V ⟨P, w, N, 3, none, fun b => v0.ownBlock = some b, True⟩ c (retK ⟨P, w, N, 3, none, fun b => v0.ownBlock = some b, True⟩ rs (fun v s => ∃ key, s.m key = some (.own v E esz n xs))) (mk (argsL 0 args) [(1000, .own v0 E0 e0 n0 xs0)] (fun w' => Chg (fun b => v0.ownBlock = some b) w w') (fun b => b < w.heap.size ∧ ¬ v0.ownBlock = some b) [])) :
    Calls P f args.toArray w fun e w' => ∃ y, e = .returned y ∧ Chg (fun b => v0.ownBlock = some b) w w' ∧ (Hp.own y E esz n xs).ok w' ∧ ∀ b, y.ownBlock = some b → v0.ownBlock = some b ∨ w.heap.size ≤ b := by
  refine (enter (fun b => v0.ownBlock = some b) [(1000, .own v0 E0 e0 n0 xs0)] (fun v s => ∃ key, s.m key = some (.own v E esz n xs)) hf hb hn hrs hsz (fun k h hk => ?_) (fun k k' h h' b hk hk' _ _ => ?_) h).mono ?_
  · simp only [lk] at hk
    split at hk
    · cases hk; exact ⟨hok, fun b hb => hb⟩
    · cases hk
  · simp only [lk] at hk hk'
    split at hk
    · rename_i hb1
      split at hk'
      · rename_i hb2
        exact (Nat.eq_of_beq_eq_true hb1).trans (Nat.eq_of_beq_eq_true hb2).symm
      · cases hk'
    · cases hk
  · rintro e w' ⟨v, s', rfl, ⟨key, hk⟩, ho⟩
    exact ⟨v, rfl, ho.fr, (ho.mo key _ hk).1, fun b hb => ((ho.mo key _ hk).2 b hb).symm⟩
end

/-- a predicate, as a function value -/
structure PredF {α : Type} (P : Program) (f : Nat) (caps : Array Value) (enc : α → List Value) (p : α → Bool) (G : World → Prop) : Prop where
  ent : ∀ args w, (callFunc f args).run P w = .ok (.enter f args) w
  ans : ∀ w x, G w → Calls P f (#[.agg (enc x).toArray] ++ caps) w fun e w' => e = .returned (.bool (p x)) ∧ Below w.heap.size w w'

/-! ### rows of elements -/
variable {α : Type} {enc : α → List Value} {esz : Nat}
theorem flat_take (henc : ∀ x, (enc x).length = esz) : ∀ (l : List α) (i : Nat), (l.flatMap enc).take (i * esz) = (l.take i).flatMap enc
  | [], i => by simp
  | x :: r, 0 => by simp
  | x :: r, i + 1 => by
    rw [List.flatMap_cons, List.take_append, henc, Nat.add_mul, Nat.one_mul, List.take_of_length_le (l := enc x) (by rw [henc]; omega), show i * esz + esz - esz = i * esz by omega, flat_take henc r i]
    simp
theorem flat_drop (henc : ∀ x, (enc x).length = esz) : ∀ (l : List α) (i : Nat), (l.flatMap enc).drop (i * esz) = (l.drop i).flatMap enc
  | [], i => by simp
  | x :: r, 0 => by simp
  | x :: r, i + 1 => by
    rw [List.flatMap_cons, List.drop_append, henc, Nat.add_mul, Nat.one_mul, show (enc x).drop (i * esz + esz) = [] from List.drop_eq_nil_of_le (by rw [henc]; omega), show i * esz + esz - esz = i * esz by omega, flat_drop henc r i]
    simp
theorem flat_set (henc : ∀ x, (enc x).length = esz) (l : List α) (i : Nat) (x : α) (hi : i < l.length) : (l.flatMap enc).take (i * esz) ++ enc x ++ (l.flatMap enc).drop (i * esz + esz) = (l.set i x).flatMap enc := by
  rw [flat_take henc, show i * esz + esz = (i + 1) * esz by rw [Nat.add_mul, Nat.one_mul], flat_drop henc, List.set_eq_take_append_cons_drop, if_pos hi]
  simp
theorem flat_snoc (l : List α) (x : α) : l.flatMap enc ++ enc x = (l ++ [x]).flatMap enc := by simp
end Go.Proofs.Ytaijclimdfchfaa
