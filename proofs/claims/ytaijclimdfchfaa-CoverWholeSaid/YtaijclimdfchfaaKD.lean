import Derived.Test.YtaijclimdfchfaaKC
/- The operations, a rule each, over states that are written as lists. Conditions: none. -/
namespace Go.Proofs.Ytaijclimdfchfaa
open Go.Proofs Go.RowKit

def lk {α : Type} : List (Nat × α) → Nat → Option α
  | [], _ => none
  | (j, x) :: r, i => match Nat.beq i j with | true => some x | false => lk r i
/-- a state as two lists -/
def mk (l : List (Nat × Value)) (m : List (Nat × Hp)) (g : World → Prop) (gb : Nat → Prop) (d : List Nat) : St := ⟨lk l, lk m, g, gb, d⟩
theorem mk_put (l : List (Nat × Value)) (m : List (Nat × Hp)) (g : World → Prop) (gb : Nat → Prop) (d : List Nat) (i : Nat) (x : Value) : (mk l m g gb d).put (some i) x = mk ((i, x) :: l) m g gb d := by
  simp only [mk, St.put]; congr
theorem mk_mem (l : List (Nat × Value)) (m : List (Nat × Hp)) (g : World → Prop) (gb : Nat → Prop) (d : List Nat) (i : Nat) (x : Hp) : (mk l m g gb d).mem (some (i, x)) = mk l ((i, x) :: m) g gb d := by
  simp only [mk, St.mem]; congr

class TAgg (P : Program) (T : Nat) (n : outParam Nat) : Prop where
  agg : P.underlying T = none → False
  isAgg : ∀ w, (isAgg T).run P w = .ok true w
  sz : ∀ w, (sizeOf T).run P w = .ok n w
class TOne (P : Program) (T : Nat) : Prop where
  isAgg : ∀ w, (isAgg T).run P w = .ok false w
  sz : ∀ w, (sizeOf T).run P w = .ok 1 w
class TZero (P : Program) (T : Nat) (z : outParam (List Value)) : Prop where
  h : ∀ w, ∃ v : Value, v.cells.toList = z ∧ (zeroValue T).run P w = .ok v w
class TFld (P : Program) (S f : Nat) (d : outParam Nat) : Prop where
  h : ∃ fs fd, P.underlying S = some (.struct fs) ∧ fs[f]? = some fd ∧ fd.offset = d ∧ ∀ w, ∃ n, n ≠ 0 ∧ (sizeOf fd.type).run P w = .ok n w
class TInt (P : Program) (T : Nat) (k : outParam IntKind) : Prop where
  h : P.underlying T = some (.int k)
class TBool (P : Program) (T : Nat) : Prop where
  h : P.underlying T = some .bool
class TSl (P : Program) (T : Nat) (e n : outParam Nat) : Prop where
  h : P.underlying T = some (.slice e)
  sz : ∀ w, (sizeOf e).run P w = .ok n w
  pos : n ≠ 0
class TElem (P : Program) (E : Nat) (z : outParam Value) (n by_ : outParam Nat) : Prop where
  h : ∃ i, P.info? E = some i ∧ i.zero = some z ∧ i.size = n ∧ i.bytes = by_
  hz : z.cells.size = n
  pos : 0 < n
class TBuild (P : Program) (T : Nat) (places : outParam (List (Nat × Nat))) (z : outParam (List Value)) : Prop where
  h : ∀ ps, P.built T ps = Instr.fill (places.toArray[·]?) z.toArray ps

theorem TAgg.of {P : Program} {T n : Nat} (h1 : (match P.underlying T with | some (.struct _) | some (.array _ _) => true | _ => false) = true) (h2 : (P.info? T).map (·.size) = some n) : TAgg P T n := by
  refine ⟨fun h => (by rw [h] at h1; cases h1), fun w => ?_, fun w => ?_⟩
  · unfold Go.isAgg
    cases hu : P.underlying T with
    | none => rw [hu] at h1; cases h1
    | some d => rw [hu] at h1; rw [Sem.run_bind, run_underlying hu w]; cases d <;> first | (cases h1; done) | simp [Result.andThen]
  · cases hq : P.info? T with
    | none => rw [hq] at h2; cases h2
    | some i => rw [hq] at h2; simp at h2; simp [sizeOf, typeInfo, hq, h2]
theorem TOne.of {P : Program} {T : Nat} (h1 : (match P.underlying T with | some (.struct _) | some (.array _ _) | none => true | _ => false) = false) (h2 : (P.info? T).map (·.size) = some 1) : TOne P T := by
  refine ⟨fun w => ?_, fun w => ?_⟩
  · unfold Go.isAgg
    cases hu : P.underlying T with
    | none => rw [hu] at h1; cases h1
    | some d => rw [hu] at h1; rw [Sem.run_bind, run_underlying hu w]; cases d <;> first | (cases h1; done) | simp [Result.andThen]
  · cases hq : P.info? T with
    | none => rw [hq] at h2; cases h2
    | some i => rw [hq] at h2; simp at h2; simp [sizeOf, typeInfo, hq, h2]
theorem TZero.of {P : Program} {T : Nat} {z : List Value} (h : ((P.info? T).bind (·.zero)).map (·.cells.toList) = some z) : TZero P T z := by
  refine ⟨fun w => ?_⟩
  cases hq : P.info? T with
  | none => rw [hq] at h; cases h
  | some i =>
    rw [hq] at h
    cases hz : i.zero with
    | none => simp [hz] at h
    | some v => simp [hz] at h; exact ⟨v, by simpa using h, by simp [zeroValue, typeInfo, hq, hz]⟩
theorem TFld.of {P : Program} {S f d : Nat} (h : (match P.underlying S with | some (.struct fs) => (match fs[f]? with | some fd => (match P.info? fd.type with | some i => if i.size = 0 then none else some fd.offset | none => none) | none => none) | _ => none) = some d) : TFld P S f d := by
  refine ⟨?_⟩
  split at h
  · rename_i fs hS
    split at h
    · rename_i fd hfd
      split at h
      · rename_i i hi
        split at h
        · cases h
        · rename_i hne
          cases h
          exact ⟨fs, fd, hS, hfd, rfl, fun w => ⟨i.size, hne, by simp [sizeOf, typeInfo, hi]⟩⟩
      · cases h
    · cases h
  · cases h
theorem TSl.of {P : Program} {T e n : Nat} (h : P.underlying T = some (.slice e)) (h2 : (P.info? e).map (·.size) = some n) (h3 : n ≠ 0) : TSl P T e n := by
  refine ⟨h, fun w => ?_, h3⟩
  cases hq : P.info? e with
  | none => rw [hq] at h2; cases h2
  | some i => rw [hq] at h2; simp at h2; simp [sizeOf, typeInfo, hq, h2]
theorem TElem.of {P : Program} {E n b : Nat} {z : Value} (h : (P.info? E).map (fun i => (i.zero, i.size, i.bytes)) = some (some z, n, b)) (hz : z.cells.size = n) (hp : 0 < n) : TElem P E z n b := by
  refine ⟨?_, hz, hp⟩
  cases hq : P.info? E with
  | none => rw [hq] at h; cases h
  | some i => rw [hq] at h; simp at h; exact ⟨i, rfl, h.1, h.2.1, h.2.2⟩
theorem TBuild.of {P : Program} {T : Nat} {places : List (Nat × Nat)} {z : List Value} (h1 : ((P.info? T).bind (·.zero)).map (·.cells) = some z.toArray)
    (h3 : (match P.underlying T with | some (.struct fs) => fs.toList.mapM (fun f => (P.info? f.type).map fun i => (f.offset, i.size)) | _ => none) = some places) : TBuild P T places z := by
  refine ⟨fun ps => ?_⟩
  unfold Program.built
  cases hi : P.info? T with
  | none => rw [hi] at h1; simp at h1
  | some it =>
    rw [hi] at h1
    simp only [Option.bind_some, Option.map_eq_some_iff] at h1
    obtain ⟨zv, hz, hc⟩ := h1
    split at h3
    · rename_i fs h2
      simp only [h2, hz, h3, hc]
    · cases h3

theorem addAt (b o j : Nat) : (⟨b, o, none⟩ : Addr).add j = ⟨b, o + j, none⟩ := by unfold Addr.add; split <;> simp_all

variable {C : Cx} {s : St} {d : Option Nat} {x y z : Operand} {T S T' : TypeId} {ty : TypeId} {pos : String} {aft : Array Edge} {gd : Option (Nat × Bool)} {k : IntKind} {a b r : Int} {v u : Value}

/-! ### values -/
theorem opv (o : Oper) (v : Value) (hd : ∀ c, o.op ≠ .defer c) (h : ∀ (ρ : Operand → Value) (w : World), Reads C s o ρ → (execOp ρ o).run C.P w = .ok (.value v) w) : OpV C s o [] v := ⟨hd, fun ρ w hr _ _ => h ρ w hr⟩
theorem rd1 {o : Oper} {ρ : Operand → Value} (hr : Reads C s o ρ) {x : Operand} (hx : x ∈ o.op.operands) (h : ev C s x = some v) : ρ x = v := hr x hx v h

theorem o_move (h : ev C s x = some v) : OpV C s ⟨d, .move x, ty, pos, aft, gd⟩ [] v := opv _ _ (by simp) fun ρ w hr => by simp [execOp, rd1 hr (by simp [Op.operands]) h]
theorem o_assign (h : ev C s x = some v) : OpV C s ⟨d, .assign x, ty, pos, aft, gd⟩ [] v := opv _ _ (by simp) fun ρ w hr => by simp [execOp, rd1 hr (by simp [Op.operands]) h]
theorem o_nilCheck {ad : Addr} (h : ev C s x = some (.pointer (some ad))) : OpV C s ⟨d, .nilCheck x, ty, pos, aft, gd⟩ [] (.pointer (some ad)) := opv _ _ (by simp) fun ρ w hr => by simp [execOp, rd1 hr (by simp [Op.operands]) h]
theorem o_pickT (h : ev C s x = some (.bool true)) (h2 : ev C s y = some v) : OpV C s ⟨d, .pick x y z, ty, pos, aft, gd⟩ [] v := opv _ _ (by simp) fun ρ w hr => by
  simp [execOp, rd1 hr (by simp [Op.operands]) h, rd1 hr (x := y) (by simp [Op.operands]) h2, asBool, Sem.run_bind, Result.andThen]
theorem o_pickF (h : ev C s x = some (.bool false)) (h2 : ev C s z = some v) : OpV C s ⟨d, .pick x y z, ty, pos, aft, gd⟩ [] v := opv _ _ (by simp) fun ρ w hr => by
  simp [execOp, rd1 hr (by simp [Op.operands]) h, rd1 hr (x := z) (by simp [Op.operands]) h2, asBool, Sem.run_bind, Result.andThen]
theorem o_not {b' c : Bool} (h : ev C s x = some (.bool b')) (hc : (!b') = c) : OpV C s ⟨d, .unOp .not T x, ty, pos, aft, gd⟩ [] (.bool c) := opv _ _ (by simp) fun ρ w hr => by
  subst hc; simp [execOp, rd1 hr (by simp [Op.operands]) h, Op.unary, Sem.run_bind, Result.andThen]
theorem o_neg (h : ev C s x = some (.int k a)) (hr' : k.wrap (0 - a) = r) : OpV C s ⟨d, .unOp .neg T x, ty, pos, aft, gd⟩ [] (.int k r) := opv _ _ (by simp) fun ρ w hr => by
  subst hr'; simp [execOp, rd1 hr (by simp [Op.operands]) h, Op.unary, Op.intArith, Sem.run_bind, Result.andThen]
theorem o_conv {k' k'' : IntKind} [h1 : TInt C.P S k'] [h2 : TInt C.P T k] (h : ev C s x = some (.int k'' a)) (hr' : k.wrap a = r) : OpV C s ⟨d, .convert S T x, ty, pos, aft, gd⟩ [] (.int k r) := opv _ _ (by simp) fun ρ w hr => by
  subst hr'; simp [execOp, rd1 hr (by simp [Op.operands]) h, convert, Sem.run_bind, run_underlying h1.h, run_underlying h2.h, Conv.intToInt, Result.andThen]
def lget {α : Type} : List α → Nat → Option α
  | [], _ => none
  | x :: _, 0 => some x
  | _ :: r, n + 1 => lget r n
theorem lget_ok {α : Type} : ∀ (l : List α) (i : Nat), lget l i = l[i]?
  | [], i => rfl
  | x :: r, 0 => rfl
  | x :: r, n + 1 => by simp [lget, lget_ok r n]
theorem o_extract {vl : List Value} {j : Nat} (h : ev C s x = some (.tuple vl.toArray)) (hr' : lget vl j = some v) : OpV C s ⟨d, .extract x j, ty, pos, aft, gd⟩ [] v := opv _ _ (by simp) fun ρ w hr => by
  rw [lget_ok] at hr'
  have : vl.toArray[j]? = some v := by simpa using hr'
  simp [execOp, rd1 hr (by simp [Op.operands]) h, Instr.extract, hr', Sem.run_bind, Result.andThen]

def binF (op : BinOp) (x y : Value) : Option Value := match x, y with
  | .int k a, .int k' b => (match op with
    | .shl => if b < 0 then none else some (.int k (k.wrap (a * 2 ^ (min b.toNat k.bits))))
    | .shr => if b < 0 then none else some (.int k (a.fdiv (2 ^ (min b.toNat k.bits))))
    | .add => if k = k' then some (.int k (k.wrap (a + b))) else none
    | .sub => if k = k' then some (.int k (k.wrap (a - b))) else none
    | .mul => if k = k' then some (.int k (k.wrap (a * b))) else none
    | .quo => if k = k' ∧ b ≠ 0 then some (.int k (k.wrap (a.tdiv b))) else none
    | .rem => if k = k' ∧ b ≠ 0 then some (.int k (a.tmod b)) else none
    | .and => if k = k' then some (.int k (k.wrap ((BitVec.ofInt k.bits a &&& BitVec.ofInt k.bits b).toNat))) else none
    | .or => if k = k' then some (.int k (k.wrap ((BitVec.ofInt k.bits a ||| BitVec.ofInt k.bits b).toNat))) else none
    | .eql => if k = k' then some (.bool (a == b)) else none
    | .neq => if k = k' then some (.bool (a != b)) else none
    | .lss => if k = k' then some (.bool (decide (a < b))) else none
    | .leq => if k = k' then some (.bool (decide (a ≤ b))) else none
    | .gtr => if k = k' then some (.bool (decide (a > b))) else none
    | .geq => if k = k' then some (.bool (decide (a ≥ b))) else none
    | _ => none)
  | _, _ => none
theorem run_binF {P : Program} {op : BinOp} {T : TypeId} {x y r : Value} (X Y : Operand) (h : binF op x y = some r) (w : World) :
    (do eqGuard op T X Y x y; binOp op T x y : Sem Value).run P w = .ok r w := by
  unfold binF at h
  split at h
  · rename_i k a k' b
    cases op <;> simp only at h <;>
      (first
        | (split at h
           · cases h
           · cases h
             rename_i hb
             simp [eqGuard, binOp, Op.shift, hb, Sem.run_bind, Result.andThen]
             done)
        | (split at h
           · rename_i hk
             first
               | (obtain ⟨hk, hb⟩ := hk; subst hk; cases h; simp [eqGuard, binOp, Op.intDiv, hb, Sem.run_bind, Result.andThen]; done)
               | (subst hk; cases h; simp [eqGuard, binOp, Op.intArith, Op.intCmp, Op.intBits, Sem.run_bind, Result.andThen]; done)
           · cases h)
        | cases h)
  · cases h
theorem o_bin {op : BinOp} (h : ev C s x = some v) (h2 : ev C s y = some u) {r : Value} (hb : binF op v u = some r) : OpV C s ⟨d, .binOp op T x y T', ty, pos, aft, gd⟩ [] r := opv _ _ (by simp) fun ρ w hr => by
  simp only [execOp, rd1 hr (x := x) (by simp [Op.operands]) h, rd1 hr (x := y) (by simp [Op.operands]) h2]
  rw [Sem.run_bind, run_binF x y hb]; rfl

theorem wrap_i64 {a : Int} (h : -9223372036854775808 ≤ a ∧ a < 9223372036854775808) : IntKind.wrap .i64 a = a := by
  simp [IntKind.wrap, IntKind.bits, IntKind.signed]
  split <;> omega
theorem wrap_u64 {a : Int} (h : 0 ≤ a ∧ a < 18446744073709551616) : IntKind.wrap .u64 a = a := by
  simp [IntKind.wrap, IntKind.bits, IntKind.signed]
  omega
theorem wrap_i32 {a : Int} (h : -2147483648 ≤ a ∧ a < 2147483648) : IntKind.wrap .i32 a = a := by
  simp [IntKind.wrap, IntKind.bits, IntKind.signed]
  split <;> omega
theorem wrap_u64m (a : Int) : IntKind.wrap .u64 a = a % 18446744073709551616 := by
  simp [IntKind.wrap, IntKind.bits, IntKind.signed]
theorem wrap_i64m (a : Int) : IntKind.wrap .i64 a = (a + 9223372036854775808) % 18446744073709551616 - 9223372036854775808 := by
  simp [IntKind.wrap, IntKind.bits, IntKind.signed]
  split <;> omega

theorem o_add (h : ev C s x = some (.int k a)) (h2 : ev C s y = some (.int k b)) (hr : k.wrap (a + b) = r) : OpV C s ⟨d, .binOp .add T x y T', ty, pos, aft, gd⟩ [] (.int k r) := o_bin h h2 (by simp [binF, hr])
theorem o_sub (h : ev C s x = some (.int k a)) (h2 : ev C s y = some (.int k b)) (hr : k.wrap (a - b) = r) : OpV C s ⟨d, .binOp .sub T x y T', ty, pos, aft, gd⟩ [] (.int k r) := o_bin h h2 (by simp [binF, hr])
theorem o_mul (h : ev C s x = some (.int k a)) (h2 : ev C s y = some (.int k b)) (hr : k.wrap (a * b) = r) : OpV C s ⟨d, .binOp .mul T x y T', ty, pos, aft, gd⟩ [] (.int k r) := o_bin h h2 (by simp [binF, hr])
theorem o_addi (h : ev C s x = some (.int .i64 a)) (h2 : ev C s y = some (.int .i64 b)) (hr : -9223372036854775808 ≤ a + b ∧ a + b < 9223372036854775808) : OpV C s ⟨d, .binOp .add T x y T', ty, pos, aft, gd⟩ [] (.int .i64 (a + b)) := o_add h h2 (wrap_i64 hr)
theorem o_subi (h : ev C s x = some (.int .i64 a)) (h2 : ev C s y = some (.int .i64 b)) (hr : -9223372036854775808 ≤ a - b ∧ a - b < 9223372036854775808) : OpV C s ⟨d, .binOp .sub T x y T', ty, pos, aft, gd⟩ [] (.int .i64 (a - b)) := o_sub h h2 (wrap_i64 hr)
theorem o_muli (h : ev C s x = some (.int .i64 a)) (h2 : ev C s y = some (.int .i64 b)) (hr : -9223372036854775808 ≤ a * b ∧ a * b < 9223372036854775808) : OpV C s ⟨d, .binOp .mul T x y T', ty, pos, aft, gd⟩ [] (.int .i64 (a * b)) := o_mul h h2 (wrap_i64 hr)
theorem o_addu (h : ev C s x = some (.int .u64 a)) (h2 : ev C s y = some (.int .u64 b)) : OpV C s ⟨d, .binOp .add T x y T', ty, pos, aft, gd⟩ [] (.int .u64 ((a + b) % 18446744073709551616)) := o_add h h2 (wrap_u64m _)
theorem o_subu (h : ev C s x = some (.int .u64 a)) (h2 : ev C s y = some (.int .u64 b)) : OpV C s ⟨d, .binOp .sub T x y T', ty, pos, aft, gd⟩ [] (.int .u64 ((a - b) % 18446744073709551616)) := o_sub h h2 (wrap_u64m _)
theorem o_mulu (h : ev C s x = some (.int .u64 a)) (h2 : ev C s y = some (.int .u64 b)) : OpV C s ⟨d, .binOp .mul T x y T', ty, pos, aft, gd⟩ [] (.int .u64 (a * b % 18446744073709551616)) := o_mul h h2 (wrap_u64m _)
theorem o_negi (h : ev C s x = some (.int .i64 a)) (hr : -9223372036854775808 ≤ -a ∧ -a < 9223372036854775808) : OpV C s ⟨d, .unOp .neg T x, ty, pos, aft, gd⟩ [] (.int .i64 (-a)) := o_neg h (by rw [show 0 - a = -a by omega]; exact wrap_i64 hr)
theorem o_negu (h : ev C s x = some (.int .u64 a)) : OpV C s ⟨d, .unOp .neg T x, ty, pos, aft, gd⟩ [] (.int .u64 (-a % 18446744073709551616)) := o_neg h (by rw [show 0 - a = -a by omega]; exact wrap_u64m _)
theorem o_convi {k' k'' : IntKind} [h1 : TInt C.P S k'] [h2 : TInt C.P T .i64] (h : ev C s x = some (.int k'' a)) (hr : -9223372036854775808 ≤ a ∧ a < 9223372036854775808) : OpV C s ⟨d, .convert S T x, ty, pos, aft, gd⟩ [] (.int .i64 a) := o_conv h (wrap_i64 hr)
theorem o_convu {k' k'' : IntKind} [h1 : TInt C.P S k'] [h2 : TInt C.P T .u64] (h : ev C s x = some (.int k'' a)) : OpV C s ⟨d, .convert S T x, ty, pos, aft, gd⟩ [] (.int .u64 (a % 18446744073709551616)) := o_conv h (wrap_u64m _)
theorem o_convm {k' k'' : IntKind} [h1 : TInt C.P S k'] [h2 : TInt C.P T .i64] (h : ev C s x = some (.int k'' a)) : OpV C s ⟨d, .convert S T x, ty, pos, aft, gd⟩ [] (.int .i64 ((a + 9223372036854775808) % 18446744073709551616 - 9223372036854775808)) := o_conv h (wrap_i64m _)
theorem o_quo (h : ev C s x = some (.int k a)) (h2 : ev C s y = some (.int k b)) (hb : b ≠ 0) (hr : k.wrap (a.tdiv b) = r) : OpV C s ⟨d, .binOp .quo T x y T', ty, pos, aft, gd⟩ [] (.int k r) := o_bin h h2 (by simp [binF, hb, hr])
/-- a division of what is not negative -/
theorem o_quon (h : ev C s x = some (.int k a)) (h2 : ev C s y = some (.int k b)) (hb : 0 ≤ a ∧ 0 < b) (hr : k.wrap (a / b) = a / b) : OpV C s ⟨d, .binOp .quo T x y T', ty, pos, aft, gd⟩ [] (.int k (a / b)) :=
  o_quo h h2 (by omega) (by rw [Int.tdiv_eq_ediv_of_nonneg hb.1]; exact hr)
theorem o_rem (h : ev C s x = some (.int k a)) (h2 : ev C s y = some (.int k b)) (hb : b ≠ 0) : OpV C s ⟨d, .binOp .rem T x y T', ty, pos, aft, gd⟩ [] (.int k (a.tmod b)) := o_bin h h2 (by simp [binF, hb])
theorem o_remn (h : ev C s x = some (.int k a)) (h2 : ev C s y = some (.int k b)) (hb : 0 ≤ a ∧ 0 < b) : OpV C s ⟨d, .binOp .rem T x y T', ty, pos, aft, gd⟩ [] (.int k (a % b)) := by
  rw [← Int.tmod_eq_emod_of_nonneg hb.1]; exact o_rem h h2 (by omega)
theorem o_shr {k' : IntKind} {n : Nat} (h : ev C s x = some (.int k a)) (h2 : ev C s y = some (.int k' b)) (hb : ¬ b < 0) (hn : min b.toNat k.bits = n) {p : Int} (hp : (2 : Int) ^ n = p) : OpV C s ⟨d, .binOp .shr T x y T', ty, pos, aft, gd⟩ [] (.int k (a / p)) :=
  o_bin h h2 (by subst hp; have hp : (0 : Int) ≤ 2 ^ n := Int.pow_nonneg (by decide); simp only [binF, if_neg hb, hn, Int.fdiv_eq_ediv_of_nonneg _ hp])
theorem o_shl {k' : IntKind} {n : Nat} (h : ev C s x = some (.int k a)) (h2 : ev C s y = some (.int k' b)) (hb : ¬ b < 0) (hn : min b.toNat k.bits = n) {p : Int} (hp : (2 : Int) ^ n = p) (hr : k.wrap (a * p) = r) : OpV C s ⟨d, .binOp .shl T x y T', ty, pos, aft, gd⟩ [] (.int k r) :=
  o_bin h h2 (by subst hp; simp only [binF, if_neg hb, hn, hr])
theorem o_and (h : ev C s x = some (.int k a)) (h2 : ev C s y = some (.int k b)) (hr : k.wrap ((BitVec.ofInt k.bits a &&& BitVec.ofInt k.bits b).toNat) = r) : OpV C s ⟨d, .binOp .and T x y T', ty, pos, aft, gd⟩ [] (.int k r) := o_bin h h2 (by simp only [binF, if_true, hr])
theorem o_or (h : ev C s x = some (.int k a)) (h2 : ev C s y = some (.int k b)) (hr : k.wrap ((BitVec.ofInt k.bits a ||| BitVec.ofInt k.bits b).toNat) = r) : OpV C s ⟨d, .binOp .or T x y T', ty, pos, aft, gd⟩ [] (.int k r) := o_bin h h2 (by simp only [binF, if_true, hr])
theorem o_lss (h : ev C s x = some (.int k a)) (h2 : ev C s y = some (.int k b)) : OpV C s ⟨d, .binOp .lss T x y T', ty, pos, aft, gd⟩ [] (.bool (decide (a < b))) := o_bin h h2 (by simp [binF])
theorem o_leq (h : ev C s x = some (.int k a)) (h2 : ev C s y = some (.int k b)) : OpV C s ⟨d, .binOp .leq T x y T', ty, pos, aft, gd⟩ [] (.bool (decide (a ≤ b))) := o_bin h h2 (by simp [binF])
theorem o_gtr (h : ev C s x = some (.int k a)) (h2 : ev C s y = some (.int k b)) : OpV C s ⟨d, .binOp .gtr T x y T', ty, pos, aft, gd⟩ [] (.bool (decide (b < a))) := o_bin h h2 (by simp [binF])
theorem o_geq (h : ev C s x = some (.int k a)) (h2 : ev C s y = some (.int k b)) : OpV C s ⟨d, .binOp .geq T x y T', ty, pos, aft, gd⟩ [] (.bool (decide (b ≤ a))) := o_bin h h2 (by simp [binF])
theorem o_eql (h : ev C s x = some (.int k a)) (h2 : ev C s y = some (.int k b)) : OpV C s ⟨d, .binOp .eql T x y T', ty, pos, aft, gd⟩ [] (.bool (decide (a = b))) := o_bin h h2 (by simp only [binF, if_true, Option.some.injEq, Value.bool.injEq]; by_cases e : a = b <;> simp [e])
theorem o_neq (h : ev C s x = some (.int k a)) (h2 : ev C s y = some (.int k b)) : OpV C s ⟨d, .binOp .neq T x y T', ty, pos, aft, gd⟩ [] (.bool (decide (a ≠ b))) := o_bin h h2 (by simp only [binF, if_true, Option.some.injEq, Value.bool.injEq]; by_cases e : a = b <;> simp [e])
theorem o_eqlb [ht : TBool C.P T] {b' c' : Bool} (h : ev C s x = some (.bool b')) (h2 : ev C s y = some (.bool c')) {r : Bool} (hr : (b' == c') = r) : OpV C s ⟨d, .binOp .eql T x y T', ty, pos, aft, gd⟩ [] (.bool r) := opv _ _ (by simp) fun ρ w hr' => by
  subst hr
  have := run_eql_bool (P := C.P) w T b' c' ht.h
  simp [execOp, rd1 hr' (x := x) (by simp [Op.operands]) h, rd1 hr' (x := y) (by simp [Op.operands]) h2, eqGuard, Sem.run_bind, Result.andThen, this]
theorem o_neqb [ht : TBool C.P T] {b' c' : Bool} (h : ev C s x = some (.bool b')) (h2 : ev C s y = some (.bool c')) {r : Bool} (hr : (b' != c') = r) : OpV C s ⟨d, .binOp .neq T x y T', ty, pos, aft, gd⟩ [] (.bool r) := opv _ _ (by simp) fun ρ w hr' => by
  subst hr
  have := run_equal_bool (P := C.P) w T b' c' ht.h
  simp [execOp, rd1 hr' (x := x) (by simp [Op.operands]) h, rd1 hr' (x := y) (by simp [Op.operands]) h2, eqGuard, binOp, Sem.run_bind, Result.andThen, this, bne]
theorem o_min (h : ev C s x = some (.int k a)) (h2 : ev C s y = some (.int k b)) {ts : Array TypeId} : OpV C s ⟨d, .call { callee := .builtin .min, args := #[x, y], argTypes := ts }, ty, pos, aft, gd⟩ [] (.int k (if b < a then b else a)) := opv _ _ (by simp) fun ρ w hr => by
  simp [execOp, resolve, rd1 hr (x := x) (by simp [Op.operands, Call.operands]) h, rd1 hr (x := y) (by simp [Op.operands, Call.operands]) h2, invoke, builtin, Builtin.min_, Builtin.min2, Sem.run_bind, Result.andThen]
theorem o_max (h : ev C s x = some (.int k a)) (h2 : ev C s y = some (.int k b)) {ts : Array TypeId} : OpV C s ⟨d, .call { callee := .builtin .max, args := #[x, y], argTypes := ts }, ty, pos, aft, gd⟩ [] (.int k (if a < b then b else a)) := opv _ _ (by simp) fun ρ w hr => by
  simp [execOp, resolve, rd1 hr (x := x) (by simp [Op.operands, Call.operands]) h, rd1 hr (x := y) (by simp [Op.operands, Call.operands]) h2, invoke, builtin, Builtin.max_, Builtin.max2, Sem.run_bind, Result.andThen]

/-! ### pointers -/
theorem o_fld {bl off j n : Nat} [ht : TFld C.P S j n] (h : ev C s x = some (.pointer (some ⟨bl, off, none⟩))) : OpV C s ⟨d, .fieldAddr S x j, ty, pos, aft, gd⟩ [] (.pointer (some ⟨bl, off + n, none⟩)) := opv _ _ (by simp) fun ρ w hr => by
  obtain ⟨fs, fd, hS, hfd, rfl, hsz⟩ := ht.h
  obtain ⟨m, hm, hi⟩ := hsz w
  rw [← addAt]
  simp [execOp, rd1 hr (by simp [Op.operands]) h, Instr.fieldAt, Instr.sureAddr, Sem.run_bind, run_underlying hS, hfd, fieldPlace, hi, hm, Result.andThen]

/-- cells that are known -/
def CellsAt (w : World) (a : Addr) (cs : List Value) : Prop := ∀ j v, cs[j]? = some v → w.cell? (a.add j) = some v
theorem run_loadVar_agg {P : Program} {w : World} {T n : Nat} {a : Addr} {cs : List Value} (ht : TAgg P T n) (hl : cs.length = n) (hc : CellsAt w a cs) : (loadVar T a).run P w = .ok (.agg cs.toArray) w := by
  have h1 : (loadCells a cs.length).run P w = .ok cs.toArray w := by simpa using run_loadCells_list (P := P) w a cs hc
  unfold loadVar
  rw [Sem.run_bind, ht.isAgg]
  simp [Sem.run_bind, ht.sz, ← hl, h1, Result.andThen]
theorem run_loadVar_one {P : Program} {w : World} {T : Nat} {a : Addr} {v : Value} (ht : TOne P T) (hc : w.cell? a = some v) : (loadVar T a).run P w = .ok v w := by
  unfold loadVar
  rw [Sem.run_bind, ht.isAgg]
  simp [Result.andThen, run_load, hc]
theorem Blk.cellsAt {w : World} {b : Nat} {cs : List Value} {T : TypeId} (h : Blk w b cs.toArray T) (off : Nat) (l : List Value) (hl : ∀ j v, l[j]? = some v → cs[off + j]? = some v) : CellsAt w ⟨b, off, none⟩ l := fun j v hv => by
  rw [addAt]; exact h.cell _ v (by simpa using hl j v hv)

theorem o_load1 {bl off key : Nat} {cs : List Value} [ht : TOne C.P T] (h : ev C s x = some (.pointer (some ⟨bl, off, none⟩))) (hm : s.m key = some (.box bl T' cs)) (hv : cs[off]? = some v) : OpV C s ⟨d, .load T x, ty, pos, aft, gd⟩ [key] v :=
  ⟨by simp, fun ρ w hr _ hh => by
    have hb : Blk w bl cs.toArray T' := hh key (by simp) _ hm
    simp [execOp, rd1 hr (x := x) (by simp [Op.operands]) h, Instr.loadAt, Instr.sureAddr, Sem.run_bind, Result.andThen, run_loadVar_one ht (hb.cell off v (by simpa using hv))]⟩
theorem o_loadW {bl key n : Nat} {cs : List Value} [ht : TAgg C.P T n] (h : ev C s x = some (.pointer (some ⟨bl, 0, none⟩))) (hm : s.m key = some (.box bl T' cs)) (hl : cs.length = n) : OpV C s ⟨d, .load T x, ty, pos, aft, gd⟩ [key] (.agg cs.toArray) :=
  ⟨by simp, fun ρ w hr _ hh => by
    have hb : Blk w bl cs.toArray T' := hh key (by simp) _ hm
    simp [execOp, rd1 hr (x := x) (by simp [Op.operands]) h, Instr.loadAt, Instr.sureAddr, Sem.run_bind, Result.andThen, run_loadVar_agg ht hl (hb.cellsAt 0 cs fun j v hj => by simpa using hj)]⟩
theorem o_loadP {bl off key n : Nat} {cs rs : List Value} [ht : TAgg C.P T n] (h : ev C s x = some (.pointer (some ⟨bl, off, none⟩))) (hm : s.m key = some (.box bl T' cs)) (hr' : (cs.drop off).take n = rs) (hl : rs.length = n) : OpV C s ⟨d, .load T x, ty, pos, aft, gd⟩ [key] (.agg rs.toArray) :=
  ⟨by simp, fun ρ w hr _ hh => by
    have hb : Blk w bl cs.toArray T' := hh key (by simp) _ hm
    simp [execOp, rd1 hr (x := x) (by simp [Op.operands]) h, Instr.loadAt, Instr.sureAddr, Sem.run_bind, Result.andThen, run_loadVar_agg ht hl (hb.cellsAt off rs fun j v hj => by
      subst hr'
      rw [List.getElem?_take] at hj
      split at hj
      · rw [List.getElem?_drop] at hj; exact hj
      · cases hj)]⟩
/-- of memory that nobody turns -/
theorem o_loadG1 {ad : Addr} [ht : TOne C.P T] (h : ev C s x = some (.pointer (some ad))) (hg : ∀ w, s.g w → w.cell? ad = some v) : OpV C s ⟨d, .load T x, ty, pos, aft, gd⟩ [] v :=
  ⟨by simp, fun ρ w hr hg' _ => by
    simp [execOp, rd1 hr (x := x) (by simp [Op.operands]) h, Instr.loadAt, Instr.sureAddr, Sem.run_bind, Result.andThen, run_loadVar_one ht (hg w hg')]⟩
theorem o_loadGA {ad : Addr} {n : Nat} {cs : List Value} [ht : TAgg C.P T n] (h : ev C s x = some (.pointer (some ad))) (hl : cs.length = n) (hg : ∀ w, s.g w → CellsAt w ad cs) : OpV C s ⟨d, .load T x, ty, pos, aft, gd⟩ [] (.agg cs.toArray) :=
  ⟨by simp, fun ρ w hr hg' _ => by
    simp [execOp, rd1 hr (x := x) (by simp [Op.operands]) h, Instr.loadAt, Instr.sureAddr, Sem.run_bind, Result.andThen, run_loadVar_agg ht hl (hg w hg')]⟩

theorem o_store {bl off key : Nat} {cs xs rs : List Value} {n : Nat} (hsz : ∀ w, (sizeOf T).run C.P w = .ok n w) (h : ev C s x = some (.pointer (some ⟨bl, off, none⟩))) (h2 : ev C s y = some v) (hx : v.cells.toList = xs) (hm : s.m key = some (.box bl T' cs)) (hn : xs.length = n)
    (hle : off + n ≤ cs.length) (h1 : xs.all (·.oneCell') = true) (hr' : cs.take off ++ xs ++ cs.drop (off + n) = rs) : OpS C s ⟨d, .store T x y, ty, pos, aft, gd⟩ key (.box bl T' cs) (.box bl T' rs) :=
  ⟨by simp, hm, rfl, fun ρ w hr hb => by
    have hb : Blk w bl cs.toArray T' := hb
    subst hr' hx
    have hst := run_storeCells_at (P := C.P) bl off T' v.cells.toList 0 cs.toArray w hb (by simp; simp at hn; omega) (fun v hv => (List.all_eq_true.1 h1) v hv)
    simp only [Nat.add_zero, Array.length_toList] at hst
    have hvs : v.cells.size = n := by simpa using hn
    refine ⟨w.setRow bl (cs.take off ++ v.cells.toList ++ cs.drop (off + n)).toArray, ?_, setRow_heap w bl cs.toArray _ _ _ hb, (Chg.setRow w bl _).mono fun k _ hk => by simp [Hp.blk, hk]⟩
    have hrow : (storeVar T ⟨bl, off, none⟩ v).run C.P w = .ok () (w.setRow bl (cs.take off ++ v.cells.toList ++ cs.drop (off + n)).toArray) := by
      unfold storeVar
      simp [Sem.run_bind, hsz, Result.andThen, hvs] at hst ⊢
      rw [hst]
    simp [execOp, rd1 hr (x := x) (by simp [Op.operands]) h, rd1 hr (x := y) (by simp [Op.operands]) h2, Instr.storeAt, Instr.sureAddr, Sem.run_bind, Result.andThen, hrow]⟩
theorem o_storeW {bl key n : Nat} {cs xs : List Value} [ht : TAgg C.P T n] (h : ev C s x = some (.pointer (some ⟨bl, 0, none⟩))) (h2 : ev C s y = some v) (hx : v.cells.toList = xs) (hm : s.m key = some (.box bl T' cs)) (hn : xs.length = n) (hc : cs.length = n) (h1 : xs.all (·.oneCell') = true) :
    OpS C s ⟨d, .store T x y, ty, pos, aft, gd⟩ key (.box bl T' cs) (.box bl T' xs) := o_store ht.sz h h2 hx hm hn (by omega) h1 (by simp [hc])
theorem o_storeP {bl off key n : Nat} {cs xs rs : List Value} [ht : TAgg C.P T n] (h : ev C s x = some (.pointer (some ⟨bl, off, none⟩))) (h2 : ev C s y = some v) (hx : v.cells.toList = xs) (hm : s.m key = some (.box bl T' cs)) (hn : xs.length = n)
    (hle : Nat.ble (off + n) cs.length = true) (h1 : xs.all (·.oneCell') = true) (hr' : cs.take off ++ xs ++ cs.drop (off + n) = rs) : OpS C s ⟨d, .store T x y, ty, pos, aft, gd⟩ key (.box bl T' cs) (.box bl T' rs) := o_store ht.sz h h2 hx hm hn (Nat.le_of_ble_eq_true hle) h1 hr'
theorem o_store1 {bl off key : Nat} {cs rs : List Value} [ht : TOne C.P T] (h : ev C s x = some (.pointer (some ⟨bl, off, none⟩))) (h2 : ev C s y = some v) (hx : v.cells.toList = [v]) (hm : s.m key = some (.box bl T' cs))
    (hle : Nat.ble (off + 1) cs.length = true) (h1 : v.oneCell' = true) (hr' : cs.set off v = rs) : OpS C s ⟨d, .store T x y, ty, pos, aft, gd⟩ key (.box bl T' cs) (.box bl T' rs) :=
  o_store ht.sz h h2 hx hm rfl (Nat.le_of_ble_eq_true hle) (by simp [h1]) (by
    have hlt : off < cs.length := Nat.le_of_ble_eq_true hle
    rw [← hr', List.set_eq_take_append_cons_drop, if_pos hlt]; simp)

theorem o_alloc {zs : List Value} [hz : TZero C.P T zs] : OpN C s ⟨d, .alloc T, ty, pos, aft, gd⟩ (fun b => .pointer (some ⟨b, 0, none⟩)) T zs :=
  ⟨by simp, fun ρ w hr => by
    obtain ⟨v, h1, h2⟩ := hz.h w
    subst h1
    simp [execOp, Instr.alloc, newVar, newRow, Sem.run_bind, h2, Result.andThen, run_newObj_alloc]⟩
theorem o_box {cs : List Value} (h : ev C s x = some v) (hc : v.cells.toList = cs) : OpN C s ⟨d, .box T x, ty, pos, aft, gd⟩ (fun b => .pointer (some ⟨b, 0, none⟩)) T cs :=
  ⟨by simp, fun ρ w hr => by
    subst hc
    simp [execOp, Instr.box, newVar, newRow, Sem.run_bind, rd1 hr (x := x) (by simp [Op.operands]) h, Result.andThen, run_newObj_alloc]⟩

def evs (C : Cx) (s : St) : List Operand → Option (List Value)
  | [] => some []
  | x :: r => match ev C s x, evs C s r with | some v, some l => some (v :: l) | _, _ => none
theorem evs_ok {ρ : Operand → Value} : ∀ (xs : List Operand) (vs : List Value), (∀ x ∈ xs, ∀ v, ev C s x = some v → ρ x = v) → evs C s xs = some vs → xs.map ρ = vs
  | [], vs, _, h => by simp [evs] at h; simp [h]
  | x :: xs, vs, hr, h => by
    simp only [evs] at h
    split at h
    · rename_i v l hv hl
      cases h
      simp [hr x List.mem_cons_self v hv, evs_ok xs l (fun x hx => hr x (List.mem_cons_of_mem _ hx)) hl]
    · cases h
def splice : List Value → Nat → List Value → List Value
  | zs, _, [] => zs
  | zs, off, c :: cs => splice (zs.set off c) (off + 1) cs
def fillL (pl : List (Nat × Nat)) : List Value → List (Nat × Value) → Option (List Value)
  | zs, [] => some zs
  | zs, (i, v) :: r => match pl[i]? with
    | some (off, n) => (match Nat.beq v.cells.toList.length n && Nat.ble (off + n) zs.length with | true => fillL pl (splice zs off v.cells.toList) r | false => none)
    | none => none
theorem splice_ok : ∀ (cs : List Value) (zs : Array Value) (off k : Nat), ((cs.zipIdx k).foldl (fun cs (p : Value × Nat) => cs.setIfInBounds (off + p.2) p.1) zs).toList = splice zs.toList (off + k) cs
  | [], zs, off, k => rfl
  | c :: cs, zs, off, k => by
    rw [List.zipIdx_cons, List.foldl_cons, splice_ok cs _ off (k + 1)]
    simp only [splice, Array.toList_setIfInBounds]
    rfl
theorem splice_len : ∀ (cs zs : List Value) (off : Nat), (splice zs off cs).length = zs.length
  | [], zs, off => rfl
  | c :: cs, zs, off => by simp [splice, splice_len cs]
theorem fillL_ok (pl : List (Nat × Nat)) : ∀ (ps : List (Nat × Value)) (zs : List Value) (rs : List Value), fillL pl zs ps = some rs → Instr.fill (pl.toArray[·]?) zs.toArray ps = some rs.toArray
  | [], zs, rs, h => by simp only [fillL, Option.some.injEq] at h; subst h; rfl
  | (i, v) :: r, zs, rs, h => by
    simp only [fillL] at h
    split at h
    · rename_i off n hp
      split at h
      · rename_i hc
        simp only [Bool.and_eq_true] at hc
        have h1 : v.cells.size = n := by simpa using Nat.eq_of_beq_eq_true hc.1
        have h2 : off + n ≤ zs.length := Nat.le_of_ble_eq_true hc.2
        have ih := fillL_ok pl r _ rs h
        have hp' : (pl.toArray)[i]? = some (off, n) := by simpa using hp
        simp only [Instr.fill, hp']
        rw [if_neg (by simp [h1]; omega), ← ih]
        congr 1
        apply Array.ext'
        have := splice_ok v.cells.toList zs.toArray off 0
        simp only [Nat.add_zero] at this
        rw [← this, ← Array.foldl_toList, Array.toList_zipIdx]
      · cases h
    · cases h
theorem o_build {places : List (Nat × Nat)} {zs : List Value} [ht : TBuild C.P T places zs] {ps : Array (Nat × Operand)} {vs : List Value} {cs : List Value} (h : evs C s (ps.toList.map (·.2)) = some vs)
    (hr' : fillL places zs ((ps.toList.map (·.1)).zip vs) = some cs) : OpV C s ⟨d, .build T ps, ty, pos, aft, gd⟩ [] (.agg cs.toArray) := opv _ _ (by simp) fun ρ w hr => by
  have h1 := evs_ok (C := C) (s := s) (ρ := ρ) (ps.toList.map (·.2)) vs (fun x hx v hv => rd1 hr (x := x) (by simpa [Op.operands] using hx) hv) h
  have hps : (ps.map fun p => (p.1, ρ p.2)).toList = (ps.toList.map (·.1)).zip vs := by
    rw [Array.toList_map, ← h1, List.map_map, List.zip_map']
    rfl
  have hb := run_build (P := C.P) w T (ps.map fun p => (p.1, ρ p.2)) cs.toArray (by rw [hps, ht.h]; exact fillL_ok _ _ _ _ hr')
  have : (execOp ρ ⟨d, .build T ps, ty, pos, aft, gd⟩) = (do pure (.value (← Instr.build T (ps.map fun p => (p.1, ρ p.2)))) : Sem Next) := by simp only [execOp]
  rw [this, Sem.run_bind, hb]; rfl
end Go.Proofs.Ytaijclimdfchfaa
