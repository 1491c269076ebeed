import Derived.Test.YtaijclimdfchfaaKF
/- Calls that make rows; a row that is written; a range over a function, from both sides. Conditions: none. -/
namespace Go.Proofs.Ytaijclimdfchfaa
open Go.Proofs Go.RowKit

variable {C : Cx} {K : Exit → St → Prop} {ops : Array Oper} {rest : List Oper} {l l' : List (Nat × Value)} {m m' : List (Nat × Hp)} {g : World → Prop} {gb : Nat → Prop} {dd : List Nat}
  {i : Nat} {d : Option Nat} {op : Op} {ty : TypeId} {pos : String} {aft : Array Edge} {gd : Option (Nat × Bool)} {ks : List Nat} {y : Value} {T T' E : TypeId} {s : St} {x z : Operand} {v u : Value} {n esz j : Nat} {xs : List Value}
  {a : Act} {w w' : World} {f : Nat} {cal : Operand} {as_ : Array Operand} {ts : Array TypeId} {vs : List Value}

/-- a row that a call has made -/
def OwnAt (B : Nat) (w : World) (v : Value) (E : TypeId) (esz n : Nat) (xs : List Value) : Prop := (Hp.own v E esz n xs).ok w ∧ ∀ b, v.ownBlock = some b → B ≤ b
theorem OwnAt.row {B : Nat} (h : OwnAt B w v E esz n xs) : RowAt w v esz n xs := rowAt_own h.1
theorem OwnAt.rowV {B : Nat} (h : OwnAt B w v E esz n xs) : RowV v n := rowV_own h.1

theorem call_step {caps : Array Value} {R : Value → World → Prop} {K : Act → World → Prop} {Q : Exit → Act → World → Prop} (hr : Rep C s a w) (hcal : ev C s cal = some (.func (.func f) #[] caps)) (hent : ∀ args w, (callFunc f args).run C.P w = .ok (.enter f args) w) (hargs : evs C s as_.toList = some vs)
    (hc : Calls C.P f (vs.toArray ++ caps) w fun e w' => ∃ y, e = .returned y ∧ R y w') (hK : ∀ y w', R y w' → K (a.put d y) w') :
    (⟨d, .call { callee := .value cal, args := as_, argTypes := ts }, ty, pos, aft, gd⟩ : Oper).wpIn C.F C.n C.P a w K Q := by
  refine wpIn_enter (f := f) (args := vs.toArray ++ caps) (by simp) ?_ hc hK
  rw [run_callTo (ev_ok hr hcal) (args_of (d := d) (ty := ty) (pos := pos) (aft := aft) (gd := gd) (cal := cal) (ts := ts) (reads_of hr) hargs)]
  exact hent _ w

/-- a call that makes a row and turns nothing -/
theorem l_gown (hw : wantS C (mk l m g gb dd) ops ⟨some i, .call { callee := .value cal, args := as_, argTypes := ts }, ty, pos, aft, gd⟩ = some true) {caps : Array Value} (hcal : ev C (mk l m g gb dd) cal = some (.func (.func f) #[] caps)) (hent : ∀ args w, (callFunc f args).run C.P w = .ok (.enter f args) w) (hargs : evs C (mk l m g gb dd) as_.toList = some vs)
    (hc : ∀ w, g w → Held (mk l m g gb dd) ks w → Calls C.P f (vs.toArray ++ caps) w fun e w' => ∃ y, e = .returned y ∧ Below w.heap.size w w' ∧ OwnAt w.heap.size w' y E esz n xs)
    (next : ∀ y, RowV y n → VL C ops rest K (mk ((i, y) :: l) ((i, .own y E esz n xs) :: m) g gb dd)) : VL C ops (⟨some i, .call { callee := .value cal, args := as_, argTypes := ts }, ty, pos, aft, gd⟩ :: rest) K (mk l m g gb dd) :=
  vl_step hw fun a w hr => call_step (R := fun y w' => Below w.heap.size w w' ∧ OwnAt w.heap.size w' y E esz n xs) hr hcal hent hargs ((hc w hr.gh (held_of hr ks)).mono fun e w' ⟨y, h1, h2, h3⟩ => ⟨y, h1, h2, h3⟩) fun y w' ⟨h1, h2⟩ =>
    ⟨mk ((i, y) :: l) ((i, .own y E esz n xs) :: m) g gb dd, by rw [← mk_put]; exact rep_put (rep_newOwn hr h1 h2.1 (fun b hb => h2.2 b hb) i) (some i) y, next y h2.rowV⟩
/-- a call that turns a row of ours, and hands one back in its place -/
theorem l_gmut (key : Nat) (keep : List Nat) {n0 : Nat} {xs0 : List Value} {E0 e0 : Nat} (hw : wantS C (mk l m g gb dd) ops ⟨some i, .call { callee := .value cal, args := as_, argTypes := ts }, ty, pos, aft, gd⟩ = some true) {caps : Array Value} (hcal : ev C (mk l m g gb dd) cal = some (.func (.func f) #[] caps)) (hent : ∀ args w, (callFunc f args).run C.P w = .ok (.enter f args) w) (hargs : evs C (mk l m g gb dd) as_.toList = some vs)
    (hk : lk m key = some (.own v E0 e0 n0 xs0)) (hs : sel keep m = some m') (hkeep : keep.contains key = false)
    (hc : ∀ w, g w → Held (mk l m g gb dd) ks w → (Hp.own v E0 e0 n0 xs0).ok w → Calls C.P f (vs.toArray ++ caps) w fun e w' => ∃ y, e = .returned y ∧ Chg (fun b => v.ownBlock = some b) w w' ∧ (Hp.own y E esz n xs).ok w' ∧ ∀ b, y.ownBlock = some b → v.ownBlock = some b ∨ w.heap.size ≤ b)
    (next : ∀ y, RowV y n → VL C ops rest K (mk ((i, y) :: l) ((i, .own y E esz n xs) :: m') g gb dd)) : VL C ops (⟨some i, .call { callee := .value cal, args := as_, argTypes := ts }, ty, pos, aft, gd⟩ :: rest) K (mk l m g gb dd) :=
  vl_step hw fun a w hr => call_step (R := fun y w' => Chg (fun b => v.ownBlock = some b) w w' ∧ (Hp.own y E esz n xs).ok w' ∧ ∀ b, y.ownBlock = some b → v.ownBlock = some b ∨ w.heap.size ≤ b) hr hcal hent hargs ((hc w hr.gh (held_of hr ks) (hr.mo key _ hk).1).mono fun e w' ⟨y, h1, h2, h3, h4⟩ => ⟨y, h1, h2, h3, h4⟩) fun y w' ⟨h1, h2, h3⟩ =>
    ⟨mk ((i, y) :: l) ((i, .own y E esz n xs) :: m') g gb dd, by rw [← mk_put]; exact rep_put (rep_ownL hr hk h1 h2 h3 i keep hs hkeep) (some i) y, next y (rowV_own h2)⟩
/-- the same, where nothing is handed back -/
theorem l_gmut0 (key : Nat) {xs0 : List Value} (hw : wantS C (mk l m g gb dd) ops ⟨d, .call { callee := .value cal, args := as_, argTypes := ts }, ty, pos, aft, gd⟩ = some true) {caps : Array Value} (hcal : ev C (mk l m g gb dd) cal = some (.func (.func f) #[] caps)) (hent : ∀ args w, (callFunc f args).run C.P w = .ok (.enter f args) w) (hargs : evs C (mk l m g gb dd) as_.toList = some vs)
    (hk : lk m key = some (.own v E esz n xs0))
    (hc : ∀ w, g w → Held (mk l m g gb dd) ks w → (Hp.own v E esz n xs0).ok w → Calls C.P f (vs.toArray ++ caps) w fun e w' => (∃ y, e = .returned y) ∧ Chg (fun b => v.ownBlock = some b) w w' ∧ (Hp.own v E esz n xs).ok w')
    (next : ∀ y, VL C ops rest K ((mk l ((key, .own v E esz n xs) :: m) g gb dd).put d y)) : VL C ops (⟨d, .call { callee := .value cal, args := as_, argTypes := ts }, ty, pos, aft, gd⟩ :: rest) K (mk l m g gb dd) :=
  vl_step hw fun a w hr => call_step (R := fun y w' => Chg (fun b => v.ownBlock = some b) w w' ∧ (Hp.own v E esz n xs).ok w') hr hcal hent hargs ((hc w hr.gh (held_of hr ks) (hr.mo key _ hk).1).mono fun e w' ⟨⟨y, h1⟩, h2, h3⟩ => ⟨y, h1, h2, h3⟩) fun y w' ⟨h1, h2⟩ =>
    ⟨(mk l ((key, .own v E esz n xs) :: m) g gb dd).put d y, rep_put (by
      have := rep_store hr (k := key) (h' := .own v E esz n xs) hk rfl h2 h1
      rwa [mk_mem] at this) d y, next y⟩
/-- a call that makes a box and turns nothing -/
theorem l_gbox {X : Nat → Value} {cs : List Value} (hw : wantS C (mk l m g gb dd) ops ⟨some i, .call { callee := .value cal, args := as_, argTypes := ts }, ty, pos, aft, gd⟩ = some true) {caps : Array Value} (hcal : ev C (mk l m g gb dd) cal = some (.func (.func f) #[] caps)) (hent : ∀ args w, (callFunc f args).run C.P w = .ok (.enter f args) w) (hargs : evs C (mk l m g gb dd) as_.toList = some vs)
    (hc : ∀ w, g w → Held (mk l m g gb dd) ks w → Calls C.P f (vs.toArray ++ caps) w fun e w' => ∃ b, e = .returned (X b) ∧ Below w.heap.size w w' ∧ Blk w' b cs.toArray T ∧ w.heap.size ≤ b)
    (next : ∀ b, VL C ops rest K (mk ((i, X b) :: l) ((i, .box b T cs) :: m) g gb dd)) : VL C ops (⟨some i, .call { callee := .value cal, args := as_, argTypes := ts }, ty, pos, aft, gd⟩ :: rest) K (mk l m g gb dd) :=
  vl_step hw fun a w hr => call_step (R := fun y w' => ∃ b, y = X b ∧ Below w.heap.size w w' ∧ Blk w' b cs.toArray T ∧ w.heap.size ≤ b) hr hcal hent hargs ((hc w hr.gh (held_of hr ks)).mono fun e w' ⟨b, h1, h2⟩ => ⟨_, h1, b, rfl, h2⟩) fun y w' ⟨b, h0, h1, h2, h3⟩ =>
    ⟨mk ((i, X b) :: l) ((i, .box b T cs) :: m) g gb dd, by subst h0; rw [← mk_put]; exact rep_put (rep_newOwn hr h1 (h1 := .box b T cs) h2 (fun b' hb => by cases hb; exact h3) i) (some i) _, next b⟩

/-! ### what nobody turns any more -/
theorem rep_freeze (hr : Rep C (mk l m g gb dd) a w) {key : Nat} {h : Hp} (hk : lk m key = some h) (keep : List Nat) (hs : sel keep m = some m') (hkeep : keep.contains key = false) : Rep C (mk l m' (fun w => g w ∧ h.ok w) (fun b => gb b ∨ h.blk = some b) dd) a w := by
  have hm : ∀ k p, lk m' k = some p → lk m k = some p ∧ k ≠ key := fun k p hp => ⟨sel_ok keep m' hs k p hp, fun e => by
    subst e; have := sel_key keep m' hs k p hp; simp at hkeep; exact hkeep this⟩
  have hok := (hr.mo key h hk).1
  refine ⟨hr.dfs, hr.dd, fun D hD => ⟨(hr.dg D hD).1, fun h' => ?_⟩, hr.dn, hr.sz, hr.tm, fun k p hp => hr.mo k p (hm k p hp).1, fun k k' p p' b e e' => hr.inj k k' p p' b (hm _ _ e).1 (hm _ _ e').1, ⟨hr.gh, hok⟩, fun b hb => ?_, fun w1 w2 hc hg => ?_, hr.fr, hr.ko⟩
  · rcases h' with h' | h'
    · exact (hr.dg D hD).2 h'
    · obtain ⟨o, h1, h2⟩ := Hp.isCells hok h'
      rw [hr.dd D hD] at h1; cases h1; cases h2
  · rcases hb with hb | hb
    · exact ⟨(hr.gd b hb).1, fun k p hp => (hr.gd b hb).2 k p (hm k p hp).1⟩
    · exact ⟨Hp.lt hok hb, fun k p hp e => (hm k p hp).2 (hr.inj k key p h b (hm k p hp).1 hk e hb)⟩
  · refine ⟨hr.st w1 w2 (hc.mono fun k _ hn => fun h => hn (.inl h)) hg.1, Hp.keep hg.2 fun b hb => hc.block b (Hp.lt hg.2 hb) fun hn => hn (.inr hb)⟩
theorem l_freeze (key : Nat) (keep : List Nat) {h : Hp} (hk : lk m key = some h) (hs : sel keep m = some m') (hkeep : keep.contains key = false) (next : VL C ops rest K (mk l m' (fun w => g w ∧ h.ok w) (fun b => gb b ∨ h.blk = some b) dd)) : VL C ops rest K (mk l m g gb dd) :=
  fun a w hr => next a w (rep_freeze hr hk keep hs hkeep)
theorem v_freeze (key : Nat) (keep : List Nat) {c : Code} {h : Hp} (hk : lk m key = some h) (hs : sel keep m = some m') (hkeep : keep.contains key = false) (next : V C c K (mk l m' (fun w => g w ∧ h.ok w) (fun b => gb b ∨ h.blk = some b) dd)) : V C c K (mk l m g gb dd) :=
  fun a w hr => next a w (rep_freeze hr hk keep hs hkeep)

/-! ### a row that is written -/
theorem setRow_row {w : World} {g : Nat} {cur : Array Value} {E : TypeId} (hg : w.heap[g]? = some (.cells cur E (0, 0))) (rs : Array Value) : (w.setRow g rs).heap[g]? = some (.cells rs E (0, 0)) := setRow_heap w g cur rs _ _ hg
theorem take_splice {α : Type} (cl news : List α) (off N : Nat) (h : off + news.length ≤ N) (hN : N ≤ cl.length) : (cl.take off ++ news ++ cl.drop (off + news.length)).take N = (cl.take N).take off ++ news ++ (cl.take N).drop (off + news.length) := by
  have e1 : (cl.take off).length = off := by rw [List.length_take]; omega
  rw [List.append_assoc, List.take_append, e1, List.take_append, List.take_of_length_le (l := cl.take off) (by omega), List.take_of_length_le (l := news) (by omega), List.take_take, Nat.min_eq_left (by omega), List.drop_take, List.append_assoc, Nat.sub_sub]
/-- cells of a row are stored -/
theorem own_store {P : Program} {w : World} (hok : (Hp.own v E esz n xs).ok w) (off : Nat) (news : List Value) (hle : off + news.length ≤ xs.length) (h1 : ∀ u ∈ news, u.oneCell' = true) (hne : news ≠ []) :
    ∃ w', (storeCells ⟨blkOf v, offOf v + off, none⟩ news).run P w = .ok () w' ∧ (Hp.own v E esz n (xs.take off ++ news ++ xs.drop (off + news.length))).ok w' ∧ Chg (fun b => v.ownBlock = some b) w w' := by
  have hpos : 0 < news.length := List.length_pos_iff.2 hne
  have hone : ∀ u ∈ xs.take off ++ news ++ xs.drop (off + news.length), u.oneCell' = true := fun u hu => by
    rcases List.mem_append.1 hu with hu | hu
    · rcases List.mem_append.1 hu with hu | hu
      · exact hok.2 u (List.mem_of_mem_take hu)
      · exact h1 u hu
    · exact hok.2 u (List.mem_of_mem_drop hu)
  rcases hok.1.2 with ⟨rfl, rfl⟩ | ⟨g, cap, cur, rfl, h0, hg, hnc, hcm, hcs, htake⟩
  · have hxs : xs.length = 0 := by simpa using hok.1.1
    omega
  · have hxl := hok.1.1
    have hfit : off + news.length ≤ cur.size := by
      rw [hcs]; have := Nat.mul_le_mul_right esz hnc; omega
    have hst := run_storeCells_at (P := P) g off E news 0 cur w hg (by simpa using hfit) h1
    simp only [Nat.add_zero] at hst
    refine ⟨_, by simpa [blkOf, offOf] using hst, ⟨⟨by simp; omega, .inr ⟨g, cap, _, rfl, h0, setRow_row hg _, hnc, hcm, by simp; omega, ?_⟩⟩, hone⟩, (Chg.setRow w g _).mono fun k _ hk => by simp [Value.ownBlock, hk]⟩
    rw [← htake]
    have e := take_splice cur.toList news off (n * esz) (by omega) (by simp [hcs]; exact Nat.mul_le_mul_right _ hnc)
    simpa [List.append_assoc] using e
theorem o_storeRE {key : Nat} {c : List Value} [ht : TAgg C.P T esz] (hesz : 0 < esz) (h : ev C s x = some (.pointer (some ⟨blkOf v, offOf v + j * esz, none⟩))) (h2 : ev C s z = some u) (hc : u.cells.toList = c) (hcl : c.length = esz) (h1 : c.all (·.oneCell') = true) (hm : s.m key = some (.own v E esz n xs)) (hlt : j < n) :
    OpS C s ⟨d, .store T x z, ty, pos, aft, gd⟩ key (.own v E esz n xs) (.own v E esz n (xs.take (j * esz) ++ c ++ xs.drop (j * esz + esz))) :=
  ⟨by simp, hm, rfl, fun ρ w hr hok => by
    have hxl := (show (Hp.own v E esz n xs).ok w from hok).1.1
    have hmul : j * esz + esz ≤ n * esz := by rw [← Nat.succ_mul]; exact Nat.mul_le_mul_right _ hlt
    obtain ⟨w', h3, h4, h5⟩ := own_store (P := C.P) hok (j * esz) c (by rw [hxl, hcl]; exact hmul) (fun u hu => List.all_eq_true.1 h1 u hu) (by intro e; subst e; simp at hcl; omega)
    rw [hcl] at h4
    refine ⟨w', ?_, h4, h5⟩
    have hus : u.cells.size = esz := by rw [← hcl, ← hc]; rfl
    have hrow : (storeVar T ⟨blkOf v, offOf v + j * esz, none⟩ u).run C.P w = .ok () w' := by
      unfold storeVar
      rw [Sem.run_bind, ht.sz]
      simp [Result.andThen, hus, hc, h3]
    simp [execOp, rd1 hr (x := x) (by simp [Op.operands]) h, rd1 hr (x := z) (by simp [Op.operands]) h2, Instr.storeAt, Instr.sureAddr, Sem.run_bind, Result.andThen, hrow]⟩

/-! ### a slice of a slice -/
def subFrom (v : Value) (esz lo : Nat) : Value := match v with | .slice a n c => .slice (if c = lo then a else a.map (·.add (lo * esz))) (n - lo) (c - lo) | v => v
def subTo (v : Value) (hi : Nat) : Value := match v with | .slice a _ c => .slice a hi c | v => v
theorem o_sliceFrom {k : IntKind} {q : Int} {lo : Nat} [ht : TSl C.P T E esz] (h : ev C s x = some v) (hv : RowV v n) (h2 : ev C s z = some (.int k q)) (hq : q = ((lo : Nat) : Int)) (hle : lo ≤ n) : OpV C s ⟨d, .slice T x (some z) none none, ty, pos, aft, gd⟩ [] (subFrom v esz lo) := opv _ _ (by simp) fun ρ w hr => by
  have hx := rd1 hr (x := x) (by simp [Op.operands]) h
  have hz := rd1 hr (x := z) (by simp [Op.operands]) h2
  subst hq
  obtain ⟨b, c, rfl⟩ := hv.sl
  have h3 : (lo : Int) ≤ n := by omega
  simp [execOp, hx, hz, Instr.sliceAt, Instr.slice, Instr.sliceBounds, Instr.sliceBound, asIntOf, Sem.run_bind, run_underlying ht.h, hle, ht.sz, Result.andThen, subFrom]
theorem run_sliceTo {P : Program} {w : World} [ht : TSl P T E esz] {k : IntKind} {hi c : Nat} {b : Option Addr} (n : Nat) (hle : hi ≤ c) : (Instr.sliceAt T (.slice b n c) none (some (.int k hi)) none).run P w = .ok (.slice b hi c) w := by
  have h3 : (hi : Int) ≤ c := by omega
  have e : (if c = 0 then b else Option.map (fun x => x.add 0) b) = b := by
    split
    · rfl
    · cases b <;> simp [Addr.add]
  simp [Instr.sliceAt, Instr.slice, Instr.sliceBounds, Instr.sliceBound, asIntOf, Sem.run_bind, run_underlying ht.h, hle, ht.sz, Result.andThen, e]
/-- a row is cut: its first elements -/
theorem l_cutTo (key keep : _) {k : IntKind} {q : Int} (hi : Nat) [ht : TSl C.P T E esz] (hw : wantS C (mk l m g gb dd) ops ⟨some i, .slice T x none (some z) none, ty, pos, aft, gd⟩ = some true) (h : ev C (mk l m g gb dd) x = some v) (hk : lk m key = some (.own v E esz n xs)) (h2 : ev C (mk l m g gb dd) z = some (.int k q))
    (hs : sel keep m = some m') (hkeep : keep.contains key = false) (hq : q = ((hi : Nat) : Int)) (hle : hi ≤ n) (next : ∀ v', RowV v' hi → VL C ops rest K (mk ((i, v') :: l) ((i, .own v' E esz hi (xs.take (hi * esz))) :: m') g gb dd)) : VL C ops (⟨some i, .slice T x none (some z) none, ty, pos, aft, gd⟩ :: rest) K (mk l m g gb dd) :=
  vl_step hw fun a w hr => by
    have hx : a.eval x = v := ev_ok hr h
    have hz : a.eval z = .int k hi := by subst hq; exact ev_ok hr h2
    have hok : (Hp.own v E esz n xs).ok w := (hr.mo key _ hk).1
    have hone := oneCell_take hok.2 (hi * esz)
    have main : ∃ v', (Instr.sliceAt T v none (some (.int k hi)) none).run C.P w = .ok v' w ∧ (Hp.own v' E esz hi (xs.take (hi * esz))).ok w ∧ v'.ownBlock = v.ownBlock := by
      rcases hok.1.2 with ⟨rfl, rfl⟩ | ⟨g', cap, cur, rfl, h0, hg, hnc, hcm, hcs, htake⟩
      · have : hi = 0 := by omega
        subst this
        exact ⟨_, run_sliceTo 0 (Nat.le_refl 0), ⟨⟨by simp, .inl ⟨rfl, rfl⟩⟩, hone⟩, rfl⟩
      · refine ⟨_, run_sliceTo n (by omega), ⟨⟨?_, .inr ⟨g', cap, cur, rfl, h0, hg, by omega, hcm, hcs, ?_⟩⟩, hone⟩, rfl⟩
        · rw [List.length_take, hok.1.1, Nat.min_eq_left (Nat.mul_le_mul_right _ hle)]
        · rw [← htake, List.take_take, Nat.min_eq_left (Nat.mul_le_mul_right _ hle)]
    obtain ⟨v', h3, h4, h5⟩ := main
    refine wpIn_value (y := v') (w' := w) (by simp) ?_ ⟨mk ((i, v') :: l) ((i, .own v' E esz hi (xs.take (hi * esz))) :: m') g gb dd, ?_, next v' (rowV_own h4)⟩
    · simp [execOp, hx, hz, h3, Sem.run_bind, Result.andThen]
    · rw [← mk_put]
      exact rep_put (rep_ownL hr hk (h1 := .own v' E esz hi (xs.take (hi * esz))) (Chg.refl _ w) h4 (fun b hb => .inl (h5.symm.trans hb)) i keep hs hkeep) (some i) v'
/-- the tail of a row is cleared -/
theorem l_clear (key : Nat) {ts lo by_ : Nat} {zv : Value} {zs : List Value} [ht : TSl C.P ts E esz] [he : TElem C.P E zv esz by_] (hw : wantS C (mk l m g gb dd) ops ⟨none, .call { callee := .builtin .clear, args := #[x], argTypes := #[ts] }, ty, pos, aft, gd⟩ = some true)
    (h : ev C (mk l m g gb dd) x = some (subFrom v esz lo)) (hk : lk m key = some (.own v E esz n xs)) (hzs : zv.cells.toList = zs) (h1 : zs.all (·.oneCell') = true) (hle : lo ≤ n)
    (next : VL C ops rest K (mk l ((key, .own v E esz n (xs.take (lo * esz) ++ zerosOf zs (n - lo))) :: m) g gb dd)) : VL C ops (⟨none, .call { callee := .builtin .clear, args := #[x], argTypes := #[ts] }, ty, pos, aft, gd⟩ :: rest) K (mk l m g gb dd) :=
  vl_step hw fun a w hr => by
    have hx : a.eval x = subFrom v esz lo := ev_ok hr h
    have hok : (Hp.own v E esz n xs).ok w := (hr.mo key _ hk).1
    subst hzs
    obtain ⟨ie, hi, hz, hs2, hb⟩ := he.h
    have hzv : ∀ w : World, (zeroValue E).run C.P w = .ok zv w := fun w => by simp [zeroValue, typeInfo, hi, hz]
    have hzlen : (zerosOf zv.cells.toList (n - lo)).length = (n - lo) * esz := by rw [zerosOf_len]; simp [he.hz]
    have hxl := hok.1.1
    have main : ∃ w', (Builtin.clear_ #[ts] ty #[subFrom v esz lo]).run C.P w = .ok (.tuple #[]) w' ∧ (Hp.own v E esz n (xs.take (lo * esz) ++ zerosOf zv.cells.toList (n - lo))).ok w' ∧ Chg (fun b => v.ownBlock = some b) w w' := by
      by_cases hlo : lo = n
      · subst hlo
        have e0 : ∃ a c, subFrom v esz lo = .slice a 0 c := by
          rcases hok.1.2 with ⟨rfl, rfl⟩ | ⟨g', cap, cur, rfl, _⟩
          · exact ⟨_, _, rfl⟩
          · exact ⟨_, _, by simp [subFrom]; exact ⟨rfl, rfl⟩⟩
        obtain ⟨a', c', e0⟩ := e0
        refine ⟨w, ?_, ?_, Chg.refl _ w⟩
        · rw [e0]; cases a' <;> simp [Builtin.clear_, run_underlying ht.h, Sem.run_bind, Result.andThen]
        · rw [Nat.sub_self]
          simp only [zerosOf, List.append_nil]
          rw [List.take_of_length_le (by omega)]; exact hok
      · have hlt : lo < n := by omega
        have hpos : 0 < (n - lo) * esz := Nat.mul_pos (by omega) he.pos
        obtain ⟨w', h3, h4, h5⟩ := own_store (P := C.P) hok (lo * esz) (zerosOf zv.cells.toList (n - lo)) (by rw [hzlen, hxl, ← Nat.add_mul]; exact Nat.mul_le_mul_right _ (by omega)) (fun u hu => by
          have key : ∀ k, ∀ u ∈ zerosOf zv.cells.toList k, u ∈ zv.cells.toList := fun k => by
            induction k with
            | zero => intro u hu; cases hu
            | succ k ih => intro u hu; rcases List.mem_append.1 hu with h | h
                           · exact h
                           · exact ih u h
          exact List.all_eq_true.1 h1 u (key _ u hu)) (by intro e; rw [e] at hzlen; simp at hzlen; omega)
        refine ⟨w', ?_, ?_, h5⟩
        · rcases hok.1.2 with ⟨rfl, rfl⟩ | ⟨g', cap, cur, rfl, h0, hg, hnc, hcm, hcs, htake⟩
          · omega
          · have hne : ¬ cap = lo := by omega
            have hn : n - lo ≠ 0 := by omega
            have hzz := zeros_ok zv.cells (n - lo) (by rw [he.hz]; exact he.pos)
            obtain ⟨q, hq⟩ : ∃ q, n - lo = q + 1 := ⟨n - lo - 1, by omega⟩
            simp only [blkOf, offOf, Nat.zero_add] at h3
            rw [hq] at hzz h3
            have hzl := congrArg Array.toList hzz
            simp only [Array.toList_map, Array.toList_range] at hzl
            simp [subFrom, hne, addAt, Builtin.clear_, hq, run_underlying ht.h, Sem.run_bind, Result.andThen, hzv, Builtin.zeroCells, hzl, h3]
        · have e : lo * esz + (zerosOf zv.cells.toList (n - lo)).length = xs.length := by rw [hzlen, hxl, ← Nat.add_mul]; congr 1; omega
          rw [e, List.drop_length, List.append_nil] at h4
          exact h4
    obtain ⟨w', h3, h4, h5⟩ := main
    refine wpIn_value (y := .tuple #[]) (w' := w') (by simp) ?_ ⟨mk l ((key, .own v E esz n (xs.take (lo * esz) ++ zerosOf zv.cells.toList (n - lo))) :: m) g gb dd, ?_, next⟩
    · simp [execOp, resolve, hx, invoke, builtin, Sem.run_bind, Result.andThen, h3]
    · have := rep_store hr (k := key) (h' := .own v E esz n (xs.take (lo * esz) ++ zerosOf zv.cells.toList (n - lo))) hk rfl h4 h5
      rwa [mk_mem] at this
end Go.Proofs.Ytaijclimdfchfaa
