import Derived.Test.YtaijclimdfchfaaKE
import Derived.Great.BuildSlice
/- Rows: slices that are read, that grow, that are cut. Conditions: none. -/
namespace Go.Proofs.Ytaijclimdfchfaa
open Go.Proofs Go.RowKit

variable {C : Cx} {K : Exit → St → Prop} {ops : Array Oper} {rest : List Oper} {l l' : List (Nat × Value)} {m m' : List (Nat × Hp)} {g : World → Prop} {gb : Nat → Prop} {dd : List Nat}
  {i : Nat} {d : Option Nat} {op : Op} {ty : TypeId} {pos : String} {aft : Array Edge} {gd : Option (Nat × Bool)} {ks : List Nat} {y : Value} {T T' E : TypeId} {s : St} {x z : Operand} {v u : Value} {n esz j : Nat} {xs : List Value}

def blkOf : Value → Nat | .slice (some a) _ _ => a.block | _ => 0
def offOf : Value → Nat | .slice (some a) _ _ => a.off | _ => 0
/-- a slice of n elements -/
def RowV (v : Value) (n : Nat) : Prop := (∃ b o c, v = .slice (some ⟨b, o, none⟩) n c) ∨ (v = .slice none 0 0 ∧ n = 0) ∨ (∃ a c, v = .slice (some a) 0 c ∧ n = 0)
theorem RowV.nil0 : RowV (.slice none 0 0) 0 := .inr (.inl ⟨rfl, rfl⟩)
theorem RowV.sl {v : Value} {n : Nat} (h : RowV v n) : ∃ a c, v = .slice a n c := by
  rcases h with ⟨b, o, c, rfl⟩ | ⟨rfl, rfl⟩ | ⟨a, c, rfl, rfl⟩ <;> exact ⟨_, _, rfl⟩
/-- its cells are xs -/
structure RowAt (w : World) (v : Value) (esz n : Nat) (xs : List Value) : Prop where
  len : xs.length = n * esz
  at_ : ∀ j u, xs[j]? = some u → w.cell? ⟨blkOf v, offOf v + j, none⟩ = some u
  one : ∀ u ∈ xs, u.oneCell' = true
def RowIn (s : St) (ks : List Nat) (v : Value) (esz n : Nat) (xs : List Value) : Prop := ∀ w, s.g w → Held s ks w → RowAt w v esz n xs

theorem rowV_own {w : World} (h : (Hp.own v E esz n xs).ok w) : RowV v n := by
  rcases h.1.2 with ⟨rfl, rfl⟩ | ⟨g, cap, cur, rfl, _⟩
  · exact .nil0
  · exact .inl ⟨g, 0, cap, rfl⟩
theorem rowAt_own {w : World} (h : (Hp.own v E esz n xs).ok w) : RowAt w v esz n xs := by
  refine ⟨h.1.1, fun j u hu => ?_, h.2⟩
  rcases h.1.2 with ⟨rfl, rfl⟩ | ⟨g, cap, cur, rfl, h0, hg, hr⟩
  · have : xs = [] := List.eq_nil_of_length_eq_zero (by simpa using h.1.1)
    subst this; cases hu
  · have := h.1.cells (g := g) rfl j u hu
    rwa [addAt] at this
theorem row_own {key : Nat} (hm : s.m key = some (.own v E esz n xs)) : RowIn s [key] v esz n xs := fun w _ hh => rowAt_own (hh key (by simp) _ hm)
theorem row_imm (hg : ∀ w, s.g w → RowAt w v esz n xs) : RowIn s [] v esz n xs := fun w h _ => hg w h
theorem RowAt.below {w w' : World} (h : RowAt w v esz n xs) (hb : Below w.heap.size w w') : RowAt w' v esz n xs :=
  ⟨h.len, fun j u hu => (hb.cell (World.block_lt_of_cell? w _ (h.at_ j u hu))).trans (h.at_ j u hu), h.one⟩
theorem RowAt.chg {S : Nat → Prop} {w w' : World} (h : RowAt w v esz n xs) (hc : Chg S w w') (hs : ¬ S (blkOf v)) : RowAt w' v esz n xs :=
  ⟨h.len, fun j u hu => (World.cell?_of_block (w := w) (hc.block _ (World.block_lt_of_cell? w _ (h.at_ j u hu)) hs)).trans (h.at_ j u hu), h.one⟩

/-- the c-th.. cells: the i-th element -/
def El (xs : List Value) (esz i : Nat) (c : List Value) : Prop := c.length = esz ∧ ∀ f, f < esz → xs[i * esz + f]? = c[f]?
theorem flat_len {α : Type} {enc : α → List Value} {esz : Nat} (henc : ∀ x, (enc x).length = esz) : ∀ l : List α, (l.flatMap enc).length = l.length * esz
  | [] => by simp
  | x :: r => by rw [List.flatMap_cons, List.length_append, henc, flat_len henc r, List.length_cons, Nat.add_mul]; omega
theorem el_flat {α : Type} {enc : α → List Value} {esz : Nat} (henc : ∀ x, (enc x).length = esz) (d : α) : ∀ (l : List α) (i : Nat), i < l.length → El (l.flatMap enc) esz i (enc (l.getD i d))
  | [], i, h => by simp at h
  | x :: r, 0, h => ⟨henc _, fun f hf => by
      rw [List.flatMap_cons, Nat.zero_mul, Nat.zero_add, List.getElem?_append_left (by rw [henc]; exact hf)]; rfl⟩
  | x :: r, i + 1, h => by
    have ih := el_flat henc d r i (by simpa using h)
    refine ⟨henc _, fun f hf => ?_⟩
    have := ih.2 f hf
    rw [List.flatMap_cons, List.getElem?_append_right (by rw [henc, Nat.add_mul]; omega), henc, show (i + 1) * esz + f - esz = i * esz + f by rw [Nat.add_mul]; omega, this]
    simp
/-- a row that is written out -/
theorem el_lit {xs c : List Value} {esz i : Nat} (h : (xs.drop (i * esz)).take esz = c) (hl : c.length = esz) : El xs esz i c := ⟨hl, fun f hf => by
  subst h; rw [List.getElem?_take_of_lt hf, List.getElem?_drop]⟩

/-! ### to read -/
theorem o_len {ts : Nat} [ht : TSl C.P ts E esz] (h : ev C s x = some v) (hv : RowV v n) : OpV C s ⟨d, .call { callee := .builtin .len, args := #[x], argTypes := #[ts] }, ty, pos, aft, gd⟩ [] (.int .i64 n) := opv _ _ (by simp) fun ρ w hr => by
  have hx := rd1 hr (x := x) (by simp [Op.operands, Call.operands]) h
  obtain ⟨b, c, rfl⟩ := hv.sl
  simp [execOp, resolve, hx, invoke, builtin, Builtin.len_, Sem.run_bind, run_underlying ht.h, Result.andThen, goInt]
theorem o_idx {k : IntKind} {a : Int} (j : Nat) [ht : TSl C.P T E esz] (h : ev C s x = some v) (hv : RowV v n) (h2 : ev C s z = some (.int k a)) (hj : a = ((j : Nat) : Int)) (hlt : j < n) :
    OpV C s ⟨d, .indexAddr T x z, ty, pos, aft, gd⟩ [] (.pointer (some ⟨blkOf v, offOf v + j * esz, none⟩)) := opv _ _ (by simp) fun ρ w hr => by
  have hx := rd1 hr (x := x) (by simp [Op.operands]) h
  have hz := rd1 hr (x := z) (by simp [Op.operands]) h2
  subst hj
  rcases hv with ⟨b, o, c, rfl⟩ | ⟨rfl, rfl⟩ | ⟨a, c, rfl, rfl⟩
  · have h0 : (0 : Int) ≤ (j : Int) := by omega
    have h1 : (j : Int) < n := by omega
    simp [execOp, hx, hz, Instr.indexAt, asIntOf, Sem.run_bind, run_underlying ht.h, h0, hlt, ht.sz, ht.pos, Result.andThen, addAt, blkOf, offOf]
  · omega
  · omega
theorem o_loadRE {c : List Value} {nn : Nat} [ht : TAgg C.P T esz] (h : ev C s x = some (.pointer (some ⟨blkOf v, offOf v + j * esz, none⟩))) (hrow : RowIn s ks v esz nn xs) (hel : El xs esz j c) {c' : List Value} (hc : c = c') : OpV C s ⟨d, .load T x, ty, pos, aft, gd⟩ ks (.agg c'.toArray) :=
  ⟨by simp, fun ρ w hr hg hh => by
    subst hc
    have hw := hrow w hg hh
    have hc : CellsAt w ⟨blkOf v, offOf v + j * esz, none⟩ c := fun f u hu => by
      have hf : f < esz := by rw [← hel.1]; exact (List.getElem?_eq_some_iff.1 hu).1
      rw [addAt, Nat.add_assoc]
      exact hw.at_ _ u ((hel.2 f hf).trans hu)
    simp [execOp, rd1 hr (x := x) (by simp [Op.operands]) h, Instr.loadAt, Instr.sureAddr, Sem.run_bind, Result.andThen, run_loadVar_agg ht hel.1 hc]⟩
theorem o_loadRF {c : List Value} {f nn : Nat} [ht : TOne C.P T] (h : ev C s x = some (.pointer (some ⟨blkOf v, offOf v + j * esz + f, none⟩))) (hrow : RowIn s ks v esz nn xs) (hel : El xs esz j c) (hu : c[f]? = some u) : OpV C s ⟨d, .load T x, ty, pos, aft, gd⟩ ks u :=
  ⟨by simp, fun ρ w hr hg hh => by
    have hw := hrow w hg hh
    have hf : f < esz := by rw [← hel.1]; exact (List.getElem?_eq_some_iff.1 hu).1
    have hc : w.cell? ⟨blkOf v, offOf v + j * esz + f, none⟩ = some u := by
      rw [Nat.add_assoc]; exact hw.at_ _ u ((hel.2 f hf).trans hu)
    simp [execOp, rd1 hr (x := x) (by simp [Op.operands]) h, Instr.loadAt, Instr.sureAddr, Sem.run_bind, Result.andThen, run_loadVar_one ht hc]⟩
theorem o_loadR1 {nn : Nat} [ht : TOne C.P T] (h : ev C s x = some (.pointer (some ⟨blkOf v, offOf v + j * 1, none⟩))) (hrow : RowIn s ks v 1 nn xs) (hel : El xs 1 j [u]) : OpV C s ⟨d, .load T x, ty, pos, aft, gd⟩ ks u :=
  o_loadRF (f := 0) (by simpa using h) hrow hel rfl
theorem o_makeFunc {fn : Fn} {caps : Array Operand} {vs : List Value} (h : evs C s caps.toList = some vs) : OpV C s ⟨d, .makeFunc fn #[] caps, ty, pos, aft, gd⟩ [] (.func fn #[] vs.toArray) := opv _ _ (by simp) fun ρ w hr => by
  have h1 := evs_ok (C := C) (s := s) (ρ := ρ) caps.toList vs (fun x hx v hv => rd1 hr (x := x) (by simp [Op.operands]; simpa using hx) hv) h
  have : caps.map ρ = vs.toArray := by apply Array.ext'; simp [h1]
  simp [execOp, this, Instr.makeFunc, Sem.run_bind, Result.andThen]

/-! ### rows of the code's own -/
/-- nothing, as a row that may grow -/
theorem rep_ghost {a : Act} {w : World} (hr : Rep C s a w) (key : Nat) (E esz : Nat) : Rep C (s.mem (some (key, .own (.slice none 0 0) E esz 0 []))) a w := by
  refine rep_chg hr (fun _ => False) (Chg.refl _ w) (fun _ h => h.elim) _ (fun k h hh => ?_) fun k k' h h' b hh hh' e e' => ?_
  · by_cases e : k = key
    · subst e; rw [updN_same] at hh; cases hh
      exact .inr ⟨⟨World.ownsRow_nil w 0 E esz, by simp⟩, fun b hb => by simp [Hp.blk, Value.ownBlock] at hb⟩
    · rw [updN_other _ _ e] at hh; exact .inl ⟨hh, fun _ _ h => h⟩
  · by_cases e1 : k = key
    · subst e1; rw [updN_same] at hh; cases hh; simp [Hp.blk, Value.ownBlock] at e
    · by_cases e2 : k' = key
      · subst e2; rw [updN_same] at hh'; cases hh'; simp [Hp.blk, Value.ownBlock] at e'
      · rw [updN_other _ _ e1] at hh; rw [updN_other _ _ e2] at hh'; exact hr.inj k k' h h' b hh hh' e e'
theorem v_ghost (key E esz : Nat) {c : Code} (h : V C c K (mk l ((key, .own (.slice none 0 0) E esz 0 []) :: m) g gb dd)) : V C c K (mk l m g gb dd) := fun a w hr => h a w (by have := rep_ghost hr key E esz; rwa [mk_mem] at this)
theorem l_ghost (key E esz : Nat) (h : VL C ops rest K (mk l ((key, .own (.slice none 0 0) E esz 0 []) :: m) g gb dd)) : VL C ops rest K (mk l m g gb dd) := fun a w hr => h a w (by have := rep_ghost hr key E esz; rwa [mk_mem] at this)

/-- a row takes another one's place: what it was, its block; what stands there now -/
theorem rep_own {a : Act} {w w' : World} (hr : Rep C s a w) {key : Nat} {h0 h1 : Hp} (hk : s.m key = some h0) (hc : Chg (fun b => h0.blk = some b) w w') (ho : h1.ok w') (hb : ∀ b, h1.blk = some b → h0.blk = some b ∨ w.heap.size ≤ b) (key' : Nat) (m1 : Nat → Option Hp)
    (hm1 : ∀ k h, m1 k = some h → s.m k = some h ∧ k ≠ key) : Rep C { s with m := updN m1 key' (some h1) } a w' := by
  have hmo := hr.mo key h0 hk
  have hlt : ∀ k h, s.m k = some h → ∀ b, h.blk = some b → b < w.heap.size := fun k h hk b hb => Hp.lt (hr.mo k h hk).1 hb
  refine rep_chg hr _ hc (fun b hb' _ => ⟨hmo.2 b hb', fun hg => (hr.gd b hg).2 key h0 hk hb', fun o ho' => ?_⟩) _ (fun k h hh => ?_) fun k k' h h' b hh hh' e e' => ?_
  · obtain ⟨o', h2, h3⟩ := Hp.isCells hmo.1 hb'
    rw [h2] at ho'; cases ho'; exact h3
  · by_cases e : k = key'
    · subst e; rw [updN_same] at hh; cases hh
      exact .inr ⟨ho, fun b hb' => (hb b hb').imp (fun h => ⟨h, hlt key h0 hk b h⟩) id⟩
    · rw [updN_other _ _ e] at hh
      have := hm1 k h hh
      exact .inl ⟨this.1, fun b hb1 hb2 => this.2 (hr.inj k key h h0 b this.1 hk hb1 hb2)⟩
  · have key1 : ∀ k h, m1 k = some h → ∀ b, h.blk = some b → h1.blk = some b → False := fun k h hh b hb1 hb2 => by
      have := hm1 k h hh
      rcases hb b hb2 with h3 | h3
      · exact this.2 (hr.inj k key h h0 b this.1 hk hb1 h3)
      · have := hlt k h this.1 b hb1; omega
    by_cases e1 : k = key' <;> by_cases e2 : k' = key'
    · rw [e1, e2]
    · subst e1; rw [updN_same] at hh; cases hh; rw [updN_other _ _ e2] at hh'; exact (key1 k' h' hh' b e' e).elim
    · subst e2; rw [updN_same] at hh'; cases hh'; rw [updN_other _ _ e1] at hh; exact (key1 k h hh b e e').elim
    · rw [updN_other _ _ e1] at hh; rw [updN_other _ _ e2] at hh'
      exact hr.inj k k' h h' b (hm1 k h hh).1 (hm1 k' h' hh').1 e e'
theorem sel_key {α : Type} {l : List (Nat × α)} : ∀ (ks : List Nat) (l' : List (Nat × α)), sel ks l = some l' → ∀ i v, lk l' i = some v → i ∈ ks
  | [], l', h, i, v, hv => by simp [sel] at h; subst h; cases hv
  | k :: ks, l', h, i, v, hv => by
    simp only [sel] at h
    split at h
    · rename_i u r hu hr
      cases h
      simp only [lk] at hv
      split at hv
      · rename_i hb
        have := Nat.eq_of_beq_eq_true hb
        subst this; exact List.mem_cons_self
      · exact List.mem_cons_of_mem _ (sel_key ks r hr i v hv)
    · cases h
/-- as lists: the blocks of keep stay; key's is taken over by h1 under the name key' -/
theorem rep_ownL {a : Act} {w w' : World} (hr : Rep C (mk l m g gb dd) a w) {key : Nat} {h0 h1 : Hp} (hk : lk m key = some h0) (hc : Chg (fun b => h0.blk = some b) w w') (ho : h1.ok w') (hb : ∀ b, h1.blk = some b → h0.blk = some b ∨ w.heap.size ≤ b) (key' : Nat)
    (keep : List Nat) (hs : sel keep m = some m') (hkeep : keep.contains key = false) : Rep C (mk l ((key', h1) :: m') g gb dd) a w' := by
  have := rep_own hr hk hc ho hb key' (lk m') (fun k h hh => ⟨sel_ok keep m' hs k h hh, fun e => by
    subst e
    have := sel_key keep m' hs k h hh
    simp at hkeep; exact hkeep this⟩)
  exact this

theorem oneCell_take {xs : List Value} (h : ∀ u ∈ xs, u.oneCell' = true) (k : Nat) : ∀ u ∈ xs.take k, u.oneCell' = true := fun u hu => h u (List.mem_of_mem_take hu)

theorem append_run {P : Program} {w : World} {ts by_ mm : Nat} {zv : Value} {ys : List Value} [ht : TSl P ts E esz] [he : TElem P E zv esz by_] (hok : (Hp.own v E esz n xs).ok w) (hu : RowV u mm) (hrw : RowAt w u esz mm ys) (hlen : n + mm ≤ 1099511627776) (hby : Nat.ble by_ 128 = true) :
    ∃ v' w', (Builtin.append_ #[ts, ts] ty #[v, u]).run P w = .ok v' w' ∧ w'.ownsRow 0 E esz v' (n + mm) (xs ++ ys) ∧ Chg (fun b => v.ownBlock = some b) w w' ∧ (∀ b, v'.ownBlock = some b → v.ownBlock = some b ∨ w.heap.size ≤ b) := by
  obtain ⟨ie, hi, hz, hsz, hb⟩ := he.h
  have hby' : by_ ≤ 128 := Nat.le_of_ble_eq_true hby
  have hbytes : (n + mm) * by_ ≤ 140737488355328 := Nat.le_trans (Nat.mul_le_mul hlen hby') (by decide)
  have hmax : n + mm ≤ maxLen := by unfold maxLen; omega
  subst hsz hb
  rcases hu with ⟨ub, uo, uc, rfl⟩ | hu
  · have hnews : ∀ j u, ys[j]? = some u → w.cell? ((⟨ub, uo, none⟩ : Addr).add j) = some u := fun j u hu => by rw [addAt]; exact hrw.at_ j u hu
    obtain ⟨v', w', h1, h2, h3, h4⟩ := run_append_own (P := P) w 0 ts ty E ie zv ie.size ie.bytes ht.h hi hz rfl rfl he.hz he.pos v n xs hok.1 ⟨ub, uo, none⟩ mm uc ys hrw.len hnews hrw.one hmax hbytes (Nat.zero_le _)
    refine ⟨v', w', h1, h2, Chg.grown h3, fun b hb => ?_⟩
    rcases hok.1.2 with ⟨rfl, rfl⟩ | ⟨g, cap, cur, rfl, h0, hg, hnc, hcm, hcs, htake⟩
    · by_cases hm : mm = 0
      · have := h4.2 ⟨rfl, hm⟩
        subst this; simp [Value.ownBlock] at hb
      · have hr := run_append_nil (P := P) w ts ty E ie zv ht.h hi hz ⟨ub, uo, none⟩ mm uc ys hrw.len hnews (by omega) (by unfold maxLen at hmax; omega) (by have hb := hbytes; simp only [Nat.zero_add] at hb; omega)
        have e := h1.symm.trans hr
        simp only [Result.ok.injEq] at e
        rw [e.1] at hb
        simp [Value.ownBlock] at hb
        exact .inr (by omega)
    · by_cases hroom : n + mm ≤ cap
      · have hfit : n * ie.size + ys.length ≤ cur.size := by rw [hrw.len, hcs, ← Nat.add_mul]; exact Nat.mul_le_mul_right _ hroom
        have hr := run_append_room (P := P) w ts ty E ie ht.h hi g n cap cur hg ⟨ub, uo, none⟩ mm uc ys hrw.len hnews hrw.one hroom hfit
        have e := h1.symm.trans hr
        simp only [Result.ok.injEq] at e
        rw [e.1] at hb
        exact .inl hb
      · have holds : ∀ j u, xs[j]? = some u → w.cell? ((⟨g, 0, none⟩ : Addr).add j) = some u := hok.1.cells (g := g) rfl
        have hr := run_append_grow (P := P) w ts ty E ie zv ht.h hi hz ⟨g, 0, none⟩ n cap xs hok.1.1 holds ⟨ub, uo, none⟩ mm uc ys hrw.len hnews (by omega) (by unfold maxLen at hmax; omega) (growslice_fits (by omega) hbytes)
        have e := h1.symm.trans hr
        simp only [Result.ok.injEq] at e
        rw [e.1] at hb
        simp [Value.ownBlock] at hb
        exact .inr (by omega)
  · have h0 : mm = 0 := by rcases hu with h | ⟨a, c, h⟩ <;> simp_all
    subst h0
    have : ys = [] := List.eq_nil_of_length_eq_zero (by simpa using hrw.len)
    subst this
    refine ⟨v, w, ?_, by simpa using hok.1, Chg.refl _ w, fun b hb => .inl hb⟩
    have hu' : u = .slice none 0 0 ∨ ∃ a c, u = .slice (some a) 0 c := by
      rcases hu with h | ⟨a, c, h, _⟩
      · exact .inl h.1
      · exact .inr ⟨a, c, h⟩
    rcases hok.1.2 with ⟨rfl, rfl⟩ | ⟨g, cap, cur, rfl, h0, hg, hnc, hcm, hcs, htake⟩ <;> rcases hu' with rfl | ⟨a, c, rfl⟩
    · simp [Builtin.append_, run_underlying ht.h, sizeOf, typeInfo, hi, Builtin.lenOf, Builtin.firstCells, Sem.run_bind, Result.andThen, loadCells, loadCellsFrom]
    · simp [Builtin.append_, run_underlying ht.h, sizeOf, typeInfo, hi, Builtin.lenOf, Builtin.firstCells, Sem.run_bind, Result.andThen, loadCells, loadCellsFrom]
    · simp [Builtin.append_, run_underlying ht.h, sizeOf, typeInfo, hi, Builtin.lenOf, Builtin.firstCells, Sem.run_bind, Result.andThen, hnc, storeCells, loadCells, loadCellsFrom]
    · simp [Builtin.append_, run_underlying ht.h, sizeOf, typeInfo, hi, Builtin.lenOf, Builtin.firstCells, Sem.run_bind, Result.andThen, hnc, storeCells, loadCells, loadCellsFrom]

/-- append -/
theorem l_append (key keep : _) {ts by_ mm : Nat} {zv : Value} {ys : List Value} {X Y : Operand} [ht : TSl C.P ts E esz] [he : TElem C.P E zv esz by_] (hw : wantS C (mk l m g gb dd) ops ⟨some i, .call { callee := .builtin .append, args := #[X, Y], argTypes := #[ts, ts] }, ty, pos, aft, gd⟩ = some true)
    (h : ev C (mk l m g gb dd) X = some v) (hk : lk m key = some (.own v E esz n xs)) (h2 : ev C (mk l m g gb dd) Y = some u) (hs : sel keep m = some m') (hkeep : keep.contains key = false) (hby : Nat.ble by_ 128 = true) (hu : RowV u mm) (hrow : RowIn (mk l m g gb dd) ks u esz mm ys)
    (hlen : n + mm ≤ 1099511627776)
    (next : ∀ v', RowV v' (n + mm) → VL C ops rest K (mk ((i, v') :: l) ((i, .own v' E esz (n + mm) (xs ++ ys)) :: m') g gb dd)) : VL C ops (⟨some i, .call { callee := .builtin .append, args := #[X, Y], argTypes := #[ts, ts] }, ty, pos, aft, gd⟩ :: rest) K (mk l m g gb dd) :=
  vl_step hw fun a w hr => by
    have hX : a.eval X = v := ev_ok hr h
    have hY : a.eval Y = u := ev_ok hr h2
    have hok : (Hp.own v E esz n xs).ok w := (hr.mo key _ hk).1
    have hrw := hrow w hr.gh (held_of hr ks)
    obtain ⟨v', w', h3, h4, h5, h6⟩ := append_run (P := C.P) (ts := ts) (ty := ty) hok hu hrw hlen hby
    have hone : ∀ u' ∈ xs ++ ys, u'.oneCell' = true := fun u' hu' => by
      rcases List.mem_append.1 hu' with h | h
      · exact hok.2 u' h
      · exact hrw.one u' h
    refine wpIn_value (y := v') (w' := w') (by simp) ?_ ⟨mk ((i, v') :: l) ((i, .own v' E esz (n + mm) (xs ++ ys)) :: m') g gb dd, ?_, next v' (rowV_own (w := w') ⟨h4, hone⟩)⟩
    · simp [execOp, resolve, hX, hY, invoke, builtin, Sem.run_bind, Result.andThen, h3]
    · rw [← mk_put]
      exact rep_put (rep_ownL hr hk (h1 := .own v' E esz (n + mm) (xs ++ ys)) h5 ⟨h4, hone⟩ h6 i keep hs hkeep) (some i) v'

/-! ### a slice that is written out -/
def zerosOf (z : List Value) : Nat → List Value
  | 0 => []
  | n + 1 => z ++ zerosOf z n
theorem zerosOf_len (z : List Value) : ∀ n, (zerosOf z n).length = n * z.length
  | 0 => by simp [zerosOf]
  | n + 1 => by simp [zerosOf, zerosOf_len z n, Nat.add_mul]; omega
theorem zerosOf_get (z : List Value) (hz : 0 < z.length) : ∀ (n i : Nat), i < n * z.length → (zerosOf z n)[i]? = z[i % z.length]?
  | 0, i, h => by omega
  | n + 1, i, h => by
    simp only [zerosOf]
    by_cases hi : i < z.length
    · rw [List.getElem?_append_left hi, Nat.mod_eq_of_lt hi]
    · rw [List.getElem?_append_right (by omega), zerosOf_get z hz n (i - z.length) (by rw [Nat.add_mul] at h; omega)]
      congr 1
      rw [Nat.mod_eq_sub_mod (a := i) (by omega)]
theorem zeros_ok (z : Array Value) (n : Nat) (hz : 0 < z.size) : (Array.range (n * z.size)).map (z[· % z.size]!) = (zerosOf z.toList n).toArray := by
  apply Array.ext
  · simp [zerosOf_len]
  · intro i h1 h2
    have hi : i < n * z.size := by simpa using h1
    have hm : i % z.size < z.size := Nat.mod_lt _ hz
    have := zerosOf_get z.toList (by simpa using hz) n i (by simpa using hi)
    have h3 : i < (zerosOf z.toList n).length := by simpa using h2
    rw [List.getElem?_eq_getElem h3, Array.length_toList, List.getElem?_eq_getElem (by simpa using hm)] at this
    simp only [Option.some.injEq] at this
    simp [hm, this]
theorem fillL_ok' {place : Nat → Option (Nat × Nat)} (pl : List (Nat × Nat)) (hp : ∀ i p, pl[i]? = some p → place i = some p) : ∀ (ps : List (Nat × Value)) (zs : List Value) (rs : List Value), fillL pl zs ps = some rs → Instr.fill place zs.toArray ps = some rs.toArray ∧ rs.length = zs.length
  | [], zs, rs, h => by simp only [fillL, Option.some.injEq] at h; subst h; exact ⟨rfl, rfl⟩
  | (i, v) :: r, zs, rs, h => by
    simp only [fillL] at h
    split at h
    · rename_i off n hpi
      split at h
      · rename_i hc
        simp only [Bool.and_eq_true] at hc
        have h1 : v.cells.size = n := by simpa using Nat.eq_of_beq_eq_true hc.1
        have h2 : off + n ≤ zs.length := Nat.le_of_ble_eq_true hc.2
        have ih := fillL_ok' pl hp r _ rs h
        refine ⟨?_, ih.2.trans (splice_len _ _ _)⟩
        simp only [Instr.fill, hp i _ hpi]
        rw [if_neg (by simp [h1]; omega), ← ih.1]
        congr 1
        apply Array.ext'
        have := splice_ok v.cells.toList zs.toArray off 0
        simp only [Nat.add_zero] at this
        rw [← this, ← Array.foldl_toList, Array.toList_zipIdx]
      · cases h
    · cases h
theorem rep_newOwn {a : Act} {w w' : World} (hr : Rep C (mk l m g gb dd) a w) {h1 : Hp} (hb : Below w.heap.size w w') (ho : h1.ok w') (hn : ∀ b, h1.blk = some b → w.heap.size ≤ b) (key' : Nat) : Rep C (mk l ((key', h1) :: m) g gb dd) a w' := by
  have hlt : ∀ k h, lk m k = some h → ∀ b, h.blk = some b → b < w.heap.size := fun k h hk b hb => Hp.lt (hr.mo k h hk).1 hb
  have := rep_chg hr (fun _ => False) (Chg.of_below hb) (fun _ h => h.elim) (updN (lk m) key' (some h1)) (fun k h hh => ?_) fun k k' h h' b hh hh' e e' => ?_
  · exact this
  · by_cases e : k = key'
    · subst e; rw [updN_same] at hh; cases hh
      exact .inr ⟨ho, fun b hb => .inr (hn b hb)⟩
    · rw [updN_other _ _ e] at hh; exact .inl ⟨hh, fun _ _ h => h⟩
  · by_cases e1 : k = key' <;> by_cases e2 : k' = key'
    · rw [e1, e2]
    · subst e1; rw [updN_same] at hh; cases hh; rw [updN_other _ _ e2] at hh'
      have := hn b e; have := hlt k' h' hh' b e'; omega
    · subst e2; rw [updN_same] at hh'; cases hh'; rw [updN_other _ _ e1] at hh
      have := hn b e'; have := hlt k h hh b e; omega
    · rw [updN_other _ _ e1] at hh; rw [updN_other _ _ e2] at hh'
      exact hr.inj k k' h h' b hh hh' e e'

theorem o_bs {n : Nat} {cs vs : List Value} {by_ : Nat} {zv : Value} {ps : Array (Nat × Operand)} [ht : TSl C.P T E esz] [he : TElem C.P E zv esz by_] (h : evs C s (ps.toList.map (·.2)) = some vs) (hf : fillL ((List.range n).map fun i => (i * esz, esz)) (zerosOf zv.cells.toList n) ((ps.toList.map (·.1)).zip vs) = some cs)
    (hn : Nat.ble n 1000 = true) (hsz : Nat.ble esz 1000 = true) : OpN C s ⟨d, .buildSlice T n ps, ty, pos, aft, gd⟩ (fun b => .slice (some ⟨b, 0, none⟩) n n) E cs :=
  ⟨by simp, fun ρ w hr => by
    have hvs := evs_ok (C := C) (s := s) (ρ := ρ) (ps.toList.map (·.2)) vs (fun x hx v hv => rd1 hr (x := x) (by simpa [Op.operands] using hx) hv) h
    have hps : (ps.map fun p => (p.1, ρ p.2)).toList = (ps.toList.map (·.1)).zip vs := by
      rw [Array.toList_map, ← hvs, List.map_map, List.zip_map']
      rfl
    obtain ⟨ie, hi, hz, hs2, hb⟩ := he.h
    have hn' : n ≤ 1000 := Nat.le_of_ble_eq_true hn
    have hsz' : esz ≤ 1000 := Nat.le_of_ble_eq_true hsz
    have hmul : n * esz ≤ 1000 * 1000 := Nat.mul_le_mul hn' hsz'
    have hfo := fillL_ok' (place := fun i => some (i * esz, esz)) _ (fun i p hp => by
      rw [List.getElem?_map] at hp
      by_cases hlt : i < n
      · rw [List.getElem?_range hlt] at hp; exact hp
      · rw [List.getElem?_eq_none (by simpa using hlt)] at hp; cases hp) _ _ _ hf
    have hzz := zeros_ok zv.cells n (by rw [he.hz]; exact he.pos)
    rw [he.hz] at hzz
    have main : (Instr.buildSlice T n (ps.map fun p => (p.1, ρ p.2))).run C.P w = .ok (.slice (some ⟨w.heap.size, 0, none⟩) n n) (w.alloc (.cells cs.toArray E)) := by
      have hzv : (zeroValue E).run C.P w = .ok zv w := by simp [zeroValue, typeInfo, hi, hz]
      have hso : (sizeOf E).run C.P w = .ok esz w := by simp [sizeOf, typeInfo, hi, hs2]
      have hne : ¬ (n * esz > 2 ^ 24) := by omega
      subst hs2
      by_cases h0 : n * ie.size = 0
      · have hn0 : n = 0 := by
          rcases Nat.mul_eq_zero.1 h0 with h | h
          · exact h
          · have := he.pos; omega
        subst hn0
        have hf2 := hfo.1
        rw [show (zerosOf zv.cells.toList 0).toArray = #[] from rfl, ← hps, Array.toList_map] at hf2
        have e0 : (Array.map (fun _ => (default : Value)) (Array.range 0)) = #[] := by
          apply Array.ext'
          simp
        unfold Instr.buildSlice
        simp [Sem.run_bind, run_underlying ht.h, hso, Result.andThen, e0, hf2, newRow, run_newObj_alloc]
      · exact run_buildSlice w T E n _ cs.toArray ie zv ht.h hi hz hne h0 (by rw [he.hz, hzz, hps]; exact hfo.1)
    have : (execOp ρ ⟨d, .buildSlice T n ps, ty, pos, aft, gd⟩) = (do pure (.value (← Instr.buildSlice T n (ps.map fun p => (p.1, ρ p.2)))) : Sem Next) := by simp only [execOp]
    rw [this, Sem.run_bind, main]; rfl⟩
/-- a new slice's cells, as a row of our own -/
theorem l_toOwn (key : Nat) (keep : List Nat) {b n : Nat} {cs : List Value} (esz : Nat) (hk : lk m key = some (.box b E cs)) (hs : sel keep m = some m') (hkeep : keep.contains key = false) (hl : cs.length = n * esz) (hn : Nat.ble n 1000 = true) (h1 : cs.all (·.oneCell') = true)
    (next : VL C ops rest K (mk l ((key, .own (.slice (some ⟨b, 0, none⟩) n n) E esz n cs) :: m') g gb dd)) : VL C ops rest K (mk l m g gb dd) := fun a w hr => next a w (by
  have hb : Blk w b cs.toArray E := (hr.mo key _ hk).1
  have hn' : n ≤ 1000 := Nat.le_of_ble_eq_true hn
  refine rep_ownL (h1 := .own (.slice (some ⟨b, 0, none⟩) n n) E esz n cs) hr hk (Chg.refl _ w) ⟨⟨hl, .inr ⟨b, n, cs.toArray, rfl, Nat.zero_le _, hb, Nat.le_refl _, by unfold maxLen; omega, by simp [hl], by simp [← hl]⟩⟩, fun u hu => List.all_eq_true.1 h1 u hu⟩ (fun b' hb' => .inl (by simpa [Hp.blk, Value.ownBlock] using hb')) key keep hs hkeep)

theorem l_buildSlice {n : Nat} {cs vs : List Value} {by_ : Nat} {zv : Value} {ps : Array (Nat × Operand)} [ht : TSl C.P T E esz] [he : TElem C.P E zv esz by_] (hw : wantS C (mk l m g gb dd) ops ⟨some i, .buildSlice T n ps, ty, pos, aft, gd⟩ = some true)
    (h : evs C (mk l m g gb dd) (ps.toList.map (·.2)) = some vs) (hf : fillL ((List.range n).map fun i => (i * esz, esz)) (zerosOf zv.cells.toList n) ((ps.toList.map (·.1)).zip vs) = some cs) (hn : Nat.ble n 1000 = true) (hsz : Nat.ble esz 1000 = true) (h1 : cs.all (·.oneCell') = true)
    (next : ∀ v', RowV v' n → VL C ops rest K (mk ((i, v') :: l) ((i, .own v' E esz n cs) :: m) g gb dd)) : VL C ops (⟨some i, .buildSlice T n ps, ty, pos, aft, gd⟩ :: rest) K (mk l m g gb dd) :=
  vl_step hw fun a w hr => by
    have hvs := evs_ok (C := C) (s := mk l m g gb dd) (ρ := a.eval) (ps.toList.map (·.2)) vs (fun x hx v hv => ev_ok hr hv) h
    have hps : (ps.map fun p => (p.1, a.eval p.2)).toList = (ps.toList.map (·.1)).zip vs := by
      rw [Array.toList_map, ← hvs, List.map_map, List.zip_map']
      rfl
    have main : (Instr.buildSlice T n (ps.map fun p => (p.1, a.eval p.2))).run C.P w = .ok (.slice (some ⟨w.heap.size, 0, none⟩) n n) (w.alloc (.cells cs.toArray E)) ∧ cs.length = n * esz := by
      obtain ⟨ie, hi, hz, hs2, hb⟩ := he.h
      have hn' : n ≤ 1000 := Nat.le_of_ble_eq_true hn
      have hsz' : esz ≤ 1000 := Nat.le_of_ble_eq_true hsz
      have hmul : n * esz ≤ 1000 * 1000 := Nat.mul_le_mul hn' hsz'
      have hfo := fillL_ok' (place := fun i => some (i * esz, esz)) _ (fun i p hp => by
        rw [List.getElem?_map] at hp
        by_cases hlt : i < n
        · rw [List.getElem?_range hlt] at hp; exact hp
        · rw [List.getElem?_eq_none (by simpa using hlt)] at hp; cases hp) _ _ _ hf
      have hlen : cs.length = n * esz := by rw [hfo.2, zerosOf_len]; simp [he.hz]
      have hzz := zeros_ok zv.cells n (by rw [he.hz]; exact he.pos)
      rw [he.hz] at hzz
      refine ⟨?_, hlen⟩
      have hzv : (zeroValue E).run C.P w = .ok zv w := by simp [zeroValue, typeInfo, hi, hz]
      have hso : (sizeOf E).run C.P w = .ok esz w := by simp [sizeOf, typeInfo, hi, hs2]
      have hne : ¬ (n * esz > 2 ^ 24) := by omega
      subst hs2
      by_cases h0 : n * ie.size = 0
      · have hn0 : n = 0 := by
          rcases Nat.mul_eq_zero.1 h0 with h | h
          · exact h
          · have := he.pos; omega
        subst hn0
        have hf2 := hfo.1
        rw [show (zerosOf zv.cells.toList 0).toArray = #[] from rfl, ← hps, Array.toList_map] at hf2
        have e0 : (Array.map (fun _ => (default : Value)) (Array.range 0)) = #[] := by
          apply Array.ext'
          simp
        unfold Instr.buildSlice
        simp [Sem.run_bind, run_underlying ht.h, hso, Result.andThen, e0, hf2, newRow, run_newObj_alloc]
      · exact run_buildSlice w T E n _ cs.toArray ie zv ht.h hi hz hne h0 (by rw [he.hz, hzz, hps]; exact hfo.1)
    have hone : ∀ u' ∈ cs, u'.oneCell' = true := fun u' hu' => List.all_eq_true.1 h1 u' hu'
    have hn' : n ≤ 1000 := Nat.le_of_ble_eq_true hn
    have hown : (w.alloc (.cells cs.toArray E)).ownsRow 0 E esz (.slice (some ⟨w.heap.size, 0, none⟩) n n) n cs :=
      ⟨main.2, .inr ⟨w.heap.size, n, cs.toArray, rfl, Nat.zero_le _, Blk.new w _ E, Nat.le_refl _, by unfold maxLen; omega, by simp [main.2], by simp [← main.2]⟩⟩
    refine wpIn_value (y := .slice (some ⟨w.heap.size, 0, none⟩) n n) (w' := w.alloc (.cells cs.toArray E)) (by simp) ?_ ⟨mk ((i, .slice (some ⟨w.heap.size, 0, none⟩) n n) :: l) ((i, .own (.slice (some ⟨w.heap.size, 0, none⟩) n n) E esz n cs) :: m) g gb dd, ?_, next _ (.inl ⟨_, _, _, rfl⟩)⟩
    · have : (execOp a.eval ⟨some i, .buildSlice T n ps, ty, pos, aft, gd⟩) = (do pure (.value (← Instr.buildSlice T n (ps.map fun p => (p.1, a.eval p.2)))) : Sem Next) := by simp only [execOp]
      rw [this, Sem.run_bind, main.1]; rfl
    · rw [← mk_put]
      exact rep_put (rep_newOwn hr ((Below.refl _ w).alloc (Nat.le_refl _) _) (h1 := .own _ E esz n cs) ⟨hown, hone⟩ (fun b hb => by simp [Hp.blk, Value.ownBlock] at hb; omega) i) (some i) _
end Go.Proofs.Ytaijclimdfchfaa
