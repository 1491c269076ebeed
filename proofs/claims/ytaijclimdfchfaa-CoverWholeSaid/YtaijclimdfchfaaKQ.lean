import Derived.Test.YtaijclimdfchfaaKP
import Derived.Laws.OwnMore
/- Calls that turn several things at once; slices that are made; a few operations on numbers. Conditions: none. -/
namespace Go.Proofs.Ytaijclimdfchfaa
open Go.Proofs Go.RowKit
variable {C : Cx} {K : Exit → St → Prop} {ops : Array Oper} {rest : List Oper} {l l' : List (Nat × Value)} {m m' : List (Nat × Hp)} {g : World → Prop} {gb : Nat → Prop} {dd : List Nat}
  {i : Nat} {d : Option Nat} {op : Op} {ty : TypeId} {pos : String} {aft : Array Edge} {gd : Option (Nat × Bool)} {ks : List Nat} {y : Value} {S T T' E : TypeId} {s : St} {x z z' : Operand} {v u : Value} {n esz j : Nat} {xs : List Value}
  {a : Act} {w w' : World} {f : Nat} {cal : Operand} {as_ : Array Operand} {ts : Array TypeId} {vs : List Value} {o : Oper}

theorem and15_nat (a : Int) : (BitVec.ofInt 64 a &&& BitVec.ofInt 64 15).toNat = (a % 16).toNat := by
  rw [BitVec.toNat_and, show (BitVec.ofInt 64 15).toNat = 2 ^ 4 - 1 by decide, Nat.and_two_pow_sub_one_eq_mod, BitVec.toNat_ofInt]
  show (a % 18446744073709551616).toNat % 16 = (a % 16).toNat
  omega
theorem o_and15 {q : Int} (h : ev C s x = some (.int .i64 q)) (h2 : ev C s z = some (.int .i64 15)) : OpV C s ⟨d, .binOp .and T x z T', ty, pos, aft, gd⟩ [] (.int .i64 (q % 16)) := opv _ _ (by simp) fun ρ w hr => by
  have hb : (Op.intBits .and .i64 q 15).run C.P w = .ok (.int .i64 (q % 16)) w := by
    have h1 := and15_nat q
    have h2 : IntKind.wrap .i64 (((q % 16).toNat : Nat) : Int) = q % 16 := by
      rw [wrap_i64 (by omega)]; omega
    show (pure (Value.int .i64 (IntKind.wrap .i64 (((BitVec.ofInt 64 q &&& BitVec.ofInt 64 15).toNat : Nat) : Int))) : Sem Value).run C.P w = _
    rw [h1, h2]; rfl
  simp [execOp, rd1 hr (x := x) (by simp [Op.operands]) h, rd1 hr (x := z) (by simp [Op.operands]) h2, eqGuard, binOp, Sem.run_bind, Result.andThen, hb]
theorem wrap_u8 {q : Int} (h : 0 ≤ q ∧ q < 256) : IntKind.wrap .u8 q = q := by
  simp [IntKind.wrap, IntKind.bits, IntKind.signed]
  omega
theorem o_conv8 {k' k'' : IntKind} {q : Int} [h1 : TInt C.P S k'] [h2 : TInt C.P T .u8] (h : ev C s x = some (.int k'' q)) (hr : 0 ≤ q ∧ q < 256) : OpV C s ⟨d, .convert S T x, ty, pos, aft, gd⟩ [] (.int .u8 q) := o_conv h (wrap_u8 hr)
theorem madeCells_one {zv : Value} (n : Nat) : (madeCells #[zv] n).toList = List.replicate n zv := by
  apply List.ext_getElem
  · simp [madeCells]
  · intro i h1 h2
    simp [madeCells, Nat.mod_one]
theorem o_makeSlice {n by_ : Nat} {zv : Value} [ht : TSl C.P T E 1] [he : TElem C.P E zv 1 by_] (h : ev C s x = some (.int .i64 (n : Int))) (h2 : ev C s z = some (.int .i64 (n : Int))) (hz : zv.cells = #[zv]) (hn : n ≤ 1000) (hby : Nat.ble by_ 128 = true) :
    OpN C s ⟨d, .makeSlice T x z, ty, pos, aft, gd⟩ (fun b => .slice (some ⟨b, 0, none⟩) n n) E (List.replicate n zv) :=
  ⟨by simp, fun ρ w hr => by
    obtain ⟨ie, hi, hz', hs2, hb⟩ := he.h
    have hby' : by_ ≤ 128 := Nat.le_of_ble_eq_true hby
    have hbb : (by_ : Int) * n ≤ 281474976710656 := by
      have h1 : by_ * n ≤ 128 * 1000 := Nat.mul_le_mul hby' hn
      have h2 : ((by_ * n : Nat) : Int) ≤ 128000 := by omega
      rw [Int.natCast_mul] at h2; omega
    have hm := run_makeSlice (P := C.P) (w := w) T E ie zv ht.h hi hz' .i64 .i64 (n : Int) (n : Int) (by omega) (Int.le_refl _) (by rw [hs2]; simp; omega) (by rw [hb]; exact hbb) (by omega)
    rw [hs2, hz] at hm
    simp only [Int.toNat_natCast, Nat.mul_one] at hm
    have e : madeCells #[zv] n = (List.replicate n zv).toArray := by rw [← madeCells_one n]
    rw [e] at hm
    simp [execOp, rd1 hr (x := x) (by simp [Op.operands]) h, rd1 hr (x := z) (by simp [Op.operands]) h2, Sem.run_bind, Result.andThen, hm]⟩

/-- a slice is made in a region that draws -/
theorem d_mkO {wf : Nat → Value → Prop} {L : Pr wf → List (Nat × Value)} {M : Pr wf → List (Nat × Hp)} {os : List Oper} {κs : List (List Nat)} {by_ : Nat} {zv : Value} [ht : TSl C.P T E 1] [he : TElem C.P E zv 1 by_] (hw : ∀ σ, wantS C (mk (L σ) (M σ) g gb dd) ops ⟨some i, .makeSlice T x z, ty, pos, aft, gd⟩ = some true)
    (h : ∀ σ, ev C (mk (L σ) (M σ) g gb dd) x = some (.int .i64 (n : Int))) (h2 : ∀ σ, ev C (mk (L σ) (M σ) g gb dd) z = some (.int .i64 (n : Int))) (hz : zv.cells = #[zv]) (hz1 : zv.oneCell' = true) (hn : n ≤ 1000) (hby : Nat.ble by_ 128 = true)
    (next : VDZ C ops os κs K (fun σ => mk ((i, .slice (some ⟨σ.b i, 0, none⟩) n n) :: L σ) ((i, .own (.slice (some ⟨σ.b i, 0, none⟩) n n) E 1 n (List.replicate n zv)) :: M σ) g gb dd)) : VDZ C ops (⟨some i, .makeSlice T x z, ty, pos, aft, gd⟩ :: os) ([] :: κs) K (fun σ => mk (L σ) (M σ) g gb dd) :=
  d_cons (.inl ⟨hw, .newO i n E 1 (fun _ => List.replicate n zv) rfl rfl (fun _ => by simp) (by unfold maxLen; omega) (fun _ u hu => by rw [List.eq_of_mem_replicate hu]; exact hz1) fun σ => o_makeSlice (h σ) (h2 σ) hz hn hby⟩) (by simp only [appP, appS, mk_mem, mk_put]; exact next)
/-! ### several things at once -/
theorem lk_cat {α : Type} : ∀ (l r : List (Nat × α)) (k : Nat), lk (l ++ r) k = match lk l k with | some v => some v | none => lk r k
  | [], r, k => rfl
  | (j, x) :: l, r, k => by
    simp only [List.cons_append, lk]
    split
    · rfl
    · exact lk_cat l r k
/-- the blocks of some things -/
def Blks (l : List (Nat × Hp)) (b : Nat) : Prop := ∃ k h, lk l k = some h ∧ h.blk = some b
/-- what some things come to be -/
structure News (olds news : List (Nat × Hp)) (w w' : World) : Prop where
  chg : Chg (Blks olds) w w'
  ok : ∀ k h, lk news k = some h → h.ok w'
  new : ∀ k h b, lk news k = some h → h.blk = some b → Blks olds b ∨ w.heap.size ≤ b
  inj : ∀ k k' h h' b, lk news k = some h → lk news k' = some h' → h.blk = some b → h'.blk = some b → k = k'
theorem rep_multi (hr : Rep C (mk l m g gb dd) a w) (olds news : List (Nat × Hp)) (oks keep : List Nat) (ho : sel oks m = some olds) (hs : sel keep m = some m') (hdj : (oks.any fun k => keep.contains k) = false) (hn : News olds news w w') : Rep C (mk l (news ++ m') g gb dd) a w' := by
  have hold : ∀ k h, lk olds k = some h → lk m k = some h := fun k h hh => sel_ok oks olds ho k h hh
  have hm : ∀ k h, lk m' k = some h → lk m k = some h ∧ ∀ h', ¬ lk olds k = some h' := fun k h hh => ⟨sel_ok keep m' hs k h hh, fun h' hh' => by
    have h1 := sel_key keep m' hs k h hh
    have h2 := sel_key oks olds ho k h' hh'
    have := List.any_eq_false.1 hdj k h2
    simp at this; exact this h1⟩
  have key1 : ∀ k h, lk m' k = some h → ∀ b, h.blk = some b → ¬ Blks olds b := fun k h hh b hb1 ⟨k', h', h1, h2⟩ => by
    have e := hr.inj k k' h h' b (hm k h hh).1 (hold k' h' h1) hb1 h2
    subst e
    exact (hm k h hh).2 h' h1
  have key2 : ∀ k h, lk m' k = some h → ∀ k' h', lk news k' = some h' → ∀ b, h.blk = some b → h'.blk = some b → False := fun k h hh k' h' hh' b e e' => by
    rcases hn.new k' h' b hh' e' with h1 | h1
    · exact key1 k h hh b e h1
    · have := Hp.lt (hr.mo k h (hm k h hh).1).1 e; omega
  have hmain : Rep C { mk l m g gb dd with m := lk (news ++ m') } a w' := by
    refine rep_chg hr _ hn.chg (fun b ⟨k, h, h1, h2⟩ _ => ⟨(hr.mo k h (hold k h h1)).2 b h2, fun hg => (hr.gd b hg).2 k h (hold k h h1) h2, fun o ho => ?_⟩) _ (fun k h hh => ?_) fun k k' h h' b hh hh' e e' => ?_
    · obtain ⟨o', h3, h4⟩ := Hp.isCells (hr.mo k h (hold k h h1)).1 h2
      rw [h3] at ho; cases ho; exact h4
    · rw [lk_cat] at hh
      split at hh
      · rename_i hv
        cases hh
        refine .inr ⟨hn.ok k h hv, fun b hb' => (hn.new k h b hv hb').imp (fun h1 => ⟨h1, ?_⟩) id⟩
        obtain ⟨k', h', h2, h3⟩ := h1
        exact Hp.lt (hr.mo k' h' (hold k' h' h2)).1 h3
      · exact .inl ⟨(hm k h hh).1, fun b hb' => key1 k h hh b hb'⟩
    · rw [lk_cat] at hh hh'
      cases h1 : lk news k with
      | none =>
        rw [h1] at hh
        cases h2 : lk news k' with
        | none => rw [h2] at hh'; exact hr.inj k k' h h' b (hm k h hh).1 (hm k' h' hh').1 e e'
        | some q => rw [h2] at hh'; cases hh'; exact (key2 k h hh k' _ h2 b e e').elim
      | some p =>
        rw [h1] at hh; cases hh
        cases h2 : lk news k' with
        | none => rw [h2] at hh'; exact (key2 k' h' hh' k _ h1 b e' e).elim
        | some q => rw [h2] at hh'; cases hh'; exact hn.inj k k' _ _ b h1 h2 e e'
  exact hmain
/-- a call that turns several things -/
theorem l_gmulti {α : Type} (Q : α → Prop) (news : α → List (Nat × Hp)) {olds : List (Nat × Hp)} (oks keep : List Nat) (hw : wantS C (mk l m g gb dd) ops ⟨some i, .call { callee := .value cal, args := as_, argTypes := ts }, ty, pos, aft, gd⟩ = some true) {caps : Array Value} (hcal : ev C (mk l m g gb dd) cal = some (.func (.func f) #[] caps)) (hent : ∀ args w, (callFunc f args).run C.P w = .ok (.enter f args) w) (hargs : evs C (mk l m g gb dd) as_.toList = some vs)
    (ho : sel oks m = some olds) (hs : sel keep m = some m') (hdj : (oks.any fun k => keep.contains k) = false)
    (hc : ∀ w, g w → (∀ k h, lk m k = some h → h.ok w) → (∀ k k' h h' b, lk m k = some h → lk m k' = some h' → h.blk = some b → h'.blk = some b → k = k') → (∀ b, gb b → ¬ Blks m b) → Calls C.P f (vs.toArray ++ caps) w fun e w' => (∃ y, e = .returned y) ∧ ∃ x, Q x ∧ News olds (news x) w w')
    (next : ∀ x y, Q x → VL C ops rest K (mk ((i, y) :: l) (news x ++ m') g gb dd)) : VL C ops (⟨some i, .call { callee := .value cal, args := as_, argTypes := ts }, ty, pos, aft, gd⟩ :: rest) K (mk l m g gb dd) :=
  vl_step hw fun a w hr => call_step (R := fun _ w' => ∃ x, Q x ∧ News olds (news x) w w') hr hcal hent hargs ((hc w hr.gh (fun k h hk => (hr.mo k h hk).1) hr.inj (fun b hb ⟨k, h, h1, h2⟩ => (hr.gd b hb).2 k h h1 h2)).mono fun e w' ⟨⟨y, h1⟩, h2⟩ => ⟨y, h1, h2⟩) fun y w' ⟨x, hq, hn⟩ =>
    ⟨mk ((i, y) :: l) (news x ++ m') g gb dd, by rw [← mk_put]; exact rep_put (rep_multi hr olds (news x) oks keep ho hs hdj hn) (some i) y, next x y hq⟩
/-- a function that turns several things, and hands nothing back -/
theorem calls_multi {P : Program} {f N : Nat} {fn : Func} {c : Code} {args : List Value} {w : World} {α : Type} (m0 : List (Nat × Hp)) (Q : α → Prop) (news : α → List (Nat × Hp)) (hf : P.funcs[f]? = some fn) (hb : fn.body = some c) (hn : fn.ntmps = N) (hrs : fn.results = #[]) (hok : ∀ k h, lk m0 k = some h → h.ok w)
    (hi0 : ∀ k k' h h' b, lk m0 k = some h → lk m0 k' = some h' → h.blk = some b → h'.blk = some b → k = k')
    (h : V ⟨P, w, N, 3, none, Blks m0, True⟩ c (retK ⟨P, w, N, 3, none, Blks m0, True⟩ [] (fun _ s => ∃ x, Q x ∧ ∀ k h, lk (news x) k = some h → s.m k = some h)) (mk (argsL 0 args) m0 (fun w' => Chg (Blks m0) w w') (fun b => b < w.heap.size ∧ ¬ Blks m0 b) []))
    (hsz : Nat.ble args.length N = true := by rfl) :
    Calls P f args.toArray w fun e w' => (∃ y, e = .returned y) ∧ ∃ x, Q x ∧ News m0 (news x) w w' := by
  refine (enter (Blks m0) m0 (fun _ s => ∃ x, Q x ∧ ∀ k h, lk (news x) k = some h → s.m k = some h) hf hb hn (by rw [hrs]) hsz (fun k h hk => ⟨hok k h hk, fun b hb => ⟨k, h, hk, hb⟩⟩) hi0 h).mono ?_
  rintro e w' ⟨v, s', rfl, ⟨x, hq, hk⟩, ho⟩
  exact ⟨⟨v, rfl⟩, x, hq, ho.fr, fun k h hh => (ho.mo k h (hk k h hh)).1, fun k h b hh hb => ((ho.mo k h (hk k h hh)).2 b hb).symm, fun k k' h h' b h1 h2 h3 h4 => ho.inj k k' h h' b (hk _ _ h1) (hk _ _ h2) h3 h4⟩
/-- a thing by another name -/
theorem v_renH (key key' : Nat) (keep : List Nat) {c : Code} {h0 : Hp} (hk : lk m key = some h0) (hs : sel keep m = some m') (hkeep : keep.contains key = false) (next : V C c K (mk l ((key', h0) :: m') g gb dd)) : V C c K (mk l m g gb dd) :=
  fun a w hr => next a w (rep_ownL hr hk (Chg.refl _ w) (hr.mo key _ hk).1 (fun b hb => .inl hb) key' keep hs hkeep)
/-- a field or an element of one cell is stored in a row of ours -/
theorem o_storeRF {f key : Nat} [ht : TOne C.P T] (h : ev C s x = some (.pointer (some ⟨blkOf v, offOf v + j * esz + f, none⟩))) (h2 : ev C s z = some u) (hc : u.cells.toList = [u]) (h1 : u.oneCell' = true) (hm : s.m key = some (.own v E esz n xs)) (hlt : j < n) (hf : f < esz) :
    OpS C s ⟨d, .store T x z, ty, pos, aft, gd⟩ key (.own v E esz n xs) (.own v E esz n (xs.take (j * esz + f) ++ [u] ++ xs.drop (j * esz + f + 1))) :=
  ⟨by simp, hm, rfl, fun ρ w hr hok => by
    have hxl := (show (Hp.own v E esz n xs).ok w from hok).1.1
    have hmul : j * esz + esz ≤ n * esz := by rw [← Nat.succ_mul]; exact Nat.mul_le_mul_right _ hlt
    obtain ⟨w', h3, h4, h5⟩ := own_store (P := C.P) hok (j * esz + f) [u] (by rw [hxl]; show j * esz + f + 1 ≤ _; omega) (fun q hq => by rw [List.mem_singleton.1 hq]; exact h1) (by simp)
    refine ⟨w', ?_, h4, h5⟩
    have hus : u.cells.size = 1 := by
      have : u.cells.toList.length = 1 := by rw [hc]; rfl
      simpa using this
    have hrow : (storeVar T ⟨blkOf v, offOf v + j * esz + f, none⟩ u).run C.P w = .ok () w' := by
      unfold storeVar
      rw [Sem.run_bind, ht.sz]
      rw [← Nat.add_assoc] at h3
      simp [Result.andThen, hus, hc, h3]
    simp [execOp, rd1 hr (x := x) (by simp [Op.operands]) h, rd1 hr (x := z) (by simp [Op.operands]) h2, Instr.storeAt, Instr.sureAddr, Sem.run_bind, Result.andThen, hrow]⟩
theorem o_storeR1 {key : Nat} [ht : TOne C.P T] (h : ev C s x = some (.pointer (some ⟨blkOf v, offOf v + j * 1, none⟩))) (h2 : ev C s z = some u) (hc : u.cells.toList = [u]) (h1 : u.oneCell' = true) (hm : s.m key = some (.own v E 1 n xs)) (hlt : j < n) (hx : j < xs.length) :
    OpS C s ⟨d, .store T x z, ty, pos, aft, gd⟩ key (.own v E 1 n xs) (.own v E 1 n (xs.set j u)) := by
  have e : xs.set j u = xs.take (j * 1 + 0) ++ [u] ++ xs.drop (j * 1 + 0 + 1) := by
    rw [List.set_eq_take_append_cons_drop, if_pos hx]; simp
  rw [e]
  exact o_storeRF (f := 0) h h2 hc h1 hm hlt (by omega)
end Go.Proofs.Ytaijclimdfchfaa
