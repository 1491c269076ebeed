import Derived.Test.YtaijclimdfchfaaKG
/- A range over a function, from both sides. Conditions: none. -/
namespace Go.Proofs.Ytaijclimdfchfaa
open Go.Proofs Go.RowKit

variable {C : Cx} {K : Exit → St → Prop} {ops : Array Oper} {rest : List Oper} {l l' : List (Nat × Value)} {m m' : List (Nat × Hp)} {g : World → Prop} {gb : Nat → Prop} {dd : List Nat}
  {i : Nat} {d : Option Nat} {op : Op} {ty : TypeId} {pos : String} {aft : Array Edge} {gd : Option (Nat × Bool)} {s : St} {a : Act} {w w' : World}

/-- AN ITERATOR: it hands on xs, one by one, whatever the rounds do to what is theirs (O), as long as what it reads (G) holds; a round may say 'no more' (Jx) -/
def Iter (P : Program) (gf : Nat) (lb : Array Value) {α : Type} (encs : α → List Value) (xs : List α) (G : World → Prop) : Prop :=
  ∀ (lp : Nat) (J : Nat → (Nat → Prop) → World → Prop) (Jx : World → Prop) (O : Nat → Prop) (W : World),
    (∀ k O W W', J k O W → Chg (fun _ => False) W W' → J k O W') → (∀ W W', Jx W → Chg (fun _ => False) W W' → Jx W') →
    (∀ k O W, J k O W → G W ∧ ∀ b, O b → b < W.heap.size) →
    (∀ k x O W1, xs[k]? = some x → J k O W1 → YieldAt Fence.wide 2 P lp (encs x).toArray W1 fun e W' =>
      (e = .returned (.bool true) ∧ Chg O W1 W' ∧ ∃ O', J (k + 1) O' W' ∧ ∀ b, O' b → O b ∨ W1.heap.size ≤ b) ∨ (e = .returned (.bool false) ∧ Chg O W1 W' ∧ Jx W')) →
    J 0 O W → Calls P gf (#[.func (.yield lp) #[] #[]] ++ lb) W fun e W' => (∃ v, e = .returned v) ∧ ((∃ O', J xs.length O' W') ∨ Jx W')

theorem rep_obj (hr : Rep C s a w) {r : Nat} {o : Obj} (o' : Obj) (h : w.heap[r]? = some o) (ho : o.isCells = false) (hlo : C.w0.heap.size ≤ r) (hgb : ¬ s.gb r) (hd : r ∉ s.d) : Rep C s a (w.putObj r o') := by
  have hc : Chg (fun b => b = r) w (w.putObj r o') := ⟨rfl, rfl, rfl, by simp, fun k _ hn => World.putObj_heap_other hn⟩
  have hne : ∀ k p, s.m k = some p → ∀ b, p.blk = some b → b ≠ r := fun k p hk b hb e => by
    subst e
    obtain ⟨o2, h1, h2⟩ := Hp.isCells (hr.mo k p hk).1 hb
    rw [h] at h1; cases h1; rw [ho] at h2; cases h2
  refine ⟨hr.dfs, fun D hD => (World.putObj_heap_other (fun e => hd (by rw [← e]; exact hD))).trans (hr.dd D hD), hr.dg, hr.dn, hr.sz, hr.tm, fun k p hk => ⟨Hp.keep (hr.mo k p hk).1 fun b hb => World.putObj_heap_other (hne k p hk b hb), (hr.mo k p hk).2⟩, hr.inj,
    hr.st w _ (hc.mono fun k _ e => by subst e; exact hgb) hr.gh, fun b hb => ⟨by simpa using (hr.gd b hb).1, (hr.gd b hb).2⟩, hr.st, hr.fr.trans (hc.mono fun k _ e => .inr (by subst e; exact hlo)), fun hp => ⟨Nat.le_trans (hr.ko hp).size (by simp), fun k o2 hk hco => (World.putObj_heap_other (fun e => ?_)).trans ((hr.ko hp).same k o2 hk hco)⟩⟩
  have := (Array.getElem?_eq_some_iff.1 hk).1
  omega

theorem rep_cx (hr : Rep C (mk l m g gb dd) a w) (n' : Nat) (ro' : Option Nat) (Wa : Nat → Prop) (hW : ∀ k h b, lk m k = some h → h.blk = some b → Wa b) : Rep ⟨C.P, w, C.N, n', ro', Wa, True⟩ (mk l m g gb []) { a with defers := [] } w :=
  ⟨rfl, fun _ h => (by cases h), fun _ h => (by cases h), List.nodup_nil, hr.sz, hr.tm, fun k h hk => ⟨(hr.mo k h hk).1, fun b hb => .inr (hW k h b hk hb)⟩, hr.inj, hr.gh, hr.gd, hr.st, Chg.refl _ _, fun _ => KeepsOthers.refl _⟩
theorem rep_back {n' : Nat} {ro' : Option Nat} {s1 : St} {a1 : Act} {Wa : Nat → Prop} (hr : Rep C (mk l m g gb dd) a w) (hr1 : Rep ⟨C.P, w, C.N, n', ro', Wa, True⟩ s1 a1 w') (hW : ∀ b, Wa b → C.own b) (hg : s1.g = g) (hgb : s1.gb = gb) (m' : List (Nat × Hp)) (hm' : ∀ k h, lk m' k = some h → s1.m k = some h) : Rep C (mk l m' g gb dd) a w' := by
  refine ⟨hr.dfs, fun D hD => (hr1.ko trivial).same D _ (hr.dd D hD) rfl, hr.dg, hr.dn, hr.sz, hr.tm, fun k h hk => ⟨(hr1.mo k h (hm' k h hk)).1, fun b hb => ?_⟩, fun k k' h h' b e e' => hr1.inj k k' h h' b (hm' _ _ e) (hm' _ _ e'), by have := hr1.gh; rwa [hg] at this,
    fun b hb => ?_, hr.st, hr.fr.trans (hr1.fr.mono fun k _ h => ?_), fun hp => (hr.ko hp).trans (hr1.ko trivial)⟩
  · rcases (hr1.mo k h (hm' k h hk)).2 b hb with h | h
    · exact .inl (Nat.le_trans hr.fr.size h)
    · exact hW b h
  · have := hr1.gd b (by rw [hgb]; exact hb)
    exact ⟨this.1, fun k h hk => this.2 k h (hm' k h hk)⟩
  · rcases hW k h with h | h
    · exact .inr h
    · exact .inl h
/-- the loop's record is turned; from here on anew -/
theorem rep_obj2 (hr : Rep C s a w) {r : Nat} {o : Obj} (o' : Obj) (h : w.heap[r]? = some o) (ho : o.isCells = false) (hgb : ¬ s.gb r) (hd : s.d = []) (Wb : Nat → Prop) (hW : ∀ b, C.own b → Wb b) : Rep ⟨C.P, w.putObj r o', C.N, C.n, C.ro, Wb, True⟩ s a (w.putObj r o') := by
  have hc : Chg (fun b => b = r) w (w.putObj r o') := ⟨rfl, rfl, rfl, by simp, fun k _ hn => World.putObj_heap_other hn⟩
  have hne : ∀ k p, s.m k = some p → ∀ b, p.blk = some b → b ≠ r := fun k p hk b hb e => by
    subst e
    obtain ⟨o2, h1, h2⟩ := Hp.isCells (hr.mo k p hk).1 hb
    rw [h] at h1; cases h1; rw [ho] at h2; cases h2
  refine ⟨hr.dfs, fun D hD => ?_, fun D hD => ?_, hr.dn, hr.sz, hr.tm, fun k p hk => ⟨Hp.keep (hr.mo k p hk).1 fun b hb => World.putObj_heap_other (hne k p hk b hb), fun b hb => .inr (hW b ((hr.mo k p hk).2 b hb))⟩, hr.inj,
    hr.st w _ (hc.mono fun k _ e => by subst e; exact hgb) hr.gh, fun b hb => ⟨by simpa using (hr.gd b hb).1, (hr.gd b hb).2⟩, hr.st, Chg.refl _ _, fun _ => KeepsOthers.refl _⟩
  · rw [hd] at hD; cases hD
  · rw [hd] at hD; cases hD

def zipR : List Nat → List Value → List (Nat × Value) → List (Nat × Value)
  | p :: ps, v :: vs, l => zipR ps vs ((p, v) :: l)
  | _, _, l => l
theorem rep_zip : ∀ (ps : List Nat) (vs : List Value) (l : List (Nat × Value)) (t : Array Value) (ds : List Deferred), Rep C (mk l m g gb dd) ⟨t, ds⟩ w → Rep C (mk (zipR ps vs l) m g gb dd) ⟨(ps.zip vs).foldl (fun t p => t.setIfInBounds p.1 p.2) t, ds⟩ w
  | [], _, l, t, ds, h => by simpa [zipR] using h
  | p :: ps, [], l, t, ds, h => by simpa [zipR] using h
  | p :: ps, v :: vs, l, t, ds, h => by
    have h1 := rep_put h (some p) v
    rw [mk_put] at h1
    exact rep_zip ps vs _ _ ds h1

theorem v_range {α τ : Type} {fo : Operand} {ps : Array Tmp} {assign body : Code} {gf : Nat} {lb : Array Value} {encs : α → List Value} {xs : List α} {G : World → Prop} (hro : C.ro = none) (hn3 : C.n = 3)
    (hf : ev C (mk l m g gb dd) fo = some (.func (.func gf) #[] lb)) (hent : ∀ args w, (callFunc gf args).run C.P w = .ok (.enter gf args) w) (hit : Iter C.P gf lb encs xs G) (hG : ∀ W, g W → G W) (hps : ∀ x, (encs x).length = ps.size)
    (Mt : τ → List (Nat × Hp)) (Q : Nat → τ → Prop) (t0 : τ) (h0 : Q 0 t0) (km : List Nat) (hm0 : sel km m = some (Mt t0))
    (round : ∀ k x t lp W1 Wa, xs[k]? = some x → Q k t → V ⟨C.P, W1, C.N, 2, some lp, Wa, True⟩ assign (fun e s1 => e = .normal ∧ s1.g = g ∧ s1.gb = gb ∧ s1.d = [] ∧
      ∀ W2 Wb, V ⟨C.P, W2, C.N, 2, some lp, Wb, True⟩ body (fun e s2 => e = .normal ∧ ∃ t', Q (k + 1) t' ∧ Le s2 (mk [] (Mt t') g gb [])) s1) (mk (zipR ps.toList (encs x) l) (Mt t) g gb []))
    (next : ∀ t D, Q xs.length t → K .normal (mk l (Mt t) g gb (D :: dd))) : V C (.rangeFunc fo ps assign body) K (mk l m g gb dd) := by
  intro a w hr
  have hF : C.F = Fence.wide := by unfold Cx.F; rw [hro]
  refine wpIn_rangeFunc ?_
  intro fn hfn
  rw [C.rnd, hro]
  obtain ⟨rec, hrec⟩ : ∃ rec : LoopState → Option Code → Loop, rec = fun st pe => { state := st, pending := pe, fn, tmps := a.tmps, params := ps, assign, body, defers := w.heap.size } := ⟨_, rfl⟩
  obtain ⟨W1, hW1⟩ : ∃ W1, (w.alloc (.deferred (some []))).alloc (.loop (rec .ready none)) = W1 := ⟨_, rfl⟩
  have hL1 : W1.heap[w.heap.size + 1]? = some (.loop (rec .ready none)) := by
    rw [← hW1]; have := World.alloc_heap_new (w.alloc (.deferred (some []))) (.loop (rec .ready none)); rwa [World.size_alloc] at this
  have hK1 : W1.heap[w.heap.size]? = some (.deferred (some [])) := by
    rw [← hW1]; exact (Below.heap_alloc _ _ _ (by simp)).trans (World.alloc_heap_new w _)
  have hb1 : Below w.heap.size w W1 := by
    rw [← hW1]; exact ((Below.refl _ w).alloc (Nat.le_refl _) _).alloc (by simp) _
  have hsz1 := hr.fr.size
  have hlp : C.w0.heap.size ≤ w.heap.size + 1 := by omega
  have hgbl : ¬ gb (w.heap.size + 1) := fun h => by have := (hr.gd _ h).1; omega
  have hddl : ∀ D ∈ dd, D < w.heap.size := fun D hD => (Array.getElem?_eq_some_iff.1 (hr.dd D hD)).1
  have hdl : w.heap.size + 1 ∉ w.heap.size :: dd := fun h => by
    rcases List.mem_cons.1 h with h | h
    · omega
    · have := hddl _ h; omega
  have hr1 : Rep C (mk l (Mt t0) g gb (w.heap.size :: dd)) { a with defers := mark w.heap.size :: a.defers } W1 := by
    have h1 := rep_le (rep_below hr hb1) (s' := mk l (Mt t0) g gb dd) ⟨fun _ _ h => h, sel_ok km _ hm0, rfl, rfl, rfl⟩
    refine ⟨?_, fun D hD => ?_, fun D hD => ?_, List.nodup_cons.2 ⟨fun h => by have := hddl _ h; omega, hr.dn⟩, h1.sz, h1.tm, h1.mo, h1.inj, h1.gh, h1.gd, h1.st, h1.fr, h1.ko⟩
    · show mark w.heap.size :: a.defers = mark w.heap.size :: List.map mark dd
      rw [hr.dfs]; rfl
    · rcases List.mem_cons.1 hD with h | h
      · subst h; exact hK1
      · exact h1.dd D h
    · rcases List.mem_cons.1 hD with h | h
      · subst h; exact ⟨hsz1, fun h => by have := (hr.gd _ h).1; omega⟩
      · exact h1.dg D h
  refine ⟨w.heap.size + 1, [mark w.heap.size], W1, { target := .fn (.func gf) lb, args := #[.func (.yield (w.heap.size + 1)) #[] #[]] }, W1, gf,
    #[.func (.yield (w.heap.size + 1)) #[] #[]] ++ lb, W1, ?_, ?_, ?_, ?_, fun _ => by omega, ?_⟩
  · rw [← hW1, hrec]; exact run_enterLoop_outer _ _ _ _ _
  · simp only [resolve, ev_ok hr hf]
    simp [go_sem]
  · intro f' _; exact C.all f'
  · simp [invoke, go_sem, hent]
  · have hJ : ∀ (k : Nat) (O : Nat → Prop) (W : World), (∃ t, Q k t ∧ Rep C (mk l (Mt t) g gb (w.heap.size :: dd)) { a with defers := mark w.heap.size :: a.defers } W ∧ W.heap[w.heap.size + 1]? = some (.loop (rec .ready none)) ∧ ∀ b, O b ↔ (b = w.heap.size + 1 ∨ ∃ j h, lk (Mt t) j = some h ∧ h.blk = some b)) → True := fun _ _ _ _ => trivial
    clear hJ
    have main := hit (w.heap.size + 1) (fun k O W => ∃ t, Q k t ∧ Rep C (mk l (Mt t) g gb (w.heap.size :: dd)) { a with defers := mark w.heap.size :: a.defers } W ∧ W.heap[w.heap.size + 1]? = some (.loop (rec .ready none)) ∧ ∀ b, O b ↔ (b = w.heap.size + 1 ∨ ∃ j h, lk (Mt t) j = some h ∧ h.blk = some b))
      (fun _ => False) (fun b => b = w.heap.size + 1 ∨ ∃ j h, lk (Mt t0) j = some h ∧ h.blk = some b) W1
      (fun k O W W' ⟨t, h1, h2, h3, h4⟩ hc => ⟨t, h1, rep_chg h2 (fun _ => False) hc (fun _ h => h.elim) _ (fun _ _ h => .inl ⟨h, fun _ _ h => h⟩) h2.inj, (hc.block _ (Array.getElem?_eq_some_iff.1 h3).1 (fun h => h)).trans h3, h4⟩)
      (fun _ _ h _ => h)
      (fun k O W ⟨t, h1, h2, h3, h4⟩ => ⟨hG W h2.gh, fun b hb => by
        rcases (h4 b).1 hb with h | ⟨j, h, hj, hb⟩
        · subst h; exact (Array.getElem?_eq_some_iff.1 h3).1
        · exact Hp.lt (h2.mo j h hj).1 hb⟩)
      ?_ ⟨t0, h0, hr1, hL1, fun _ => Iff.rfl⟩
    · rw [hF, hn3]
      refine callsIn_wide.2 (main.mono ?_)
      rintro e W2 ⟨⟨v, rfl⟩, ⟨O', t, hQ, hrep, hl, _⟩ | h⟩
      · refine ⟨none, _, by have := run_endLoop (P := C.P) hl (by rw [hrec]; simp); rw [hrec] at this; exact this, ⟨_, rep_obj hrep _ hl rfl hlp hgbl hdl, next t _ hQ⟩⟩
      · exact h.elim
    · -- ONE ROUND
      rintro k x O W hx ⟨t, hQ, hrep, hl, hO⟩
      have hlt := (Array.getElem?_eq_some_iff.1 hl).1
      have hy := run_yield (P := C.P) (args := (encs x).toArray) hl (by rw [hrec]; simpa using hps x)
      rw [hrec] at hy
      refine ⟨fn, _, assign, body, hy, roundIn_of_wpIn (F := Fence.wide) (n := 2) (by trivial) ?_⟩
      clear hy
      have hz := rep_zip (C := ⟨C.P, W, C.N, 2, some (w.heap.size + 1), fun b => ∃ j h, lk (Mt t) j = some h ∧ h.blk = some b, True⟩) ps.toList (encs x) l a.tmps [] (rep_cx hrep 2 (some (w.heap.size + 1)) _ (fun j h b hj hb => ⟨j, h, hj, hb⟩))
      have hOt : ∀ b, (∃ j h, lk (Mt t) j = some h ∧ h.blk = some b) → C.own b := fun b ⟨j, h, hj, hb⟩ => (hrep.mo j h hj).2 b hb
      have hszW := hrep.fr.size
      have htm : (ps.zip (encs x).toArray).foldl (fun t (p : Nat × Value) => t.setIfInBounds p.1 p.2) a.tmps = (ps.toList.zip (encs x)).foldl (fun t p => t.setIfInBounds p.1 p.2) a.tmps := by
        rw [← Array.foldl_toList, Array.toList_zip]
      have h1 := round k x t (w.heap.size + 1) W _ hx hQ _ W hz
      refine wpIn_mono (a := { tmps := (ps.zip (encs x).toArray).foldl (fun t (p : Nat × Value) => t.setIfInBounds p.1 p.2) a.tmps, defers := [] }) (by rw [htm]; exact h1) ?_
      rintro e a1 w1 ⟨s1, hr1', rfl, hsg, hsgb, hsd, hbody⟩
      -- behind the assignment: the record is taken up
      have hl1 : w1.heap[w.heap.size + 1]? = some (.loop (rec .ready none)) := (hr1'.ko trivial).same _ _ hl rfl
      refine ⟨_, run_beginRound hl1 (by rw [hrec]), ?_⟩
      have ho1 := rep_back hrep hr1' hOt hsg hsgb [] (fun _ _ h => by cases h)
      have ho2 := rep_obj ho1 (.loop { rec .ready none with state := .busy }) hl1 rfl hlp hgbl hdl
      have hl2 : (w1.putObj (w.heap.size + 1) (.loop { rec .ready none with state := .busy })).heap[w.heap.size + 1]? = some (.loop { rec .ready none with state := .busy }) := World.putObj_heap_same (Array.getElem?_eq_some_iff.1 hl1).1
      generalize hW2 : w1.putObj (w.heap.size + 1) (.loop { rec .ready none with state := .busy }) = W2 at ho2 hl2 ⊢
      have hr2 : Rep ⟨C.P, W2, C.N, 2, some (w.heap.size + 1), fun b => W.heap.size ≤ b ∨ ∃ j h, lk (Mt t) j = some h ∧ h.blk = some b, True⟩ s1 a1 W2 := by
        have h2 := rep_obj2 hr1' (.loop { rec .ready none with state := .busy }) hl1 rfl (by rw [hsgb]; exact hgbl) hsd (fun b => W.heap.size ≤ b ∨ ∃ j h, lk (Mt t) j = some h ∧ h.blk = some b) (fun b hb => hb)
        rw [hW2] at h2
        exact h2
      have hcw2 : Chg (fun b => b = w.heap.size + 1) w1 W2 := by
        rw [← hW2]; exact ⟨rfl, rfl, rfl, by simp, fun k _ hn => World.putObj_heap_other hn⟩
      have hWb : ∀ b, (W.heap.size ≤ b ∨ ∃ j h, lk (Mt t) j = some h ∧ h.blk = some b) → C.own b := fun b hb => by
        rcases hb with h | h
        · exact .inl (Nat.le_trans hszW h)
        · exact hOt b h
      refine wpIn_mono (hbody W2 _ a1 W2 hr2) ?_
      rintro e a3 w3 ⟨s3, hr3, rfl, t', hQ', hle⟩
      have hl3 : w3.heap[w.heap.size + 1]? = some (.loop { rec .ready none with state := .busy }) := (hr3.ko trivial).same _ _ hl2 rfl
      have ho3 := rep_back ho2 hr3 hWb hle.g.symm hle.gb.symm (Mt t') hle.m
      have ho4 := rep_obj ho3 (.loop (rec .ready none)) hl3 rfl hlp hgbl hdl
      have hend := run_endRound (P := C.P) none hl3
      rw [hrec] at hend
      refine ⟨_, _, hend, .inl ⟨rfl, ?_, _, ⟨t', hQ', by rw [hrec] at ho4; exact ho4, by rw [hrec]; exact World.putObj_heap_same (Array.getElem?_eq_some_iff.1 hl3).1, fun _ => Iff.rfl⟩, fun b hb => ?_⟩⟩
      · refine Chg.trans (b := w1) (hr1'.fr.mono fun k _ h => (hO k).2 (.inr h)) (Chg.trans (b := W2) (hcw2.mono fun k _ h => .inl ((hO k).2 (.inl h))) (Chg.trans (b := w3) (hr3.fr.mono fun k _ h => ?_) ?_))
        · rcases h with h | h
          · exact .inl (.inr h)
          · exact .inl (.inl ((hO k).2 (.inr h)))
        · refine Chg.mono (S := fun b => b = w.heap.size + 1) ⟨rfl, rfl, rfl, by simp, fun k _ hn => World.putObj_heap_other hn⟩ fun k _ h => .inl (.inl (.inl ((hO k).2 (.inl h))))
      · rcases hb with h | ⟨j, h, hj, hb⟩
        · exact .inl ((hO b).2 (.inl h))
        · rcases (hr3.mo j h (hle.m j h hj)).2 b hb with h' | h' | h'
          · right
            have h1s : W.heap.size ≤ w1.heap.size := hr1'.fr.size
            have h2s : w1.heap.size ≤ W2.heap.size := hcw2.size
            have h3s : W2.heap.size ≤ b := h'
            omega
          · exact .inr h'
          · exact .inl ((hO b).2 (.inr h'))

/-! ### a loop, by lists -/
def leL {α : Type} (l : List (Nat × α)) : List (Nat × α) → Prop
  | [] => True
  | (i, v) :: r => lk l i = some v ∧ leL l r
theorem leL_ok {α : Type} {l : List (Nat × α)} : ∀ (l' : List (Nat × α)), leL l l' → ∀ i v, lk l' i = some v → lk l i = some v
  | [], _, i, v, h => by cases h
  | (j, u) :: r, ⟨h1, h2⟩, i, v, h => by
    simp only [lk] at h
    split at h
    · rename_i hb
      have := Nat.eq_of_beq_eq_true hb
      subst this; cases h; exact h1
    · exact leL_ok r h2 i v h
theorem lk_app {α : Type} : ∀ (l1 l2 : List (Nat × α)) (i : Nat) (v : α), lk (l1 ++ l2) i = some v → lk l1 i = some v ∨ lk l2 i = some v
  | [], l2, i, v, h => .inr h
  | (j, u) :: r, l2, i, v, h => by
    simp only [List.cons_append, lk] at h ⊢
    split at h
    · exact .inl h
    · exact lk_app r l2 i v h
theorem le_app {lc lv : List (Nat × Value)} {mc mv : List (Nat × Hp)} (h1 : leL l lv) (kl : List Nat) (h2 : sel kl l = some lc) (h3 : leL m mv) (km : List Nat) (h4 : sel km m = some mc) : Le (mk l m g gb dd) (mk (lv ++ lc) (mv ++ mc) g gb dd) :=
  ⟨fun i v h => (lk_app lv lc i v h).elim (leL_ok lv h1 i v) (sel_ok kl lc h2 i v), fun i v h => (lk_app mv mc i v h).elim (leL_ok mv h3 i v) (sel_ok km mc h4 i v), rfl, rfl, rfl⟩
theorem v_loopL {α : Type} {c : Code} (lv : α → List (Nat × Value)) (mv : α → List (Nat × Hp)) (gv : α → World → Prop) (gbv : α → Nat → Prop) {lc : List (Nat × Value)} {mc : List (Nat × Hp)} (Q : α → Prop) (μ : α → Nat) (x0 : α) (kl km : List Nat) (h0 : Q x0)
    (hg : g = gv x0) (hgb : gb = gbv x0) (h1 : leL l (lv x0)) (h2 : sel kl l = some lc) (h3 : leL m (mv x0)) (h4 : sel km m = some mc)
    (round : ∀ x, Q x → V C c (thenK (fun s' => ∃ x', Q x' ∧ μ x' < μ x ∧ Le s' (mk (lv x' ++ lc) (mv x' ++ mc) (gv x') (gbv x') dd)) K) (mk (lv x ++ lc) (mv x ++ mc) (gv x) (gbv x) dd)) : V C (.loop c) K (mk l m g gb dd) :=
  v_loopT (fun x => mk (lv x ++ lc) (mv x ++ mc) (gv x) (gbv x) dd) Q μ x0 h0 (by subst hg hgb; exact le_app h1 kl h2 h3 km h4) round
/-- the same, where what is said of other memory stays -/
theorem v_loopS {α : Type} {c : Code} (lv : α → List (Nat × Value)) (mv : α → List (Nat × Hp)) {lc : List (Nat × Value)} {mc : List (Nat × Hp)} (Q : α → Prop) (μ : α → Nat) (x0 : α) (kl km : List Nat) (h0 : Q x0)
    (h1 : leL l (lv x0)) (h2 : sel kl l = some lc) (h3 : leL m (mv x0)) (h4 : sel km m = some mc)
    (round : ∀ x, Q x → V C c (thenK (fun s' => ∃ x', Q x' ∧ μ x' < μ x ∧ Le s' (mk (lv x' ++ lc) (mv x' ++ mc) g gb dd)) K) (mk (lv x ++ lc) (mv x ++ mc) g gb dd)) : V C (.loop c) K (mk l m g gb dd) :=
  v_loopL lv mv (fun _ => g) (fun _ => gb) Q μ x0 kl km h0 rfl rfl h1 h2 h3 h4 round

/-! ### the iterator's side -/
/-- a call of yield: what the iterator has made lies idle; what it reads anew it is told of the world behind the round -/
theorem l_yield {k : Nat} {cal : Operand} {as_ : Array Operand} {ts : Array TypeId} {vs : List Value} {lp : Nat} {A B : World → Prop} (hro : C.ro = none) (hn3 : C.n = 3) (hCW : ∀ b, C.W b) (hkp : ¬ C.kp)
    (hw : wantS C (mk l m g gb []) ops ⟨some i, .call { callee := .value cal, args := as_, argTypes := ts }, ty, pos, aft, gd⟩ = some true) (hcal : ev C (mk l m g gb []) cal = some (.func (.yield lp) #[] #[])) (hargs : evs C (mk l m g gb []) as_.toList = some vs)
    (hy : ∀ w, g w → ∃ O : Nat → Prop, YieldAt Fence.wide 2 C.P lp vs.toArray w fun e w' => (e = .returned (.bool true) ∧ Chg O w w' ∧ A w') ∨ (e = .returned (.bool false) ∧ Chg O w w' ∧ B w'))
    (yes : ∀ W1, A W1 → VL C ops rest K (mk ((i, .bool true) :: l) [] (fun w => Chg (fun _ => False) W1 w) (fun b => b < W1.heap.size) []))
    (no : ∀ W1, B W1 → VL C ops rest K (mk ((i, .bool false) :: l) [] (fun w => Chg (fun _ => False) W1 w) (fun b => b < W1.heap.size) [])) :
    VL C ops (⟨some i, .call { callee := .value cal, args := as_, argTypes := ts }, ty, pos, aft, gd⟩ :: rest) K (mk l m g gb []) :=
  vl_step hw fun a w hr => by
    obtain ⟨O, fn, tmps, assign, body, hrun, hR⟩ := hy w hr.gh
    have hF : C.F = Fence.wide := by unfold Cx.F; rw [hro]
    have hc := ev_ok hr hcal
    have ha : as_.map a.eval = vs.toArray := by
      apply Array.ext'
      simpa using args_of (d := some i) (ty := ty) (pos := pos) (aft := aft) (gd := gd) (cal := cal) (ts := ts) (reads_of hr) hargs
    have hex : (execOp a.eval ⟨some i, .call { callee := .value cal, args := as_, argTypes := ts }, ty, pos, aft, gd⟩).run C.P w = .ok (.round lp fn tmps assign body) w := by
      simp [execOp, resolve, hc, Deferred.ofValue, invoke, Sem.run_bind, Result.andThen, ha, hrun]
    refine ⟨fun f _ => C.all f, ?_⟩
    rw [Oper.semAt_eq _ _ _ (by simp), hex, hF, hn3]
    refine ⟨by simp [Fence.wide], hR.mono ?_⟩
    have fin : ∀ (b : Bool) (W1 : World), Chg O w W1 → Rep C (mk ((i, .bool b) :: l) [] (fun w => Chg (fun _ => False) W1 w) (fun b => b < W1.heap.size) []) (a.put (some i) (.bool b)) W1 := fun b W1 hch => by
      rw [← mk_put]
      refine rep_put (s := mk l [] _ _ []) ?_ (some i) _
      exact ⟨hr.dfs, fun _ h => (by cases h), fun _ h => (by cases h), List.nodup_nil, hr.sz, hr.tm, fun k h hk => (by cases hk), fun k k' h h' b hk => (by cases hk), Chg.refl _ _, fun b hb => ⟨hb, fun k h hk => (by cases hk)⟩,
        fun w1 w2 hc2 h1 => h1.trans (hc2.mono fun k _ hn => (Decidable.em (k < W1.heap.size)).elim (fun h => absurd h hn) (fun h => .inr (by omega))),
        hr.fr.trans (hch.mono fun k _ _ => .inl (hCW k)), fun hp => absurd hp hkp⟩
    rintro e w' (⟨rfl, h1, h2⟩ | ⟨rfl, h1, h2⟩)
    · exact ⟨_, fin true w' h1, yes w' h2⟩
    · exact ⟨_, fin false w' h1, no w' h2⟩

/-- INTO an iterator and out of it -/
theorem enterI {P : Program} {f N : Nat} {fn : Func} {c : Code} {args : List Value} {W : World} {A : World → Prop} (hf : P.funcs[f]? = some fn) (hb : fn.body = some c) (hn : fn.ntmps = N) (hrs : fn.results = #[]) (hsz : Nat.ble args.length N = true)
    (hA : ∀ w w', A w → Chg (fun _ => False) w w' → A w')
    (h : V ⟨P, W, N, 3, none, fun _ => True, False⟩ c (retK ⟨P, W, N, 3, none, fun _ => True, False⟩ [] (fun _ s => s.d = [] ∧ ∀ w, s.g w → A w)) (mk (argsL 0 args) [] (fun w => Chg (fun _ => False) W w) (fun b => b < W.heap.size) [])) :
    Calls P f args.toArray W fun e w' => (∃ v, e = .returned v) ∧ A w' := by
  refine callsIn_wide (n := 3).1 (callsIn_of_wp_marks hf hb trivial ?_)
  have hle : args.length ≤ N := Nat.le_of_ble_eq_true hsz
  have hrep : Rep ⟨P, W, N, 3, none, fun _ => True, False⟩ (mk (argsL 0 args) [] (fun w => Chg (fun _ => False) W w) (fun b => b < W.heap.size) []) { tmps := args.toArray ++ Array.replicate (fn.ntmps - args.toArray.size) undef, defers := [] } W := by
    refine ⟨rfl, fun _ h => (by cases h), fun _ h => (by cases h), List.nodup_nil, by simp [hn]; omega, fun i v hi hv => ?_, fun k h hk => (by cases hk), fun k k' h h' b hk => (by cases hk), Chg.refl _ _, fun b hb => ⟨hb, fun k h hk => (by cases hk)⟩,
      fun w1 w2 hc2 h1 => h1.trans (hc2.mono fun k _ hn => (Decidable.em (k < W.heap.size)).elim (fun h => absurd h hn) (fun h => .inr (by omega))), Chg.refl _ _, fun hp => hp.elim⟩
    have := (argsL_ok args 0 i v hv).2
    have hlt := (List.getElem?_eq_some_iff.1 this).1
    rw [Array.getD_eq_getD_getElem?, Array.getElem?_append_left (by simpa using hlt)]
    simp at this
    simp [this]
  refine wpIn_mono (h _ _ hrep) ?_
  rintro e a' w' ⟨s', hr', hk⟩
  have fin : (∃ vs, ResAll ⟨P, W, N, 3, none, fun _ => True, False⟩ s' [] vs ∧ s'.d = [] ∧ ∀ w, s'.g w → A w) → LeavesInM Fence.wide 3 P fn a'.tmps (fun e w' => (∃ v, e = .returned v) ∧ A w') a'.defers .returning w' := by
    rintro ⟨vs, h1, h2, h3⟩
    cases h1
    rw [hr'.dfs, h2]
    refine ⟨.tuple #[], ?_, ⟨_, rfl⟩, h3 _ hr'.gh⟩
    rw [show results fn a'.tmps = (do let vs ← fn.results.mapM (rdRes a'.tmps); pure (if h : vs.size = 1 then vs[0] else .tuple vs)) from rfl, hrs]
    simp
  cases e with
  | ret => exact fin hk
  | normal => exact fin hk
  | _ => exact hk.elim
end Go.Proofs.Ytaijclimdfchfaa
