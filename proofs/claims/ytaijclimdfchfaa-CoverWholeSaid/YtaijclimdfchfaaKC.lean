import Derived.Test.YtaijclimdfchfaaKB
/- THE DRAW: where a region draws its order, one run in the order of the text tells it all; what stands behind all else in the region comes in its order. Conditions: none. -/
namespace Go.Proofs.Ytaijclimdfchfaa
open Go.Proofs Go.RowKit

variable {C : Cx} {ops : Array Oper} {K : Exit → St → Prop}

/-- who is ahead of whom, by the edges that bind: a set of bits for each operation -/
def ancStep (acc : List Nat) (o : Oper) : Nat := o.after.toList.foldl (fun z e => match Region.binds .any e with | true => z ||| 2 ^ e.on ||| acc.getD e.on 0 | false => z) 0

def okRow (ops : Array Oper) (l : List (Oper × List Nat)) (o : Oper × List Nat) (set : Nat) (j : Nat) : Bool := match l with
  | [] => true
  | o' :: r => (match set.testBit j with | true => true | false => indep ops o' o) && okRow ops r o set (j + 1)
def okFrom (ops : Array Oper) (pre : List (Oper × List Nat)) (rest : List (Oper × List Nat)) (acc : List Nat) : Bool := match rest with
  | [] => true
  | o :: r => o.1.after.toList.all (fun e => match Region.binds .any e with | true => Nat.blt e.on pre.length | false => true) && okRow ops pre o (ancStep acc o.1) 0 && okFrom ops (pre ++ [o]) r (acc ++ [ancStep acc o.1])
def okDraw (ops : Array Oper) (l : List (Oper × List Nat)) : Bool := okFrom ops [] l []

inductive Anc (l : List Oper) : Nat → Nat → Prop
  | here {i : Nat} {o : Oper} {e : Edge} (h : l[i]? = some o) (he : e ∈ o.after.toList) (hb : Region.binds .any e = true) : Anc l e.on i
  | up {i j : Nat} {o : Oper} {e : Edge} (h : l[i]? = some o) (he : e ∈ o.after.toList) (hb : Region.binds .any e = true) (ha : Anc l j e.on) : Anc l j i

theorem ancStep_ok {l : List Oper} {acc : List Nat} {i : Nat} {o : Oper} (hacc : ∀ i j, (acc.getD i 0).testBit j = true → Anc l j i) (h : l[i]? = some o) :
    ∀ j, (ancStep acc o).testBit j = true → Anc l j i := by
  unfold ancStep
  have : ∀ (es : List Edge) (z : Nat), (∀ e ∈ es, e ∈ o.after.toList) → (∀ j, z.testBit j = true → Anc l j i) →
      ∀ j, (es.foldl (fun z e => match Region.binds .any e with | true => z ||| 2 ^ e.on ||| acc.getD e.on 0 | false => z) z).testBit j = true → Anc l j i := by
    intro es
    induction es with
    | nil => intro z _ hz j hj; exact hz j hj
    | cons e es ih =>
      intro z hes hz j hj
      refine ih _ (fun e' he' => hes e' (List.mem_cons_of_mem _ he')) ?_ j hj
      intro j hj
      simp only at hj
      cases hb : Region.binds .any e with
      | false => rw [hb] at hj; exact hz j hj
      | true =>
        rw [hb] at hj
        simp only [Nat.testBit_or, Bool.or_eq_true, Nat.testBit_two_pow] at hj
        rcases hj with (hj | hj) | hj
        · exact hz j hj
        · have : e.on = j := by simpa using hj
          subst this
          exact .here h (hes e List.mem_cons_self) hb
        · exact .up h (hes e List.mem_cons_self) hb (hacc _ _ hj)
  exact this _ _ (fun _ h => h) (fun j hj => by simp at hj)

theorem okRow_ok {o : Oper × List Nat} {set : Nat} : ∀ (l : List (Oper × List Nat)) (j : Nat), okRow ops l o set j = true → ∀ k o', l[k]? = some o' → set.testBit (j + k) = true ∨ indep ops o' o = true
  | [], _, _, k, o', h => by simp at h
  | x :: l, j, hk, k, o', h => by
    simp only [okRow, Bool.and_eq_true] at hk
    cases k with
    | zero =>
      simp at h; subst h
      cases hb : set.testBit j with
      | true => first | exact .inl hb | exact .inl rfl
      | false => rw [hb] at hk; exact .inr hk.1
    | succ k =>
      have := okRow_ok l (j + 1) hk.2 k o' (by simpa using h)
      rw [show j + (k + 1) = j + 1 + k by omega]
      exact this

/-- l: the operations that are free among themselves; full: all of the region's -/
theorem okFrom_ok {full : List Oper} : ∀ (rest pre : List (Oper × List Nat)) (acc : List Nat), okFrom ops pre rest acc = true → (∀ (i : Nat) (o : Oper × List Nat), (pre ++ rest)[i]? = some o → full[i]? = some o.1) → acc.length = pre.length →
    (∀ i j, (acc.getD i 0).testBit j = true → Anc full j i) → ∀ (i : Nat) (o : Oper × List Nat), pre.length ≤ i → (pre ++ rest)[i]? = some o →
    (∀ e ∈ o.1.after.toList, Region.binds .any e = true → e.on < i) ∧ ∀ (j : Nat) (o' : Oper × List Nat), j < i → (pre ++ rest)[j]? = some o' → Anc full j i ∨ indep ops o' o = true
  | [], pre, acc, _, hl, _, _, i, o, hi, h => by rw [List.append_nil, List.getElem?_eq_none hi] at h; cases h
  | x :: rest, pre, acc, hk, hl, hlen, hacc, i, o, hi, h => by
    simp only [okFrom, Bool.and_eq_true] at hk
    obtain ⟨⟨h1, h2⟩, h3⟩ := hk
    have hx0 : (pre ++ x :: rest)[pre.length]? = some x := by simp
    have hx : full[pre.length]? = some x.1 := hl _ _ hx0
    have hst := ancStep_ok hacc hx
    rcases Nat.eq_or_lt_of_le hi with he | hlt
    · subst he
      rw [hx0] at h
      cases h
      refine ⟨fun e he hb => ?_, fun j o' hj hjo => ?_⟩
      · have := List.all_eq_true.1 h1 e he
        rw [hb] at this
        simpa [Nat.blt_eq] using this
      · have : pre[j]? = some o' := by rwa [List.getElem?_append_left hj] at hjo
        rcases okRow_ok pre 0 h2 j o' this with h | h
        · exact .inl (hst j (by simpa using h))
        · exact .inr h
    · have e : pre ++ x :: rest = (pre ++ [x]) ++ rest := by simp
      rw [e] at h hl ⊢
      refine okFrom_ok rest (pre ++ [x]) _ h3 hl (by simp [hlen]) ?_ i o (by simp; omega) h
      intro i j hij
      rw [List.getD_eq_getElem?_getD] at hij
      rcases Nat.lt_trichotomy i acc.length with hi | hi | hi
      · rw [List.getElem?_append_left hi] at hij
        exact hacc i j (by rw [List.getD_eq_getElem?_getD]; exact hij)
      · subst hi
        simp at hij
        rw [hlen]
        exact hst j hij
      · rw [List.getElem?_eq_none (by simp; omega)] at hij
        simp at hij

theorem anc_listed {l : List Oper} {listed : Array Bool} (hcl : ∀ k o, l[k]? = some o → listed.getD k false = true → ∀ e ∈ o.after.toList, Region.binds .any e = true → listed.getD e.on false = true)
    {j i : Nat} (h : Anc l j i) : (∀ o, l[i]? = some o → ∀ e ∈ o.after.toList, Region.binds .any e = true → listed.getD e.on false = true) → listed.getD j false = true := by
  induction h with
  | here h he hb => intro hr; exact hr _ h _ he hb
  | up h he hb _ ih => intro hr; exact ih fun o ho => hcl _ o ho (hr _ h _ he hb)

def ancAll : List Oper → List Nat → List Nat
  | [], acc => acc
  | o :: r, acc => ancAll r (acc ++ [ancStep acc o])
theorem ancAll_ok {full : List Oper} : ∀ (rest pre : List Oper) (acc : List Nat), full = pre ++ rest → acc.length = pre.length → (∀ i j, (acc.getD i 0).testBit j = true → Anc full j i) → ∀ i j, ((ancAll rest acc).getD i 0).testBit j = true → Anc full j i
  | [], _, acc, _, _, hacc, i, j, h => hacc i j h
  | x :: rest, pre, acc, hl, hlen, hacc, i, j, h => by
    have hx : full[pre.length]? = some x := by subst hl; simp
    have hst := ancStep_ok hacc hx
    refine ancAll_ok rest (pre ++ [x]) _ (by simp [hl]) (by simp [hlen]) ?_ i j h
    intro i j hij
    rw [List.getD_eq_getElem?_getD] at hij
    rcases Nat.lt_trichotomy i acc.length with hi | hi | hi
    · rw [List.getElem?_append_left hi] at hij
      exact hacc i j (by rw [List.getD_eq_getElem?_getD]; exact hij)
    · subst hi
      simp at hij
      rw [hlen]
      exact hst j hij
    · rw [List.getElem?_eq_none (by simp; omega)] at hij
      simp at hij
/-- from L on each operation stands behind all that come ahead of it -/
def tailOk (full : List Oper) (L : Nat) : Bool := (List.range full.length).all fun i => Nat.blt i L ||
  ((List.range i).all (fun j => ((ancAll full []).getD i 0).testBit j) && (match full[i]? with | some o => o.after.toList.all (fun e => match Region.binds .any e with | true => Nat.blt e.on i | false => true) | none => true))
theorem tailOk_ok {full : List Oper} {L : Nat} (h : tailOk full L = true) {i : Nat} {o : Oper} (hi : L ≤ i) (ho : full[i]? = some o) : (∀ j, j < i → Anc full j i) ∧ ∀ e ∈ o.after.toList, Region.binds .any e = true → e.on < i := by
  have hlt : i < full.length := (List.getElem?_eq_some_iff.1 ho).1
  have := List.all_eq_true.1 h i (by simpa using hlt)
  simp only [Bool.or_eq_true, Bool.and_eq_true, ho] at this
  rcases this with h1 | ⟨h1, h2⟩
  · rw [Nat.blt_eq] at h1; omega
  · refine ⟨fun j hj => ancAll_ok full [] [] rfl rfl (by simp) i j (List.all_eq_true.1 h1 j (by simpa using hj)), fun e he hb => ?_⟩
    have := List.all_eq_true.1 h2 e he
    rw [hb] at this
    simpa [Nat.blt_eq] using this

structure Inv (full : List Oper) (l : List (Oper × List Nat)) (listed : Array Bool) (rem : List (Nat × (Oper × List Nat))) : Prop where
  get : ∀ q ∈ rem, l[q.1]? = some q.2
  sorted : rem.Pairwise (fun x y => x.1 < y.1)
  sz : listed.size = full.length
  spec : ∀ i o, l[i]? = some o → (listed.getD i true = false ↔ (i, o) ∈ rem)
  tail : ∀ i, l.length ≤ i → listed.getD i false = false
  closed : ∀ k o, full[k]? = some o → listed.getD k false = true → ∀ e ∈ o.after.toList, Region.binds .any e = true → listed.getD e.on false = true

theorem getD_tf {listed : Array Bool} {k : Nat} (hk : k < listed.size) : listed.getD k true = listed.getD k false := by
  simp [Array.getD_eq_getD_getElem?, hk]

variable {wf : Nat → Value → Prop}
/-- what a region draws -/
def newsOf : List (Oper × List Nat) → List Nat
  | [] => []
  | o :: r => match draws o.1, o.1.dst with | true, some d => d :: newsOf r | _, _ => newsOf r
theorem newsOf_append : ∀ (x y : List (Oper × List Nat)), newsOf (x ++ y) = newsOf x ++ newsOf y
  | [], y => rfl
  | o :: r, y => by
    simp only [List.cons_append, newsOf]
    split <;> simp [newsOf_append r y]
theorem newsOf_cons (o : Oper × List Nat) (r : List (Oper × List Nat)) (d : Nat) (hn : draws o.1 = true) (hd : o.1.dst = some d) : newsOf (o :: r) = d :: newsOf r := by simp [newsOf, hn, hd]

/-- what is left when all that is free has been done: the tail, in the order of the text -/
theorem tail_main {Q : Exit → Act → World → Prop} {full : List Oper} {L : Nat} (hops : ops = full.toArray) (hT : tailOk full L = true) : ∀ (rest : List Oper) (n : Nat) (fuel : Nat) (listed : Array Bool) (a : Act) (w : World), L ≤ n → full.drop n = rest →
      fuel = rest.length → listed.size = full.length → (∀ i, i < n → i < full.length → listed.getD i false = true) → (∀ i, n ≤ i → listed.getD i false = false) →
      (∀ k o, full[k]? = some o → listed.getD k false = true → ∀ e ∈ o.after.toList, Region.binds .any e = true → listed.getD e.on false = true) →
      wpListIn C.F C.n C.P ops Q rest a w → wpAnyIn C.F C.n C.P .any ops Q fuel listed a w := by
  intro rest
  induction rest with
  | nil =>
    intro n fuel listed a w hL hd hf hsz hyes hno hcl hv
    subst hf
    refine ⟨List.eq_nil_iff_forall_not_mem.2 fun j hj => ?_, ?_⟩
    · obtain ⟨h1, o, ho, _⟩ := mem_ready.1 hj
      have hlt : j < full.length := by subst hops; simpa using (Array.getElem?_eq_some_iff.1 ho).1
      have : full.length ≤ n := List.drop_eq_nil_iff.1 hd
      have := hyes j (by omega) hlt
      rw [← getD_tf (by rw [hsz]; exact hlt), h1] at this
      cases this
    · unfold wpListIn at hv
      exact hv
  | cons o rest ih =>
    intro n fuel listed a w hL hd hf hsz hyes hno hcl hv
    subst hf
    have ho : full[n]? = some o := by
      have : (full.drop n)[0]? = some o := by rw [hd]; rfl
      simpa using this
    have hlt : n < full.length := (List.getElem?_eq_some_iff.1 ho).1
    have htn := tailOk_ok hT hL ho
    have hready : ∀ i, i ∈ Region.ready .any ops listed → i = n := fun i hi => by
      obtain ⟨h1, o', ho', hall'⟩ := mem_ready.1 hi
      have ho'' : full[i]? = some o' := by subst hops; simpa using ho'
      have hil : i < full.length := (List.getElem?_eq_some_iff.1 ho'').1
      rcases Nat.lt_trichotomy i n with h | h | h
      · have := hyes i h hil
        rw [← getD_tf (by rw [hsz]; exact hil), h1] at this
        cases this
      · exact h
      · exfalso
        have := anc_listed hcl ((tailOk_ok hT (by omega) ho'').1 n h) fun o3 ho3 e he hb => by
          rw [ho''] at ho3; cases ho3
          exact hall' e (by simpa using he) hb
        rw [hno n (Nat.le_refl _)] at this; cases this
    have hin : n ∈ Region.ready .any ops listed := by
      refine mem_ready.2 ⟨?_, o, by subst hops; simpa using ho, fun e he hb => ?_⟩
      · rw [getD_tf (by rw [hsz]; exact hlt)]; exact hno n (Nat.le_refl _)
      · have := htn.2 e (by simpa using he) hb
        exact hyes e.on this (by omega)
    refine ⟨fun h0 => ?_, fun i hi => ?_⟩
    · rw [h0] at hin; cases hin
    · obtain rfl := hready i hi
      unfold wpListIn at hv
      have ho' : ops[i]? = some o := by subst hops; simpa using ho
      unfold wpOpIn
      rw [ho']
      have hsz' : (listed.setIfInBounds i true).size = full.length := by rw [Array.size_setIfInBounds]; exact hsz
      have next : ∀ a' w', wpListIn C.F C.n C.P ops Q rest a' w' → wpAnyIn C.F C.n C.P .any ops Q rest.length (listed.setIfInBounds i true) a' w' := fun a' w' h => by
        refine ih (i + 1) _ _ a' w' (by omega) (by rw [← List.drop_drop, hd]; rfl) rfl hsz' (fun k hk hkl => ?_) (fun k hk => ?_) (fun k o' hk hkl e he hb => ?_) h
        · by_cases e : k = i
          · subst e; simp [Array.getD_eq_getD_getElem?, hsz, hkl]
          · exact getD_set_true (hyes k (by omega) hkl)
        · rw [getD_set_ne false (by omega)]; exact hno k (by omega)
        · by_cases e2 : k = i
          · subst e2
            rw [ho] at hk; cases hk
            exact getD_set_true (hyes e.on (htn.2 e he hb) (by have := htn.2 e he hb; omega))
          · rw [getD_set_ne false (Ne.symm e2)] at hkl
            exact getD_set_true (hcl k o' hk hkl e he hb)
      simp only
      split at hv
      · rename_i hw
        rw [if_pos hw]
        exact Oper.wpIn_mono next hv
      · rename_i hw
        rw [if_neg hw]
        exact ⟨hv.1, next _ _ hv.2⟩

theorem draw_main {full : List Oper} {l : List (Oper × List Nat)} (hops : ops = full.toArray) (hlf : ∀ (i : Nat) (o : Oper × List Nat), l[i]? = some o → full[i]? = some o.1) (hLl : l.length ≤ full.length) (hok : okDraw ops l = true) (hT : tailOk full l.length = true) {S' : Pr wf → St} (hs : ∀ σ, VL C ops (full.drop l.length) K (S' σ)) :
    ∀ (fuel : Nat) (rem : List (Nat × (Oper × List Nat))) (listed : Array Bool) (σ0 : Pr wf) (S : Pr wf → St) (a : Act) (w : World), fuel = rem.length → Inv full l listed rem → (newsOf (rem.map (·.2))).Nodup →
      Run C ops (rem.map (·.2)) S S' → (∀ σ : Pr wf, (∀ d, d ∉ newsOf (rem.map (·.2)) → (σ.b d = σ0.b d ∧ σ.v d = σ0.v d)) → Rep C (S σ) a w) → wpAnyIn C.F C.n C.P .any ops (Post C K) (fuel + (full.length - l.length)) listed a w := by
  have hget : ∀ (i : Nat) (o : Oper), ops[i]? = some o → full[i]? = some o := fun i o h => by rw [hops] at h; simpa using h
  have hspec := okFrom_ok (ops := ops) (full := full) l [] [] hok (by simpa using hlf) rfl (by simp)
  simp only [List.nil_append, List.length_nil] at hspec
  intro fuel
  induction fuel with
  | zero =>
    intro rem listed σ0 S a w hf hI hnd hrun hr
    have : rem = [] := List.length_eq_zero_iff.1 hf.symm
    subst this
    cases hrun
    rw [Nat.zero_add]
    refine tail_main hops hT (full.drop l.length) l.length _ listed a w (Nat.le_refl _) rfl (by simp) hI.sz (fun i hi hil => ?_) hI.tail hI.closed (hs σ0 a w (hr σ0 fun _ _ => ⟨rfl, rfl⟩))
    have := hI.spec i _ (List.getElem?_eq_getElem hi)
    rw [← getD_tf (by rw [hI.sz]; exact hil)]
    cases hx : listed.getD i true with
    | true => rfl
    | false => have := this.1 hx; cases this
  | succ fuel ih =>
    intro rem listed σ0 S a w hf hI hnd hrun hr
    -- what has not been done, and is listed by nobody
    have hun : ∀ q ∈ rem, listed.getD q.1 false = false := fun q hq => by
      have h := hI.get q hq
      have := (hI.spec _ _ h).2 hq
      rwa [getD_tf (by rw [hI.sz]; exact Nat.lt_of_lt_of_le (List.getElem?_eq_some_iff.1 h).1 hLl)] at this
    have hfree : ∀ i, i ∈ Region.ready .any ops listed → i < l.length := fun i hi => by
      obtain ⟨h1, o, ho, hall⟩ := mem_ready.1 hi
      rcases Nat.lt_or_ge i l.length with h | h
      · exact h
      · exfalso
        cases hrem : rem with
        | nil => rw [hrem] at hf; simp at hf
        | cons q r =>
          have hq := hI.get q (by rw [hrem]; exact List.mem_cons_self)
          have hql := (List.getElem?_eq_some_iff.1 hq).1
          have := anc_listed hI.closed ((tailOk_ok hT h (hget i o ho)).1 q.1 (by omega)) fun o3 ho3 e he hb => by
            rw [hget i o ho] at ho3; cases ho3
            exact hall e (by simpa using he) hb
          rw [hun q (by rw [hrem]; exact List.mem_cons_self)] at this; cases this
    rw [show fuel + 1 + (full.length - l.length) = (fuel + (full.length - l.length)) + 1 by omega]
    refine ⟨fun h0 => ?_, fun i hi => ?_⟩
    · exfalso
      cases hrem : rem with
      | nil => rw [hrem] at hf; simp at hf
      | cons q r =>
        have hq := hI.get q (by rw [hrem]; exact List.mem_cons_self)
        have : q.1 ∈ Region.ready .any ops listed := by
          refine mem_ready.2 ⟨(hI.spec _ _ hq).2 (by rw [hrem]; exact List.mem_cons_self), q.2.1, by subst hops; simpa using hlf _ _ hq, fun e he hb => ?_⟩
          have hlt := (hspec q.1 q.2 (Nat.zero_le _) hq).1 e (by simpa using he) hb
          have hlen : e.on < l.length := Nat.lt_trans hlt (List.getElem?_eq_some_iff.1 hq).1
          rw [← getD_tf (by rw [hI.sz]; omega)]
          cases hx : listed.getD e.on true with
          | true => rfl
          | false =>
            have := (hI.spec e.on _ (List.getElem?_eq_getElem hlen)).1 hx
            rw [hrem] at this
            have hs := hI.sorted
            rw [hrem] at hs
            rcases List.mem_cons.1 this with h | h
            · rw [← h] at hlt; exact absurd hlt (Nat.lt_irrefl _)
            · have := (List.pairwise_cons.1 hs).1 _ h
              simp only at this
              exact absurd (Nat.lt_trans hlt this) (Nat.lt_irrefl _)
        rw [h0] at this
        cases this
    · have hil := hfree i hi
      obtain ⟨h1, o, ho, hall⟩ := mem_ready.1 hi
      obtain ⟨κ, hl⟩ : ∃ κ, l[i]? = some (o, κ) := by
        have := hlf i _ (List.getElem?_eq_getElem hil)
        rw [hget i o ho] at this
        exact ⟨l[i].2, by rw [List.getElem?_eq_getElem hil]; cases hli : l[i]; simp only [hli] at this; cases this; rfl⟩
      have hin := (hI.spec i _ hl).1 h1
      obtain ⟨pre, post, hrem⟩ := List.append_of_mem hin
      have hsort := hI.sorted
      rw [hrem] at hsort
      have hs1 := List.pairwise_append.1 hsort
      have hs2 := List.pairwise_cons.1 hs1.2.1
      subst hrem
      have hmap : (pre ++ (i, (o, κ)) :: post).map (·.2) = pre.map (·.2) ++ (o, κ) :: post.map (·.2) := by simp
      rw [hmap] at hrun hnd hr
      have hind : ∀ j ∈ pre.map (·.2), indep ops j (o, κ) = true := fun j hj => by
        obtain ⟨q, hq, rfl⟩ := List.mem_map.1 hj
        have hq1 := hI.get q (List.mem_append_left _ hq)
        have hlt : q.1 < i := hs1.2.2 q hq (i, (o, κ)) List.mem_cons_self
        rcases (hspec i (o, κ) (Nat.zero_le _) hl).2 q.1 q.2 hlt hq1 with ha | ha
        · exfalso
          have := anc_listed hI.closed ha fun o' ho' e he hb => by
            rw [hget i o ho] at ho'; cases ho'
            exact hall e (by simpa using he) hb
          rw [hun q (List.mem_append_left _ hq)] at this; cases this
        · exact ha
      obtain ⟨r, hev, hrun'⟩ := bubble _ _ hrun hind
      have hnews : ∀ d, d ∈ newsOf (pre.map (·.2) ++ (o, κ) :: post.map (·.2)) ↔ d ∈ newsOf ((pre ++ post).map (·.2)) ∨ (draws o = true ∧ o.dst = some d) := fun d => by
        rw [List.map_append, newsOf_append, newsOf_append]
        cases hn : draws o with
        | false => simp [newsOf, hn]
        | true =>
          cases hd : o.dst with
          | none => simp [newsOf, hd]
          | some d' =>
            rw [newsOf_cons (o, κ) _ d' hn hd]
            simp only [List.mem_append, List.mem_cons, Option.some.injEq, true_and]
            constructor
            · rintro (h | h | h)
              · exact .inl (.inl h)
              · exact .inr h.symm
              · exact .inl (.inr h)
            · rintro ((h | h) | h)
              · exact .inl h
              · exact .inr (.inr h)
              · exact .inr (.inl h.symm)
      have hnd' : (newsOf ((pre ++ post).map (·.2))).Nodup ∧ ∀ d, draws o = true → o.dst = some d → d ∉ newsOf ((pre ++ post).map (·.2)) := by
        rw [List.map_append, newsOf_append]
        rw [newsOf_append] at hnd
        cases hn : draws o with
        | false =>
          simp only [newsOf, hn] at hnd
          exact ⟨hnd, fun d h => by cases h⟩
        | true =>
          cases hd : o.dst with
          | none =>
            have e : newsOf ((o, κ) :: post.map (·.2)) = newsOf (post.map (·.2)) := by simp [newsOf, hd]
            rw [e] at hnd
            exact ⟨hnd, fun d _ h => by cases h⟩
          | some d' =>
            rw [newsOf_cons (o, κ) _ d' hn hd] at hnd
            have hp := (List.perm_middle (a := d') (l₁ := newsOf (pre.map (·.2))) (l₂ := newsOf (post.map (·.2)))).nodup_iff.1 hnd
            have := List.nodup_cons.1 hp
            refine ⟨this.2, fun d _ h => ?_⟩
            cases h; exact this.1
      have := evp_sound (ops := ops) hev (fun σ => ∀ d, d ∉ newsOf (pre.map (·.2) ++ (o, κ) :: post.map (·.2)) → (σ.b d = σ0.b d ∧ σ.v d = σ0.v d)) σ0 (fun _ _ => ⟨rfl, rfl⟩) hr (K := wpAnyIn C.F C.n C.P .any ops (Post C K) (fuel + (full.length - l.length)) (listed.setIfInBounds i true)) (Q := Post C K) fun a' w' y hy hr' => by
        let σ1 : Pr wf := ⟨fun d => if draws o = true ∧ o.dst = some d then w.heap.size else σ0.b d, fun d => if draws o = true ∧ o.dst = some d then y else σ0.v d, fun d => by
          by_cases hc : draws o = true ∧ o.dst = some d
          · simp only [if_pos hc]; exact hy d hc.2
          · simp only [if_neg hc]; exact σ0.ok d⟩
        have hne : ∀ q ∈ pre ++ post, q.1 ≠ i := fun q hq => by
          rcases List.mem_append.1 hq with h | h
          · exact Nat.ne_of_lt (hs1.2.2 q h (i, (o, κ)) List.mem_cons_self)
          · exact Nat.ne_of_gt (hs2.1 q h)
        have hsub : ∀ q, q ∈ pre ++ post → q ∈ pre ++ (i, (o, κ)) :: post := fun q hq => by
          rcases List.mem_append.1 hq with h | h
          · exact List.mem_append_left _ h
          · exact List.mem_append_right _ (List.mem_cons_of_mem _ h)
        refine ih (pre ++ post) (listed.setIfInBounds i true) σ1 _ a' w' (by simp at hf ⊢; omega) ?_ hnd'.1 (by rw [List.map_append]; exact hrun') fun σ hσ => ?_
        · refine ⟨fun q hq => hI.get q (hsub q hq), ?_, by rw [Array.size_setIfInBounds]; exact hI.sz, fun k o' hk => ?_, fun k hk => ?_, fun k o' hk hkl e he hb => ?_⟩
          · refine List.pairwise_append.2 ⟨hs1.1, hs2.2, fun x hx y hy => hs1.2.2 x hx y (List.mem_cons_of_mem _ hy)⟩
          · by_cases hki : k = i
            · subst hki
              have hlt : k < listed.size := by rw [hI.sz]; exact Nat.lt_of_lt_of_le hil hLl
              refine ⟨fun h => ?_, fun h => absurd rfl (hne _ h)⟩
              simp [Array.getD_eq_getD_getElem?, hlt] at h
            · rw [getD_set_ne true (Ne.symm hki), hI.spec k o' hk]
              constructor
              · intro h
                rcases List.mem_append.1 h with h | h
                · exact List.mem_append_left _ h
                · rcases List.mem_cons.1 h with h | h
                  · exact absurd (congrArg (·.1) h) hki
                  · exact List.mem_append_right _ h
              · exact hsub _
          · rw [getD_set_ne false (by omega)]; exact hI.tail k hk
          · by_cases hki : k = i
            · subst hki
              rw [hget k o ho] at hk; cases hk
              exact getD_set_true (hall e (by simpa using he) hb)
            · rw [getD_set_ne false (Ne.symm hki)] at hkl
              exact getD_set_true (hI.closed k o' hk hkl e he hb)
        · refine hr' σ (fun d hd => ?_) fun d hn hd => ?_
          · rw [hnews d] at hd
            have h1 : d ∉ newsOf ((pre ++ post).map (·.2)) := fun h => hd (.inl h)
            have h2 : ¬ (draws o = true ∧ o.dst = some d) := fun h => hd (.inr h)
            rw [(hσ d h1).1, (hσ d h1).2]
            simp only [σ1, if_neg h2, and_self]
          · rw [(hσ d (hnd'.2 d hn hd)).1, (hσ d (hnd'.2 d hn hd)).2]
            simp only [σ1]
            rw [if_pos ⟨hn, hd⟩, if_pos ⟨hn, hd⟩]
            exact ⟨rfl, rfl⟩
      unfold wpOpIn
      rw [ho]
      exact this

/-! ### the rule -/
def drawOk (full : List Oper) (l : List (Oper × List Nat)) : Bool := okDraw full.toArray l && decide (newsOf l).Nodup && tailOk full l.length

/-- what is shown of a region that draws its order: one run of the free ones in the order of the text; then the tail -/
def VD (C : Cx) (ops : Array Oper) (rest : List (Oper × List Nat)) (tl : List Oper) (K : Exit → St → Prop) (S : Pr wf → St) : Prop := ∃ S', Run C ops rest S S' ∧ ∀ σ, VL C ops tl K (S' σ)

theorem vd_nil {tl : List Oper} {S : Pr wf → St} (h : ∀ σ, VL C ops tl K (S σ)) : VD C ops [] tl K S := ⟨S, .nil, h⟩
theorem vd_cons {tl : List Oper} {S : Pr wf → St} {o : Oper × List Nat} {rest : List (Oper × List Nat)} {r : Pr wf → Value × Wr} (h : EvP C ops S o r) (t : VD C ops rest tl K (appP S o.1.dst r)) : VD C ops (o :: rest) tl K S :=
  t.elim fun S' ⟨h1, h2⟩ => ⟨S', .cons h h1, h2⟩

theorem v_draw {id : Nat} {s : St} {full : List Oper} (σ0 : Pr wf) (κs : List (List Nat)) (hm : C.P.follows .mixedOrders = true) (hle : (full.take κs.length).length = κs.length) (hok : drawOk full ((full.take κs.length).zip κs) = true)
    (h : VD C full.toArray ((full.take κs.length).zip κs) (full.drop κs.length) K (fun _ : Pr wf => s)) : V C (.region id full.toArray true) K s := by
  intro a w hr
  obtain ⟨l, hl⟩ : ∃ l, (full.take κs.length).zip κs = l := ⟨_, rfl⟩
  have hlen : l.length = κs.length := by rw [← hl, List.length_zip, hle]; exact Nat.min_self _
  have hlf : ∀ (i : Nat) (o : Oper × List Nat), l[i]? = some o → full[i]? = some o.1 := fun i o ho => by
    rw [← hl] at ho
    have := List.getElem?_zip_eq_some.1 ho
    have h1 := this.1
    rw [List.getElem?_take] at h1
    split at h1
    · exact h1
    · cases h1
  have hLl : l.length ≤ full.length := by
    rw [hlen]; have := hle; rw [List.length_take] at this; omega
  rw [hl] at h hok
  rw [← hlen] at h
  simp only [drawOk, Bool.and_eq_true, decide_eq_true_eq] at hok
  obtain ⟨⟨h1, h2⟩, h3⟩ := hok
  obtain ⟨S', hrun, hK⟩ := h
  refine wpIn_region_any hm ?_
  let rem : List (Nat × (Oper × List Nat)) := l.zipIdx.map fun p => (p.2, p.1)
  have hrem2 : rem.map (·.2) = l := by simp [rem, List.map_map, Function.comp_def]
  have hmem : ∀ i o, (i, o) ∈ rem ↔ l[i]? = some o := fun i o => by
    simp only [rem, List.mem_map]
    constructor
    · rintro ⟨q, h, he⟩
      cases he
      exact List.mem_zipIdx_iff_getElem?.1 h
    · intro h
      exact ⟨(o, i), List.mem_zipIdx_iff_getElem?.2 h, rfl⟩
  have hsz : full.toArray.size = l.length + (full.length - l.length) := by simp; omega
  have hrep : ∀ k, (Array.replicate full.toArray.size false).getD k false = false := fun k => by
    rw [Array.getD_eq_getD_getElem?, Array.getElem?_replicate]; split <;> rfl
  have hI : Inv full l (Array.replicate full.toArray.size false) rem := by
    refine ⟨fun q hq => (hmem q.1 q.2).1 hq, ?_, by simp, fun i o ho => ?_, fun i _ => hrep i, fun k o ho h => ?_⟩
    · simp only [rem, List.pairwise_map]
      have : ∀ (l : List (Oper × List Nat)) (n : Nat), (l.zipIdx n).Pairwise (fun a b => a.2 < b.2) := by
        intro l
        induction l with
        | nil => intro n; exact List.Pairwise.nil
        | cons x r ih =>
          intro n
          rw [List.zipIdx_cons]
          refine List.pairwise_cons.2 ⟨fun y hy => ?_, ih (n + 1)⟩
          have := List.le_snd_of_mem_zipIdx hy
          exact this
      exact this l 0
    · have hlt : i < full.toArray.size := by rw [hsz]; have := (List.getElem?_eq_some_iff.1 ho).1; omega
      rw [hmem, getD_tf (by simpa using hlt), hrep]
      simp [ho]
    · rw [hrep] at h; cases h
  have := draw_main (K := K) (ops := full.toArray) rfl hlf hLl h1 h3 hK l.length rem (Array.replicate full.toArray.size false) σ0 (fun _ => s) a { w with drawn := w.drawn + 1 } (by simp [rem]) hI (by rw [hrem2]; exact h2) (by rw [hrem2]; exact hrun) (fun σ _ => rep_drew hr)
  rw [← hsz] at this
  exact this
end Go.Proofs.Ytaijclimdfchfaa
