import Derived.Maps.Own
import Derived.Maps.Views
import Derived.Laws.OwnMore
import Derived.Test.YtpgjbalnipinoaaProg
import Derived.Shelf.Bits.Mul64
import Derived.Shelf.Spec.BitsCarry
import Derived.Test.YtpgjbalnipinoaaM1
/- What comes in, opened: rows of rows of structs of integers. Conditions: none. -/
namespace Go.Proofs.Ytpgjbalnipinoaa
open Go.Proofs Go.RowKit Go.ChangeShapes Go.WideShapes Go.ChangeAt Go.Deep
section
variable {H : Type} {enc : TypeId × Value → H} {P : Program} {w w' : World} {base : Nat} {spare : Nat → Bool} {held : Bool}
/-- a row of structs of integers, by its one cell -/
theorem open_rowF {t e T : TypeId} {fs : Array Field} {v : Value} {fuel : Nat} {x : DataW H × List MemPlace} (ht : P.underlying t = some (.slice e)) (he : P.underlying e = some (.struct fs)) (hone : oneCellFields P fs = true) (hC : P.cellsOf e = fs.size) (hpos : 0 < fs.size) (hty : fs.all (fun f => f.type == T) = true)
    (hT : P.underlying T = some (.int .i64)) (h : DataW.trod enc P w base spare held fuel t [v] = some x) : ∃ (n : Nat) (xs : List Value), RowV v n ∧ n ≤ maxLen ∧ RowAt w v fs.size n xs ∧ ∀ u ∈ xs, IsInt u := by
  rcases open_slice ht h with ⟨h0, _⟩ | ⟨a, len, cap, m, n, D, Pl, hcs, hb, hl, hm, hmm, hx, hi⟩
  · simp only [List.cons.injEq, and_true] at h0
    rw [h0]
    exact ⟨0, [], .nil0, Nat.zero_le _, ⟨by simp, fun j u hu => by simp at hu, fun u hu => by simp at hu⟩, fun u hu => by simp at hu⟩
  · simp only [List.cons.injEq, and_true] at hcs
    rw [hcs]
    have hlm : len ≤ m := by rw [hmm]; split <;> omega
    have hel : ∀ i j, i < len → j < fs.size → ∃ u, w.cell? (a.add (i * fs.size + j)) = some u ∧ IsInt u := fun i j hil hj => by
      obtain ⟨cs', hc, htr⟩ := hi i (by omega)
      rw [hC] at hc
      obtain ⟨_, hcl, hat⟩ := World.cells?_some hc
      have := open_ints he hone hC hty hT htr
      have hjc : j < cs'.length := by omega
      refine ⟨cs'[j], ?_, this.2 _ (List.getElem_mem hjc)⟩
      rw [← add_add, hat j hj, List.getElem?_eq_getElem hjc]
    have hdm : ∀ q, q < len * fs.size → q / fs.size < len ∧ q % fs.size < fs.size ∧ q / fs.size * fs.size + q % fs.size = q := fun q hq => ⟨(Nat.div_lt_iff_lt_mul hpos).2 hq, Nat.mod_lt _ hpos, by rw [Nat.mul_comm]; exact Nat.div_add_mod q fs.size⟩
    have hspot : 0 < len → a = ⟨a.block, a.off, none⟩ := fun h => by
      obtain ⟨u, hu, _⟩ := hel 0 0 h hpos
      rw [show 0 * fs.size + 0 = 0 by omega, show a.add 0 = a from rfl] at hu
      obtain ⟨b, o, s⟩ := a
      cases s with
      | none => rfl
      | some s =>
        exfalso
        unfold World.cell? at hu
        split at hu <;> simp_all
    have hcell : ∀ q, q < len * fs.size → ∃ u, w.cell? ⟨a.block, a.off + q, none⟩ = some u ∧ IsInt u := fun q hq => by
      obtain ⟨h1, h2, h3⟩ := hdm q hq
      obtain ⟨u, hu, hI⟩ := hel _ _ h1 h2
      rw [h3, hspot (Nat.lt_of_le_of_lt (Nat.zero_le _) h1), addAt] at hu
      exact ⟨u, hu, hI⟩
    refine ⟨len, (List.range (len * fs.size)).map fun q => (w.cell? ⟨a.block, a.off + q, none⟩).getD undef, ?_, by omega, ⟨by simp, fun j u hu => ?_, fun u hu => ?_⟩, fun u hu => ?_⟩
    · by_cases h : 0 < len
      · rw [hspot h]; exact .inl ⟨_, _, _, rfl⟩
      · obtain rfl : len = 0 := by omega
        exact .inr (.inr ⟨a, cap, rfl, rfl⟩)
    · rw [List.getElem?_map] at hu
      by_cases hj : j < len * fs.size
      · rw [List.getElem?_range hj] at hu
        obtain ⟨u', hu', _⟩ := hcell j hj
        simp only [Option.map_some, hu', Option.getD_some, Option.some.injEq] at hu
        subst hu
        exact hu'
      · rw [List.getElem?_eq_none (by simpa using hj)] at hu; cases hu
    · obtain ⟨q, hq, rfl⟩ := List.mem_map.1 hu
      obtain ⟨u', hu', a', rfl, _⟩ := hcell q (List.mem_range.1 hq)
      rw [hu']; rfl
    · obtain ⟨q, hq, rfl⟩ := List.mem_map.1 hu
      obtain ⟨u', hu', hI⟩ := hcell q (List.mem_range.1 hq)
      rw [hu']; exact hI
/-- a row of such rows -/
theorem open_rows {r : Reach} {b0 : Nat} {t s e T : TypeId} {fs : Array Field} {v : Value} {d : DataW H} {p : List MemPlace} (ht : P.underlying t = some (.slice s)) (hs : P.underlying s = some (.slice e)) (hsc : P.cellsOf s = 1) (he : P.underlying e = some (.struct fs)) (hone : oneCellFields P fs = true) (hC : P.cellsOf e = fs.size) (hpos : 0 < fs.size) (hty : fs.all (fun f => f.type == T) = true)
    (hT : P.underlying T = some (.int .i64)) (hv : Value.okWide P w r b0 t v) (h : DataW.Trod enc P w base spare held t v d p) : ∃ (n : Nat) (pvs : List Value) (q : Nat → Nat × List Value), RowV v n ∧ n ≤ maxLen ∧ pvs.length = n ∧ RowAt w v 1 n pvs ∧ ∀ i, i < n → RowV (pvs.getD i undef) (q i).1 ∧ RowAt w (pvs.getD i undef) fs.size (q i).1 (q i).2 ∧ ∀ u ∈ (q i).2, IsInt u := by
  obtain ⟨a0, n0, c0, rfl⟩ := okWide_slice ht hv
  obtain ⟨fuel, hf⟩ := h
  rcases open_slice1 ht hsc hf with ⟨h0, _⟩ | ⟨a, len, cap, m, n, V, D, Pl, hcs, hb, hl, hm, hmm, hx, hi⟩
  · simp only [Value.cells, List.cons.injEq, and_true] at h0
    rw [h0]
    exact ⟨0, [], fun _ => (0, []), .nil0, Nat.zero_le _, rfl, ⟨by simp, fun j u hu => by simp at hu, fun u hu => by simp at hu⟩, fun i hi => by omega⟩
  · simp only [Value.cells, List.cons.injEq, and_true] at hcs
    rw [hcs]
    have hlm : len ≤ m := by rw [hmm]; split <;> omega
    have hspot : 0 < len → a = ⟨a.block, a.off, none⟩ := fun h => by
      have hu := (hi 0 (by omega)).1
      rw [show a.add 0 = a from rfl] at hu
      obtain ⟨b, o, s⟩ := a
      cases s with
      | none => rfl
      | some s =>
        exfalso
        unfold World.cell? at hu
        split at hu <;> simp_all
    have hrow : ∀ i, i < len → ∃ q : Nat × List Value, RowV (V i) q.1 ∧ RowAt w (V i) fs.size q.1 q.2 ∧ ∀ u ∈ q.2, IsInt u := fun i h => by
      obtain ⟨n', xs, h1, _, h2, h3⟩ := open_rowF hs he hone hC hpos hty hT (hi i (by omega)).2
      exact ⟨(n', xs), h1, h2, h3⟩
    obtain ⟨q, hq⟩ := choose_lt hrow
    have hget : ∀ i, i < len → ((List.range len).map V).getD i undef = V i := fun i h => by
      rw [List.getD_eq_getElem?_getD, List.getElem?_map, List.getElem?_range h]; rfl
    refine ⟨len, (List.range len).map V, q, ?_, by omega, by simp, ⟨by simp, fun j u hu => ?_, fun u hu => ?_⟩, fun i h => by rw [hget i h]; exact hq i h⟩
    · by_cases h : 0 < len
      · rw [hspot h]; exact .inl ⟨_, _, _, rfl⟩
      · obtain rfl : len = 0 := by omega
        exact .inr (.inr ⟨a, cap, rfl, rfl⟩)
    · rw [List.getElem?_map] at hu
      by_cases hj : j < len
      · rw [List.getElem?_range hj] at hu
        simp only [Option.map_some, Option.some.injEq] at hu
        subst hu
        have h1 := (hi j (by omega)).1
        rw [hspot (by omega), addAt] at h1
        exact h1
      · rw [List.getElem?_eq_none (by simpa using hj)] at hu; cases hu
    · obtain ⟨j, hj, rfl⟩ := List.mem_map.1 hu
      exact rowV_one (hrow j (List.mem_range.1 hj)).choose_spec.1
end
end Go.Proofs.Ytpgjbalnipinoaa

/- Regions that draw their order: calls that make rows, rows that grow, slices of rows. Conditions: none. -/
namespace Go.Proofs.Ytpgjbalnipinoaa
open Go.Proofs Go.RowKit
variable {C : Cx} {K : Exit → St → Prop} {ops : Array Oper} {rest : List Oper} {l l' : List (Nat × Value)} {m m' : List (Nat × Hp)} {g : World → Prop} {gb : Nat → Prop} {dd : List Nat}
  {i : Nat} {d : Option Nat} {op : Op} {ty : TypeId} {pos : String} {aft : Array Edge} {gd : Option (Nat × Bool)} {ks : List Nat} {y : Value} {T T' E : TypeId} {s : St} {x z : Operand} {v u : Value} {n esz j : Nat} {xs : List Value}
  {a : Act} {w w' : World} {f : Nat} {cal : Operand} {as_ : Array Operand} {ts : Array TypeId} {vs : List Value}
  {wf : Nat → Value → Prop} {L : Pr wf → List (Nat × Value)} {M : Pr wf → List (Nat × Hp)} {os : List Oper} {κ : List Nat} {κs : List (List Nat)}
theorem RowV.to {v : Value} {n n' : Nat} (h : RowV v n) (e : n = n') : RowV v n' := e ▸ h
/-- rows that are drawn: how long each is -/
def rowsWf (l : List (Nat × Nat)) : Nat → Value → Prop := fun d v => match lk l d with | some n => RowV v n | none => True
def rowsPr (l : List (Nat × Nat)) : Pr (rowsWf l) := ⟨fun _ => 0, fun d => match lk l d with | some n => .slice (some ⟨0, 0, none⟩) n n | none => undef, fun d => by
  unfold rowsWf
  cases lk l d with
  | none => trivial
  | some n => exact .inl ⟨_, _, _, rfl⟩⟩
theorem v_drawW {id : Nat} (rl : List (Nat × Nat)) (κs : List (List Nat)) (hm : C.P.follows .mixedOrders = true) (h : VDZ C os.toArray os κs K (fun _ : Pr (rowsWf rl) => mk l m g gb dd)) (hle : (os.take κs.length).length = κs.length) (hok : drawOk os ((os.take κs.length).zip κs) = true) : V C (.region id os.toArray true) K (mk l m g gb dd) :=
  v_draw (rowsPr rl) κs hm hle hok h.vd
/-- a row by another name -/
theorem l_ren (key key' : Nat) (keep : List Nat) (hk : lk m key = some (.own v E esz n xs)) (hs : sel keep m = some m') (hkeep : keep.contains key = false) (next : VL C ops rest K (mk l ((key', .own v E esz n xs) :: m') g gb dd)) : VL C ops rest K (mk l m g gb dd) :=
  fun a w hr => next a w (rep_ownL hr hk (Chg.refl _ w) (hr.mo key _ hk).1 (fun b hb => .inl hb) key' keep hs hkeep)
/-- a call that makes a row -/
theorem d_gown (hw : ∀ σ, wantS C (mk (L σ) (M σ) g gb dd) ops ⟨some i, .call { callee := .value cal, args := as_, argTypes := ts }, ty, pos, aft, gd⟩ = some true) {caps : Array Value} (hcal : ∀ σ, ev C (mk (L σ) (M σ) g gb dd) cal = some (.func (.func f) #[] caps)) (hent : ∀ args w, (callFunc f args).run C.P w = .ok (.enter f args) w)
    {vs : Pr wf → List Value} (hargs : ∀ σ, evs C (mk (L σ) (M σ) g gb dd) as_.toList = some (vs σ)) (hwf : ∀ y, RowV y n → wf i y)
    (hc : ∀ σ w, g w → Held (mk (L σ) (M σ) g gb dd) κ w → Calls C.P f ((vs σ).toArray ++ caps) w fun e w' => ∃ y, e = .returned y ∧ Below w.heap.size w w' ∧ OwnAt w.heap.size w' y E esz n xs)
    (next : VDZ C ops os κs K (fun σ => mk ((i, σ.v i) :: L σ) ((i, .own (σ.v i) E esz n xs) :: M σ) g gb dd)) : VDZ C ops (⟨some i, .call { callee := .value cal, args := as_, argTypes := ts }, ty, pos, aft, gd⟩ :: os) (κ :: κs) K (fun σ => mk (L σ) (M σ) g gb dd) :=
  d_cons (.inl ⟨hw, .own i (fun y => RowV y n) (fun y => y) (fun y => .own y E esz n xs) rfl rfl hwf fun σ => ⟨by simp, fun ρ w hr hg hh => ⟨f, _, by rw [run_callTo (rd1 hr callee_mem (hcal σ)) (args_of hr (hargs σ))]; exact hent _ w, (hc σ w hg hh).mono fun e w' ⟨y, h1, h2, h3⟩ => ⟨y, h1, h3.rowV, h2, h3.1, h3.2⟩⟩⟩⟩)
    (by simp only [appP, appS, mk_mem, mk_put]; exact next)
/-- a call that answers, and reads what is held -/
theorem d_gcall (hw : ∀ σ, wantS C (mk (L σ) (M σ) g gb dd) ops ⟨some i, .call { callee := .value cal, args := as_, argTypes := ts }, ty, pos, aft, gd⟩ = some true) {caps : Array Value} (hcal : ∀ σ, ev C (mk (L σ) (M σ) g gb dd) cal = some (.func (.func f) #[] caps)) (hent : ∀ args w, (callFunc f args).run C.P w = .ok (.enter f args) w)
    {vs : Pr wf → List Value} (hargs : ∀ σ, evs C (mk (L σ) (M σ) g gb dd) as_.toList = some (vs σ)) (hc : ∀ σ w, g w → Held (mk (L σ) (M σ) g gb dd) κ w → Calls C.P f ((vs σ).toArray ++ caps) w fun e w' => e = .returned y ∧ Below w.heap.size w w')
    (next : VDZ C ops os κs K (fun σ => mk ((i, y) :: L σ) (M σ) g gb dd)) : VDZ C ops (⟨some i, .call { callee := .value cal, args := as_, argTypes := ts }, ty, pos, aft, gd⟩ :: os) (κ :: κs) K (fun σ => mk (L σ) (M σ) g gb dd) :=
  d_call hw (fun σ => ⟨by simp, fun ρ w hr hg hh => ⟨f, _, by rw [run_callTo (rd1 hr callee_mem (hcal σ)) (args_of hr (hargs σ))]; exact hent _ w, hc σ w hg hh⟩⟩) next
/-- append -/
theorem d_app (key : Nat) {ts by_ mm : Nat} {zv : Value} {v u : Pr wf → Value} {xs ys : Pr wf → List Value} {X Y : Operand} [ht : TSl C.P ts E esz] [he : TElem C.P E zv esz by_] (hw : ∀ σ, wantS C (mk (L σ) (M σ) g gb dd) ops ⟨some i, .call { callee := .builtin .append, args := #[X, Y], argTypes := #[ts, ts] }, ty, pos, aft, gd⟩ = some true)
    (h : ∀ σ, ev C (mk (L σ) (M σ) g gb dd) X = some (v σ)) (hk : ∀ σ, lk (M σ) key = some (.own (v σ) E esz n (xs σ))) (h2 : ∀ σ, ev C (mk (L σ) (M σ) g gb dd) Y = some (u σ)) (hby : Nat.ble by_ 128 = true) (hu : ∀ σ, RowV (u σ) mm) (hrow : ∀ σ, RowIn (mk (L σ) (M σ) g gb dd) κ (u σ) esz mm (ys σ))
    (hlen : n + mm ≤ 1099511627776) (hwf : ∀ y, RowV y (n + mm) → wf i y)
    (next : VDZ C ops os κs K (fun σ => mk ((i, σ.v i) :: L σ) ((key, .own (σ.v i) E esz (n + mm) (xs σ ++ ys σ)) :: M σ) g gb dd)) : VDZ C ops (⟨some i, .call { callee := .builtin .append, args := #[X, Y], argTypes := #[ts, ts] }, ty, pos, aft, gd⟩ :: os) ((key :: κ) :: κs) K (fun σ => mk (L σ) (M σ) g gb dd) :=
  d_cons (.inl ⟨hw, .app i key (fun σ => .own (v σ) E esz n (xs σ)) (fun y => RowV y (n + mm)) (fun σ y => .own y E esz (n + mm) (xs σ ++ ys σ)) rfl rfl rfl hwf fun σ => ⟨by simp, hk σ, fun ρ w hr hg hh hok => by
      have hX : ρ X = v σ := rd1 hr (by simp [Op.operands, Call.operands]) (h σ)
      have hY : ρ Y = u σ := rd1 hr (by simp [Op.operands, Call.operands]) (h2 σ)
      have hrw := hrow σ w hg hh
      obtain ⟨v', w', h3, h4, h5, h6⟩ := append_run (P := C.P) (ts := ts) (ty := ty) hok (hu σ) hrw hlen hby
      have hone : ∀ u' ∈ xs σ ++ ys σ, u'.oneCell' = true := fun u' hu' => by
        rcases List.mem_append.1 hu' with h | h
        · exact hok.2 u' h
        · exact hrw.one u' h
      exact ⟨v', w', by simp [execOp, resolve, hX, hY, invoke, builtin, Sem.run_bind, Result.andThen, h3], rowV_own (w := w') ⟨h4, hone⟩, ⟨h4, hone⟩, h5, h6⟩⟩⟩)
    (by simp only [appP, appS, mk_mem, mk_put]; exact next)
/-- a slice that is written out, as a row of our own -/
theorem d_bsO {cs vs : Pr wf → List Value} {by_ : Nat} {zv : Value} {ps : Array (Nat × Operand)} [ht : TSl C.P T E esz] [he : TElem C.P E zv esz by_] (hw : ∀ σ, wantS C (mk (L σ) (M σ) g gb dd) ops ⟨some i, .buildSlice T n ps, ty, pos, aft, gd⟩ = some true)
    (h : ∀ σ, evs C (mk (L σ) (M σ) g gb dd) (ps.toList.map (·.2)) = some (vs σ)) (hf : ∀ σ, fillL ((List.range n).map fun i => (i * esz, esz)) (zerosOf zv.cells.toList n) ((ps.toList.map (·.1)).zip (vs σ)) = some (cs σ)) (hn : Nat.ble n 1000 = true) (hsz : Nat.ble esz 1000 = true) (hl : ∀ σ, (cs σ).length = n * esz) (h1 : ∀ σ, (cs σ).all (·.oneCell') = true)
    (next : VDZ C ops os κs K (fun σ => mk ((i, .slice (some ⟨σ.b i, 0, none⟩) n n) :: L σ) ((i, .own (.slice (some ⟨σ.b i, 0, none⟩) n n) E esz n (cs σ)) :: M σ) g gb dd)) : VDZ C ops (⟨some i, .buildSlice T n ps, ty, pos, aft, gd⟩ :: os) ([] :: κs) K (fun σ => mk (L σ) (M σ) g gb dd) :=
  d_cons (.inl ⟨hw, .newO i n E esz cs rfl rfl hl (by have := Nat.le_of_ble_eq_true hn; unfold maxLen; omega) (fun σ u hu => List.all_eq_true.1 (h1 σ) u hu) fun σ => o_bs (h σ) (hf σ) hn hsz⟩) (by simp only [appP, appS, mk_mem, mk_put]; exact next)

/-! ### slices of rows -/
theorem rowV_to (h : RowV v n) {hi : Nat} (hle : hi ≤ n) : RowV (subTo v hi) hi := by
  rcases h with ⟨b, o, c, rfl⟩ | ⟨rfl, rfl⟩ | ⟨a, c, rfl, rfl⟩
  · exact .inl ⟨_, _, _, rfl⟩
  · obtain rfl : hi = 0 := by omega
    exact .inr (.inl ⟨rfl, rfl⟩)
  · obtain rfl : hi = 0 := by omega
    exact .inr (.inr ⟨_, _, rfl, rfl⟩)
theorem rowV_from (h : RowV v n) {lo : Nat} (hle : lo ≤ n) : RowV (subFrom v esz lo) (n - lo) := by
  rcases h with ⟨b, o, c, rfl⟩ | ⟨rfl, rfl⟩ | ⟨a, c, rfl, rfl⟩
  · simp only [subFrom]
    by_cases e : c = lo
    · rw [if_pos e]; exact .inl ⟨_, _, _, rfl⟩
    · rw [if_neg e]; exact .inl ⟨b, o + lo * esz, c - lo, by simp [addAt]⟩
  · obtain rfl : lo = 0 := by omega
    exact .inr (.inl ⟨rfl, rfl⟩)
  · obtain rfl : lo = 0 := by omega
    simp only [subFrom]
    by_cases e : c = 0
    · rw [if_pos e]; exact .inr (.inr ⟨_, _, rfl, rfl⟩)
    · rw [if_neg e]; exact .inr (.inr ⟨_, _, rfl, rfl⟩)
theorem rowAt_to {w : World} (h : RowAt w v esz n xs) {hi : Nat} (hle : hi ≤ n) : RowAt w (subTo v hi) esz hi (xs.take (hi * esz)) := by
  have e1 : blkOf (subTo v hi) = blkOf v := by
    cases v with
    | slice a _ _ => cases a <;> rfl
    | _ => rfl
  have e2 : offOf (subTo v hi) = offOf v := by
    cases v with
    | slice a _ _ => cases a <;> rfl
    | _ => rfl
  refine ⟨by rw [List.length_take, h.len, Nat.min_eq_left (Nat.mul_le_mul_right _ hle)], fun j u hu => ?_, fun u hu => h.one u (List.mem_of_mem_take hu)⟩
  rw [e1, e2]
  rw [List.getElem?_take] at hu
  split at hu
  · exact h.at_ j u hu
  · cases hu
theorem rowAt_from {w : World} (hok : (Hp.own v E esz n xs).ok w) {lo : Nat} (hle : lo ≤ n) : RowAt w (subFrom v esz lo) esz (n - lo) (xs.drop (lo * esz)) := by
  have h := rowAt_own hok
  refine ⟨by rw [List.length_drop, h.len, Nat.sub_mul], fun j u hu => ?_, fun u hu => h.one u (List.mem_of_mem_drop hu)⟩
  rw [List.getElem?_drop] at hu
  have h1 := h.at_ _ u hu
  have hj : lo * esz + j < xs.length := (List.getElem?_eq_some_iff.1 hu).1
  rcases hok.1.2 with ⟨rfl, rfl⟩ | ⟨g', cap, cur, rfl, h0, hg, hnc, hcm, hcs, htake⟩
  · have := h.len; omega
  · by_cases e : cap = lo
    · have hnl : n = lo := by omega
      have := h.len
      subst hnl
      omega
    · simp only [subFrom, if_neg e, Option.map_some, addAt, blkOf, offOf] at h1 ⊢
      rw [Nat.add_assoc]; exact h1
theorem o_sliceTo {key : Nat} {k : IntKind} {q : Int} (hi : Nat) [ht : TSl C.P T E esz] (h : ev C s x = some v) (hm : s.m key = some (.own v E esz n xs)) (h2 : ev C s z = some (.int k q)) (hq : q = ((hi : Nat) : Int)) (hle : hi ≤ n) : OpV C s ⟨d, .slice T x none (some z) none, ty, pos, aft, gd⟩ [key] (subTo v hi) :=
  ⟨by simp, fun ρ w hr _ hh => by
    have hx := rd1 hr (x := x) (by simp [Op.operands]) h
    have hz := rd1 hr (x := z) (by simp [Op.operands]) h2
    subst hq
    have hok : (Hp.own v E esz n xs).ok w := hh key (by simp) _ hm
    have main : (Instr.sliceAt T v none (some (.int k hi)) none).run C.P w = .ok (subTo v hi) w := by
      rcases hok.1.2 with ⟨rfl, rfl⟩ | ⟨g', cap, cur, rfl, h0, hg, hnc, hcm, hcs, htake⟩
      · obtain rfl : hi = 0 := by omega
        exact run_sliceTo 0 (Nat.le_refl 0)
      · exact run_sliceTo n (by omega)
    simp [execOp, hx, hz, main, Sem.run_bind, Result.andThen]⟩
theorem row_to {key hi : Nat} (hm : s.m key = some (.own v E esz n xs)) (hle : hi ≤ n) : RowIn s [key] (subTo v hi) esz hi (xs.take (hi * esz)) := fun w _ hh => rowAt_to (rowAt_own (hh key (by simp) _ hm)) hle
theorem row_from {key lo : Nat} (hm : s.m key = some (.own v E esz n xs)) (hle : lo ≤ n) : RowIn s [key] (subFrom v esz lo) esz (n - lo) (xs.drop (lo * esz)) := fun w _ hh => rowAt_from (hh key (by simp) _ hm) hle
end Go.Proofs.Ytpgjbalnipinoaa

/- Maps of the code's own; calls that turn what is said of memory; calls that make blocks of which something is said. Conditions: none. -/
namespace Go.Proofs.Ytpgjbalnipinoaa
open Go.Proofs Go.RowKit
variable {C : Cx} {K : Exit → St → Prop} {ops : Array Oper} {rest : List Oper} {l l' : List (Nat × Value)} {m m' : List (Nat × Hp)} {g : World → Prop} {gb : Nat → Prop} {dd : List Nat}
  {i : Nat} {d : Option Nat} {op : Op} {ty : TypeId} {pos : String} {aft : Array Edge} {gd : Option (Nat × Bool)} {ks : List Nat} {y : Value} {T T' E : TypeId} {s : St} {x z z' : Operand} {v u : Value} {n esz j : Nat} {xs : List Value}
  {a : Act} {w w' : World} {f : Nat} {cal : Operand} {as_ : Array Operand} {ts : Array TypeId} {vs : List Value} {o : Oper}

/-- blocks of which something is said are turned -/
theorem rep_turn (hr : Rep C (mk l m g gb dd) a w) {S : Nat → Prop} {g' : World → Prop} (hc : Chg S w w') (hg : g' w') (hS : ∀ b, S b → gb b ∧ (C.w0.heap.size ≤ b ∨ (C.W b ∧ ¬ C.kp))) (hst : ∀ w1 w2 : World, Chg (fun b => ¬ gb b) w1 w2 → g' w1 → g' w2) : Rep C (mk l m g' gb dd) a w' := by
  refine ⟨hr.dfs, fun D hD => ?_, hr.dg, hr.dn, hr.sz, hr.tm, fun k h hk => ⟨Hp.keep (hr.mo k h hk).1 fun b hb => hc.block b (Hp.lt (hr.mo k h hk).1 hb) fun hs => (hr.gd b (hS b hs).1).2 k h hk hb, (hr.mo k h hk).2⟩, hr.inj, hg, fun b hb => ⟨Nat.lt_of_lt_of_le (hr.gd b hb).1 hc.size, (hr.gd b hb).2⟩, hst, hr.fr.trans (hc.mono fun k _ hk => ?_), fun hp => ⟨Nat.le_trans (hr.ko hp).size hc.size, fun k o hk ho => ?_⟩⟩
  · have hD' := hr.dd D hD
    exact (hc.block D (Array.getElem?_eq_some_iff.1 hD').1 fun hs => (hr.dg D hD).2 (hS D hs).1).trans hD'
  · rcases (hS k hk).2 with h | h
    · exact .inr h
    · exact .inl h.1
  · have h1 := (hr.ko hp).same k o hk ho
    refine (hc.block k (Array.getElem?_eq_some_iff.1 h1).1 fun hs => ?_).trans h1
    rcases (hS k hs).2 with h | h
    · have := (Array.getElem?_eq_some_iff.1 hk).1; omega
    · exact h.2 hp
/-- new blocks of which something is said -/
theorem rep_said (hr : Rep C (mk l m g gb dd) a w) {Φ : World → Prop} {B : Nat → Prop} (hb : Below w.heap.size w w') (hΦ : Φ w') (hB : ∀ b, B b → w.heap.size ≤ b ∧ b < w'.heap.size) (hst : ∀ w1 w2 : World, Φ w1 → (∀ b, B b → w2.heap[b]? = w1.heap[b]?) → Φ w2) (hlt : ∀ w1 b, Φ w1 → B b → b < w1.heap.size) : Rep C (mk l m (fun w => g w ∧ Φ w) (fun b => gb b ∨ B b) dd) a w' := by
  have h1 := rep_below hr hb
  refine ⟨h1.dfs, h1.dd, fun D hD => ⟨(h1.dg D hD).1, fun h => ?_⟩, h1.dn, h1.sz, h1.tm, h1.mo, h1.inj, ⟨h1.gh, hΦ⟩, fun b hb' => ?_, fun w1 w2 hc hg => ⟨h1.st w1 w2 (hc.mono fun k _ hn => fun h => hn (.inl h)) hg.1, hst w1 w2 hg.2 fun b hb' => hc.block b (hlt w1 b hg.2 hb') fun hn => hn (.inr hb')⟩, h1.fr, h1.ko⟩
  · rcases h with h | h
    · exact (h1.dg D hD).2 h
    · have h2 := (Array.getElem?_eq_some_iff.1 (hr.dd D hD)).1
      have := (hB D h).1
      omega
  · rcases hb' with h | h
    · exact h1.gd b h
    · refine ⟨(hB b h).2, fun k hp hk e => ?_⟩
      have h2 := Hp.lt (hr.mo k hp hk).1 e
      have := (hB b h).1
      omega
/-- a call that turns blocks of which something is said -/
theorem l_gturn {S : Nat → Prop} {g' : World → Prop} (hw : wantS C (mk l m g gb dd) ops ⟨some i, .call { callee := .value cal, args := as_, argTypes := ts }, ty, pos, aft, gd⟩ = some true) {caps : Array Value} (hcal : ev C (mk l m g gb dd) cal = some (.func (.func f) #[] caps)) (hent : ∀ args w, (callFunc f args).run C.P w = .ok (.enter f args) w) (hargs : evs C (mk l m g gb dd) as_.toList = some vs)
    (hS : ∀ b, S b → gb b ∧ (C.w0.heap.size ≤ b ∨ (C.W b ∧ ¬ C.kp))) (hst : ∀ w1 w2 : World, Chg (fun b => ¬ gb b) w1 w2 → g' w1 → g' w2)
    (hc : ∀ w, g w → Held (mk l m g gb dd) ks w → Calls C.P f (vs.toArray ++ caps) w fun e w' => (∃ y, e = .returned y) ∧ Chg S w w' ∧ g' w')
    (next : ∀ y, VL C ops rest K (mk ((i, y) :: l) m g' gb dd)) : VL C ops (⟨some i, .call { callee := .value cal, args := as_, argTypes := ts }, ty, pos, aft, gd⟩ :: rest) K (mk l m g gb dd) :=
  vl_step hw fun a w hr => call_step (R := fun _ w' => Chg S w w' ∧ g' w') hr hcal hent hargs ((hc w hr.gh (held_of hr ks)).mono fun e w' ⟨⟨y, h1⟩, h2⟩ => ⟨y, h1, h2⟩) fun y w' ⟨h1, h2⟩ => ⟨mk ((i, y) :: l) m g' gb dd, by rw [← mk_put]; exact rep_put (rep_turn hr h1 h2 hS hst) (some i) y, next y⟩
/-- a call that makes blocks of which something is said, and turns nothing -/
theorem l_gsaid {α : Type} (X : α → Value) (Φ : α → World → Prop) (B : α → Nat → Prop) (hw : wantS C (mk l m g gb dd) ops ⟨some i, .call { callee := .value cal, args := as_, argTypes := ts }, ty, pos, aft, gd⟩ = some true) {caps : Array Value} (hcal : ev C (mk l m g gb dd) cal = some (.func (.func f) #[] caps)) (hent : ∀ args w, (callFunc f args).run C.P w = .ok (.enter f args) w) (hargs : evs C (mk l m g gb dd) as_.toList = some vs)
    (hst : ∀ x w1 w2, Φ x w1 → (∀ b, B x b → w2.heap[b]? = w1.heap[b]?) → Φ x w2) (hlt : ∀ x w1 b, Φ x w1 → B x b → b < w1.heap.size)
    (hc : ∀ w, g w → Held (mk l m g gb dd) ks w → Calls C.P f (vs.toArray ++ caps) w fun e w' => ∃ x, e = .returned (X x) ∧ Below w.heap.size w w' ∧ Φ x w' ∧ ∀ b, B x b → w.heap.size ≤ b)
    (next : ∀ x, VL C ops rest K (mk ((i, X x) :: l) m (fun w => g w ∧ Φ x w) (fun b => gb b ∨ B x b) dd)) : VL C ops (⟨some i, .call { callee := .value cal, args := as_, argTypes := ts }, ty, pos, aft, gd⟩ :: rest) K (mk l m g gb dd) :=
  vl_step hw fun a w hr => call_step (R := fun y w' => ∃ x, y = X x ∧ Below w.heap.size w w' ∧ Φ x w' ∧ ∀ b, B x b → w.heap.size ≤ b) hr hcal hent hargs ((hc w hr.gh (held_of hr ks)).mono fun e w' ⟨x, h1, h2⟩ => ⟨X x, h1, x, rfl, h2⟩) fun y w' ⟨x, h0, h1, h2, h3⟩ =>
    ⟨mk ((i, X x) :: l) m (fun w => g w ∧ Φ x w) (fun b => gb b ∨ B x b) dd, by subst h0; rw [← mk_put]; exact rep_put (rep_said hr h1 h2 (fun b hb => ⟨h3 b hb, hlt x w' b h2 hb⟩) (hst x) (hlt x)) (some i) _, next x⟩
/-- a map is made -/
theorem l_mapNew (Φ : Nat → World → Prop) (hw : wantS C (mk l m g gb dd) ops ⟨some i, .makeMap T none, ty, pos, aft, gd⟩ = some true) (h0 : ∀ w : World, Φ w.heap.size (w.alloc (.map #[] 0))) (hst : ∀ b w1 w2, Φ b w1 → w2.heap[b]? = w1.heap[b]? → Φ b w2) (hlt : ∀ b w1, Φ b w1 → b < w1.heap.size)
    (next : ∀ b, C.w0.heap.size ≤ b → VL C ops rest K (mk ((i, .map (some b)) :: l) m (fun w => g w ∧ Φ b w) (fun x => gb x ∨ x = b) dd)) : VL C ops (⟨some i, .makeMap T none, ty, pos, aft, gd⟩ :: rest) K (mk l m g gb dd) :=
  vl_step hw fun a w hr => by
    refine wpIn_value (y := .map (some w.heap.size)) (w' := w.alloc (.map #[] 0)) (by simp) (by simp [execOp, run_makeMap, Sem.run_bind, Result.andThen]) ⟨mk ((i, .map (some w.heap.size)) :: l) m (fun w' => g w' ∧ Φ w.heap.size w') (fun x => gb x ∨ x = w.heap.size) dd, ?_, next w.heap.size hr.fr.size⟩
    rw [← mk_put]
    exact rep_put (rep_said (B := fun x => x = w.heap.size) hr ((Below.refl _ w).alloc (Nat.le_refl _) _) (h0 w) (fun b hb => by subst hb; simp) (fun w1 w2 h1 h2 => hst _ w1 w2 h1 (h2 _ rfl)) (fun w1 b h1 hb => by subst hb; exact hlt _ w1 h1)) (some i) _
/-- a map is read -/
theorem o_lookup {b : Nat} {key : Value} (h : ev C s x = some (.map (some b))) (h2 : ev C s z = some key) (hl : ∀ w, s.g w → (Instr.lookup T (.map (some b)) key false).run C.P w = .ok v w) : OpV C s ⟨d, .lookup T x z false, ty, pos, aft, gd⟩ [] v :=
  ⟨by simp, fun ρ w hr hg _ => by simp [execOp, rd1 hr (x := x) (by simp [Op.operands]) h, rd1 hr (x := z) (by simp [Op.operands]) h2, hl w hg, Sem.run_bind, Result.andThen]⟩
/-- a map is written -/
theorem l_mapSet {b : Nat} {key val : Value} {S : Nat → Prop} {g' : World → Prop} (hw : wantS C (mk l m g gb dd) ops ⟨none, .mapUpdate T x z z', ty, pos, aft, gd⟩ = some true) (h : ev C (mk l m g gb dd) x = some (.map (some b))) (h2 : ev C (mk l m g gb dd) z = some key) (h3 : ev C (mk l m g gb dd) z' = some val)
    (hS : ∀ b, S b → gb b ∧ (C.w0.heap.size ≤ b ∨ (C.W b ∧ ¬ C.kp))) (hst : ∀ w1 w2 : World, Chg (fun b => ¬ gb b) w1 w2 → g' w1 → g' w2)
    (hc : ∀ w, g w → ∃ w', (Instr.mapUpdate T (.map (some b)) key val).run C.P w = .ok () w' ∧ Chg S w w' ∧ g' w')
    (next : VL C ops rest K (mk l m g' gb dd)) : VL C ops (⟨none, .mapUpdate T x z z', ty, pos, aft, gd⟩ :: rest) K (mk l m g gb dd) :=
  vl_step hw fun a w hr => by
    obtain ⟨w', h4, h5, h6⟩ := hc w hr.gh
    have e1 : a.eval x = _ := ev_ok hr h
    have e2 : a.eval z = _ := ev_ok hr h2
    have e3 : a.eval z' = _ := ev_ok hr h3
    exact wpIn_skipOp (w' := w') (by simp) (by simp [execOp, e1, e2, e3, h4, Sem.run_bind, Result.andThen]) ⟨_, rep_turn hr h5 h6 hS hst, next⟩
/-- INTO a function of whose memory something is said -/
theorem enterG {P : Program} {f N : Nat} {fn : Func} {c : Code} {rs : List ResultVar} {args : List Value} {w : World} (W : Nat → Prop) (kp : Prop) (g0 : World → Prop) (gb0 : Nat → Prop) (R : Value → St → Prop) (hf : P.funcs[f]? = some fn) (hb : fn.body = some c) (hn : fn.ntmps = N) (hrs : fn.results = rs.toArray)
    (hsz : Nat.ble args.length N = true) (hg0 : g0 w) (hgb : ∀ b, gb0 b → b < w.heap.size) (hst : ∀ w1 w2 : World, Chg (fun b => ¬ gb0 b) w1 w2 → g0 w1 → g0 w2)
    (h : V ⟨P, w, N, 3, none, W, kp⟩ c (retK ⟨P, w, N, 3, none, W, kp⟩ rs R) (mk (argsL 0 args) [] g0 gb0 [])) :
    Calls P f args.toArray w fun e w' => ∃ v s', e = .returned v ∧ R v s' ∧ Out ⟨P, w, N, 3, none, W, kp⟩ s' w' := by
  have hrs' : fn.results.toList = rs := by rw [hrs]
  rw [← hrs'] at h
  refine callsIn_wide (n := 3).1 (callsIn_of_wp_marks hf hb trivial ?_)
  have hle : args.length ≤ N := Nat.le_of_ble_eq_true hsz
  have hrep : Rep ⟨P, w, N, 3, none, W, kp⟩ (mk (argsL 0 args) [] g0 gb0 []) { tmps := args.toArray ++ Array.replicate (fn.ntmps - args.toArray.size) undef, defers := [] } w := by
    refine ⟨rfl, fun _ h => (by cases h), fun _ h => (by cases h), List.nodup_nil, by simp [hn]; omega, fun i v hi hv => ?_, fun k h hk => (by cases hk), fun k k' h h' b hk => (by cases hk), hg0, fun b hb => ⟨hgb b hb, fun k h hk => (by cases hk)⟩, hst, Chg.refl _ _, fun _ => KeepsOthers.refl _⟩
    have := (argsL_ok args 0 i v hv).2
    have hlt := (List.getElem?_eq_some_iff.1 this).1
    rw [Array.getD_eq_getD_getElem?, Array.getElem?_append_left (by simpa using hlt)]
    simp at this
    simp [this]
  refine wpIn_mono (h _ _ hrep) ?_
  rintro e a' w' ⟨s', hr', hk⟩
  have fin : (∃ vs, ResAll ⟨P, w, N, 3, none, W, kp⟩ s' fn.results.toList vs ∧ R (packV vs) s') →
      LeavesInM Fence.wide 3 P fn a'.tmps (fun e w' => ∃ v s', e = .returned v ∧ R v s' ∧ Out ⟨P, w, N, 3, none, W, kp⟩ s' w') a'.defers .returning w' := by
    rintro ⟨vs, h1, h2⟩
    rw [hr'.dfs]
    exact leaves_ok (C := ⟨P, w, N, 3, none, W, kp⟩) hr' h1 (fun w'' ho => ⟨_, s', rfl, h2, ho⟩) s'.d w' hr'.dn (fun D hD => ⟨hD, hr'.dd D hD⟩) ⟨hr'.mo, hr'.inj, hr'.gh, hr'.fr, hr'.ko⟩
  cases e with
  | ret => exact fin hk
  | normal => exact fin hk
  | _ => exact hk.elim
/-- a function that turns block b, of which something is said -/
theorem calls_turn {P : Program} {f N : Nat} {fn : Func} {c : Code} {args : List Value} {rs : List ResultVar} {w : World} (b : Nat) (Φ Φ' : World → Prop) (hf : P.funcs[f]? = some fn) (hb : fn.body = some c) (hn : fn.ntmps = N) (hrs : fn.results = rs.toArray) (hsz : Nat.ble args.length N = true)
    (h0 : Φ w) (hst : ∀ w1 w2, Φ w1 → w2.heap[b]? = w1.heap[b]? → Φ w2) (hlt : b < w.heap.size)
    (h : V ⟨P, w, N, 3, none, fun x => x = b, False⟩ c (retK ⟨P, w, N, 3, none, fun x => x = b, False⟩ rs (fun _ s => ∀ w', s.g w' → Φ' w')) (mk (argsL 0 args) [] (fun w' => Chg (fun x => x = b) w w' ∧ Φ w') (fun x => x < w.heap.size) [])) :
    Calls P f args.toArray w fun e w' => (∃ y, e = .returned y) ∧ Chg (fun x => x = b) w w' ∧ Φ' w' := by
  refine (enterG (fun x => x = b) False (fun w' => Chg (fun x => x = b) w w' ∧ Φ w') (fun x => x < w.heap.size) (fun _ s => ∀ w', s.g w' → Φ' w') hf hb hn hrs hsz ⟨Chg.refl _ w, h0⟩ (fun _ h => h) (fun w1 w2 hc h1 => ⟨h1.1.trans (hc.mono fun k _ hk => .inr (by omega)), hst w1 w2 h1.2 (hc.block b (Nat.lt_of_lt_of_le hlt h1.1.size) fun hn => hn hlt)⟩) h).mono ?_
  rintro e w' ⟨v, s', rfl, h1, ho⟩
  exact ⟨⟨v, rfl⟩, ho.fr, h1 w' ho.gh⟩
/-- a function that makes blocks of which something is said -/
theorem calls_said {P : Program} {f N : Nat} {fn : Func} {c : Code} {rs : List ResultVar} {args : List Value} {w : World} {α : Type} (X : α → Value) (Φ : α → World → Prop) (B : α → Nat → Prop) (hf : P.funcs[f]? = some fn) (hb : fn.body = some c) (hn : fn.ntmps = N) (hrs : fn.results = rs.toArray) (hsz : Nat.ble args.length N = true)
    (h : V ⟨P, w, N, 3, none, fun _ => False, True⟩ c (retK ⟨P, w, N, 3, none, fun _ => False, True⟩ rs (fun v s => ∃ x, v = X x ∧ ∀ w', Out ⟨P, w, N, 3, none, fun _ => False, True⟩ s w' → Φ x w' ∧ ∀ b, B x b → w.heap.size ≤ b)) (mk (argsL 0 args) [] (fun w' => Chg (fun _ => False) w w') (fun b => b < w.heap.size ∧ ¬ False) [])) :
    Calls P f args.toArray w fun e w' => ∃ x, e = .returned (X x) ∧ Below w.heap.size w w' ∧ Φ x w' ∧ ∀ b, B x b → w.heap.size ≤ b := by
  refine (enter (fun _ => False) [] (fun v s => ∃ x, v = X x ∧ ∀ w', Out ⟨P, w, N, 3, none, fun _ => False, True⟩ s w' → Φ x w' ∧ ∀ b, B x b → w.heap.size ≤ b) hf hb hn hrs hsz (fun k h hk => (by cases hk)) (fun k k' h h' b hk => (by cases hk)) h).mono ?_
  rintro e w' ⟨v, s', rfl, ⟨x, rfl, h1⟩, ho⟩
  exact ⟨x, rfl, ho.fr.below, h1 w' ho⟩
/-- as l_gown; its block is new -/
theorem l_gownB (hw : wantS C (mk l m g gb dd) ops ⟨some i, .call { callee := .value cal, args := as_, argTypes := ts }, ty, pos, aft, gd⟩ = some true) {caps : Array Value} (hcal : ev C (mk l m g gb dd) cal = some (.func (.func f) #[] caps)) (hent : ∀ args w, (callFunc f args).run C.P w = .ok (.enter f args) w) (hargs : evs C (mk l m g gb dd) as_.toList = some vs)
    (hc : ∀ w, g w → Held (mk l m g gb dd) ks w → Calls C.P f (vs.toArray ++ caps) w fun e w' => ∃ y, e = .returned y ∧ Below w.heap.size w w' ∧ OwnAt w.heap.size w' y E esz n xs)
    (next : ∀ y, RowV y n → (∀ b, y.ownBlock = some b → C.w0.heap.size ≤ b) → VL C ops rest K (mk ((i, y) :: l) ((i, .own y E esz n xs) :: m) g gb dd)) : VL C ops (⟨some i, .call { callee := .value cal, args := as_, argTypes := ts }, ty, pos, aft, gd⟩ :: rest) K (mk l m g gb dd) :=
  vl_step hw fun a w hr => call_step (R := fun y w' => Below w.heap.size w w' ∧ OwnAt w.heap.size w' y E esz n xs) hr hcal hent hargs ((hc w hr.gh (held_of hr ks)).mono fun e w' ⟨y, h1, h2, h3⟩ => ⟨y, h1, h2, h3⟩) fun y w' ⟨h1, h2⟩ =>
    ⟨mk ((i, y) :: l) ((i, .own y E esz n xs) :: m) g gb dd, by rw [← mk_put]; exact rep_put (rep_newOwn hr h1 h2.1 (fun b hb => h2.2 b hb) i) (some i) y, next y h2.rowV fun b hb => Nat.le_trans hr.fr.size (h2.2 b hb)⟩
/-- a block of an iterator's own lies idle while a round goes on -/
theorem yield_keeps {h : Hp} {O O' : Nat → Prop} {W w w2 : World} (hok : h.ok W) (hg : Chg (fun _ => False) W w) (hO : ∀ b, h.has b → ¬ O b) (hc : Chg O w w2) (hO' : ∀ b, O' b → O b ∨ w.heap.size ≤ b) : (∀ b, h.has b → ¬ O' b) ∧ h.ok w2 := by
  have okw : h.ok w := Hp.keep hok fun b hb => hg.block b (Hp.lt hok hb) fun h => h
  refine ⟨fun b hb ho => ?_, Hp.keep okw fun b hb => hc.block b (Hp.lt okw hb) (hO b hb)⟩
  rcases hO' b ho with h1 | h1
  · exact hO b hb h1
  · have := Hp.lt okw hb; omega
/-- anew from the world that is: in an iterator -/
theorem v_rebase {c : Code} (hCW : ∀ b, C.W b) (hkp : ¬ C.kp) (h : ∀ W1, g W1 → (∀ k hp, lk m k = some hp → hp.ok W1) → V C c K (mk l [] (fun w => Chg (fun _ => False) W1 w) (fun b => b < W1.heap.size) [])) : V C c K (mk l m g gb []) := fun a w hr =>
  h w hr.gh (fun k hp hk => (hr.mo k hp hk).1) a w ⟨hr.dfs, fun _ h => (by cases h), fun _ h => (by cases h), List.nodup_nil, hr.sz, hr.tm, fun k h hk => (by cases hk), fun k k' h h' b hk => (by cases hk), Chg.refl _ _, fun b hb => ⟨hb, fun k h hk => (by cases hk)⟩,
    fun w1 w2 hc2 h1 => h1.trans (hc2.mono fun k _ hn => (Decidable.em (k < w.heap.size)).elim (fun h => absurd h hn) (fun h => .inr (by omega))), hr.fr, fun hp => absurd hp hkp⟩
/-! ### rows that lie still, one by one -/
def gF (g0 : World → Prop) : List Hp → World → Prop
  | [] => g0
  | h :: r => fun w => gF g0 r w ∧ h.ok w
def gbF (gb0 : Nat → Prop) : List Hp → Nat → Prop
  | [] => gb0
  | h :: r => fun b => gbF gb0 r b ∨ h.has b
theorem gF_base {g0 : World → Prop} {w : World} : ∀ (fs : List Hp), gF g0 fs w → g0 w
  | [], h => h
  | _ :: r, h => gF_base r h.1
theorem gF_mem {g0 : World → Prop} {w : World} {h : Hp} : ∀ (fs : List Hp), h ∈ fs → gF g0 fs w → h.ok w
  | [], hm, _ => by simp at hm
  | x :: r, hm, hg => by
    rcases List.mem_cons.1 hm with e | hm
    · rw [e]; exact hg.2
    · exact gF_mem r hm hg.1
end Go.Proofs.Ytpgjbalnipinoaa

/- Calls that turn several things at once; slices that are made; a few operations on numbers. Conditions: none. -/
namespace Go.Proofs.Ytpgjbalnipinoaa
open Go.Proofs Go.RowKit
variable {C : Cx} {K : Exit → St → Prop} {ops : Array Oper} {rest : List Oper} {l l' : List (Nat × Value)} {m m' : List (Nat × Hp)} {g : World → Prop} {gb : Nat → Prop} {dd : List Nat}
  {i : Nat} {d : Option Nat} {op : Op} {ty : TypeId} {pos : String} {aft : Array Edge} {gd : Option (Nat × Bool)} {ks : List Nat} {y : Value} {S T T' E : TypeId} {s : St} {x z z' : Operand} {v u : Value} {n esz j : Nat} {xs : List Value}
  {a : Act} {w w' : World} {f : Nat} {cal : Operand} {as_ : Array Operand} {ts : Array TypeId} {vs : List Value} {o : Oper}

theorem and15_nat (a : Int) : (BitVec.ofInt 64 a &&& BitVec.ofInt 64 15).toNat = (a % 16).toNat := by
  rw [BitVec.toNat_and, show (BitVec.ofInt 64 15).toNat = 2 ^ 4 - 1 by decide, Nat.and_two_pow_sub_one_eq_mod, BitVec.toNat_ofInt]
  show (a % 18446744073709551616).toNat % 16 = (a % 16).toNat
  omega
theorem o_and15 {q : Int} (h : ev C s x = some (.int .i64 q)) (h2 : ev C s z = some (.int .i64 15)) : OpV C s ⟨d, .binOp .and T x z T', ty, pos, aft, gd⟩ [] (.int .i64 (q % 16)) := opv _ _ (by simp) fun ρ w hr => by
  have hb : (Op.intBits .and .i64 q 15).run C.P w = .ok (.int .i64 (q % 16)) w := by
    have h1 := and15_nat q
    have h2 : IntKind.wrap .i64 (((q % 16).toNat : Nat) : Int) = q % 16 := by
      rw [wrap_i64 (by omega)]; omega
    show (pure (Value.int .i64 (IntKind.wrap .i64 (((BitVec.ofInt 64 q &&& BitVec.ofInt 64 15).toNat : Nat) : Int))) : Sem Value).run C.P w = _
    rw [h1, h2]; rfl
  simp [execOp, rd1 hr (x := x) (by simp [Op.operands]) h, rd1 hr (x := z) (by simp [Op.operands]) h2, eqGuard, binOp, Sem.run_bind, Result.andThen, hb]
theorem wrap_u8 {q : Int} (h : 0 ≤ q ∧ q < 256) : IntKind.wrap .u8 q = q := by
  simp [IntKind.wrap, IntKind.bits, IntKind.signed]
  omega
theorem o_conv8 {k' k'' : IntKind} {q : Int} [h1 : TInt C.P S k'] [h2 : TInt C.P T .u8] (h : ev C s x = some (.int k'' q)) (hr : 0 ≤ q ∧ q < 256) : OpV C s ⟨d, .convert S T x, ty, pos, aft, gd⟩ [] (.int .u8 q) := o_conv h (wrap_u8 hr)
theorem madeCells_one {zv : Value} (n : Nat) : (madeCells #[zv] n).toList = List.replicate n zv := by
  apply List.ext_getElem
  · simp [madeCells]
  · intro i h1 h2
    simp [madeCells, Nat.mod_one]
theorem o_makeSlice {n by_ : Nat} {zv : Value} [ht : TSl C.P T E 1] [he : TElem C.P E zv 1 by_] (h : ev C s x = some (.int .i64 (n : Int))) (h2 : ev C s z = some (.int .i64 (n : Int))) (hz : zv.cells = #[zv]) (hn : n ≤ 1000) (hby : Nat.ble by_ 128 = true) :
    OpN C s ⟨d, .makeSlice T x z, ty, pos, aft, gd⟩ (fun b => .slice (some ⟨b, 0, none⟩) n n) E (List.replicate n zv) :=
  ⟨by simp, fun ρ w hr => by
    obtain ⟨ie, hi, hz', hs2, hb⟩ := he.h
    have hby' : by_ ≤ 128 := Nat.le_of_ble_eq_true hby
    have hbb : (by_ : Int) * n ≤ 281474976710656 := by
      have h1 : by_ * n ≤ 128 * 1000 := Nat.mul_le_mul hby' hn
      have h2 : ((by_ * n : Nat) : Int) ≤ 128000 := by omega
      rw [Int.natCast_mul] at h2; omega
    have hm := run_makeSlice (P := C.P) (w := w) T E ie zv ht.h hi hz' .i64 .i64 (n : Int) (n : Int) (by omega) (Int.le_refl _) (by rw [hs2]; simp; omega) (by rw [hb]; exact hbb) (by omega)
    rw [hs2, hz] at hm
    simp only [Int.toNat_natCast, Nat.mul_one] at hm
    have e : madeCells #[zv] n = (List.replicate n zv).toArray := by rw [← madeCells_one n]
    rw [e] at hm
    simp [execOp, rd1 hr (x := x) (by simp [Op.operands]) h, rd1 hr (x := z) (by simp [Op.operands]) h2, Sem.run_bind, Result.andThen, hm]⟩

/-- a slice is made in a region that draws -/
theorem d_mkO {wf : Nat → Value → Prop} {L : Pr wf → List (Nat × Value)} {M : Pr wf → List (Nat × Hp)} {os : List Oper} {κs : List (List Nat)} {by_ : Nat} {zv : Value} [ht : TSl C.P T E 1] [he : TElem C.P E zv 1 by_] (hw : ∀ σ, wantS C (mk (L σ) (M σ) g gb dd) ops ⟨some i, .makeSlice T x z, ty, pos, aft, gd⟩ = some true)
    (h : ∀ σ, ev C (mk (L σ) (M σ) g gb dd) x = some (.int .i64 (n : Int))) (h2 : ∀ σ, ev C (mk (L σ) (M σ) g gb dd) z = some (.int .i64 (n : Int))) (hz : zv.cells = #[zv]) (hz1 : zv.oneCell' = true) (hn : n ≤ 1000) (hby : Nat.ble by_ 128 = true)
    (next : VDZ C ops os κs K (fun σ => mk ((i, .slice (some ⟨σ.b i, 0, none⟩) n n) :: L σ) ((i, .own (.slice (some ⟨σ.b i, 0, none⟩) n n) E 1 n (List.replicate n zv)) :: M σ) g gb dd)) : VDZ C ops (⟨some i, .makeSlice T x z, ty, pos, aft, gd⟩ :: os) ([] :: κs) K (fun σ => mk (L σ) (M σ) g gb dd) :=
  d_cons (.inl ⟨hw, .newO i n E 1 (fun _ => List.replicate n zv) rfl rfl (fun _ => by simp) (by unfold maxLen; omega) (fun _ u hu => by rw [List.eq_of_mem_replicate hu]; exact hz1) fun σ => o_makeSlice (h σ) (h2 σ) hz hn hby⟩) (by simp only [appP, appS, mk_mem, mk_put]; exact next)
/-! ### several things at once -/
theorem lk_cat {α : Type} : ∀ (l r : List (Nat × α)) (k : Nat), lk (l ++ r) k = match lk l k with | some v => some v | none => lk r k
  | [], r, k => rfl
  | (j, x) :: l, r, k => by
    simp only [List.cons_append, lk]
    split
    · rfl
    · exact lk_cat l r k
/-- the blocks of some things -/
def Blks (l : List (Nat × Hp)) (b : Nat) : Prop := ∃ k h, lk l k = some h ∧ h.has b
/-- what some things come to be -/
structure News (olds news : List (Nat × Hp)) (w w' : World) : Prop where
  chg : Chg (Blks olds) w w'
  ok : ∀ k h, lk news k = some h → h.ok w'
  new : ∀ k h b, lk news k = some h → h.has b → Blks olds b ∨ w.heap.size ≤ b
  inj : ∀ k k' h h' b, lk news k = some h → lk news k' = some h' → h.has b → h'.has b → k = k'
theorem rep_multi (hr : Rep C (mk l m g gb dd) a w) (olds news : List (Nat × Hp)) (oks keep : List Nat) (ho : sel oks m = some olds) (hs : sel keep m = some m') (hdj : (oks.any fun k => keep.contains k) = false) (hn : News olds news w w') : Rep C (mk l (news ++ m') g gb dd) a w' := by
  have hold : ∀ k h, lk olds k = some h → lk m k = some h := fun k h hh => sel_ok oks olds ho k h hh
  have hm : ∀ k h, lk m' k = some h → lk m k = some h ∧ ∀ h', ¬ lk olds k = some h' := fun k h hh => ⟨sel_ok keep m' hs k h hh, fun h' hh' => by
    have h1 := sel_key keep m' hs k h hh
    have h2 := sel_key oks olds ho k h' hh'
    have := List.any_eq_false.1 hdj k h2
    simp at this; exact this h1⟩
  have key1 : ∀ k h, lk m' k = some h → ∀ b, h.has b → ¬ Blks olds b := fun k h hh b hb1 ⟨k', h', h1, h2⟩ => by
    have e := hr.inj k k' h h' b (hm k h hh).1 (hold k' h' h1) hb1 h2
    subst e
    exact (hm k h hh).2 h' h1
  have key2 : ∀ k h, lk m' k = some h → ∀ k' h', lk news k' = some h' → ∀ b, h.has b → h'.has b → False := fun k h hh k' h' hh' b e e' => by
    rcases hn.new k' h' b hh' e' with h1 | h1
    · exact key1 k h hh b e h1
    · have := Hp.lt (hr.mo k h (hm k h hh).1).1 e; omega
  have hmain : Rep C { mk l m g gb dd with m := lk (news ++ m') } a w' := by
    refine rep_chg hr _ hn.chg (fun b ⟨k, h, h1, h2⟩ _ => ⟨(hr.mo k h (hold k h h1)).2 b h2, fun hg => (hr.gd b hg).2 k h (hold k h h1) h2, fun o ho => ?_⟩) _ (fun k h hh => ?_) fun k k' h h' b hh hh' e e' => ?_
    · obtain ⟨o', h3, h4⟩ := Hp.isCells (hr.mo k h (hold k h h1)).1 h2
      rw [h3] at ho; cases ho; exact h4
    · rw [lk_cat] at hh
      split at hh
      · rename_i hv
        cases hh
        refine .inr ⟨hn.ok k h hv, fun b hb' => (hn.new k h b hv hb').imp (fun h1 => ⟨h1, ?_⟩) id⟩
        obtain ⟨k', h', h2, h3⟩ := h1
        exact Hp.lt (hr.mo k' h' (hold k' h' h2)).1 h3
      · exact .inl ⟨(hm k h hh).1, fun b hb' => key1 k h hh b hb'⟩
    · rw [lk_cat] at hh hh'
      cases h1 : lk news k with
      | none =>
        rw [h1] at hh
        cases h2 : lk news k' with
        | none => rw [h2] at hh'; exact hr.inj k k' h h' b (hm k h hh).1 (hm k' h' hh').1 e e'
        | some q => rw [h2] at hh'; cases hh'; exact (key2 k h hh k' _ h2 b e e').elim
      | some p =>
        rw [h1] at hh; cases hh
        cases h2 : lk news k' with
        | none => rw [h2] at hh'; exact (key2 k' h' hh' k _ h1 b e' e).elim
        | some q => rw [h2] at hh'; cases hh'; exact hn.inj k k' _ _ b h1 h2 e e'
  exact hmain
/-- a call that turns several things -/
theorem l_gmulti {α : Type} (Q : α → Prop) (news : α → List (Nat × Hp)) {olds : List (Nat × Hp)} (oks keep : List Nat) (hw : wantS C (mk l m g gb dd) ops ⟨some i, .call { callee := .value cal, args := as_, argTypes := ts }, ty, pos, aft, gd⟩ = some true) {caps : Array Value} (hcal : ev C (mk l m g gb dd) cal = some (.func (.func f) #[] caps)) (hent : ∀ args w, (callFunc f args).run C.P w = .ok (.enter f args) w) (hargs : evs C (mk l m g gb dd) as_.toList = some vs)
    (ho : sel oks m = some olds) (hs : sel keep m = some m') (hdj : (oks.any fun k => keep.contains k) = false)
    (hc : ∀ w, g w → (∀ k h, lk m k = some h → h.ok w) → (∀ k k' h h' b, lk m k = some h → lk m k' = some h' → h.has b → h'.has b → k = k') → (∀ b, gb b → ¬ Blks m b) → Calls C.P f (vs.toArray ++ caps) w fun e w' => (∃ y, e = .returned y) ∧ ∃ x, Q x ∧ News olds (news x) w w')
    (next : ∀ x y, Q x → VL C ops rest K (mk ((i, y) :: l) (news x ++ m') g gb dd)) : VL C ops (⟨some i, .call { callee := .value cal, args := as_, argTypes := ts }, ty, pos, aft, gd⟩ :: rest) K (mk l m g gb dd) :=
  vl_step hw fun a w hr => call_step (R := fun _ w' => ∃ x, Q x ∧ News olds (news x) w w') hr hcal hent hargs ((hc w hr.gh (fun k h hk => (hr.mo k h hk).1) hr.inj (fun b hb ⟨k, h, h1, h2⟩ => (hr.gd b hb).2 k h h1 h2)).mono fun e w' ⟨⟨y, h1⟩, h2⟩ => ⟨y, h1, h2⟩) fun y w' ⟨x, hq, hn⟩ =>
    ⟨mk ((i, y) :: l) (news x ++ m') g gb dd, by rw [← mk_put]; exact rep_put (rep_multi hr olds (news x) oks keep ho hs hdj hn) (some i) y, next x y hq⟩
/-- a function that turns several things, and hands nothing back -/
theorem calls_multi {P : Program} {f N : Nat} {fn : Func} {c : Code} {args : List Value} {w : World} {α : Type} (m0 : List (Nat × Hp)) (Q : α → Prop) (news : α → List (Nat × Hp)) (hf : P.funcs[f]? = some fn) (hb : fn.body = some c) (hn : fn.ntmps = N) (hrs : fn.results = #[]) (hok : ∀ k h, lk m0 k = some h → h.ok w)
    (hi0 : ∀ k k' h h' b, lk m0 k = some h → lk m0 k' = some h' → h.has b → h'.has b → k = k')
    (h : V ⟨P, w, N, 3, none, Blks m0, True⟩ c (retK ⟨P, w, N, 3, none, Blks m0, True⟩ [] (fun _ s => ∃ x, Q x ∧ ∀ k h, lk (news x) k = some h → s.m k = some h)) (mk (argsL 0 args) m0 (fun w' => Chg (Blks m0) w w') (fun b => b < w.heap.size ∧ ¬ Blks m0 b) []))
    (hsz : Nat.ble args.length N = true := by rfl) :
    Calls P f args.toArray w fun e w' => (∃ y, e = .returned y) ∧ ∃ x, Q x ∧ News m0 (news x) w w' := by
  refine (enter (Blks m0) m0 (fun _ s => ∃ x, Q x ∧ ∀ k h, lk (news x) k = some h → s.m k = some h) hf hb hn (by rw [hrs]) hsz (fun k h hk => ⟨hok k h hk, fun b hb => ⟨k, h, hk, hb⟩⟩) hi0 h).mono ?_
  rintro e w' ⟨v, s', rfl, ⟨x, hq, hk⟩, ho⟩
  exact ⟨⟨v, rfl⟩, x, hq, ho.fr, fun k h hh => (ho.mo k h (hk k h hh)).1, fun k h b hh hb => ((ho.mo k h (hk k h hh)).2 b hb).symm, fun k k' h h' b h1 h2 h3 h4 => ho.inj k k' h h' b (hk _ _ h1) (hk _ _ h2) h3 h4⟩
/-- a thing by another name -/
theorem v_renH (key key' : Nat) (keep : List Nat) {c : Code} {h0 : Hp} (hk : lk m key = some h0) (hs : sel keep m = some m') (hkeep : keep.contains key = false) (next : V C c K (mk l ((key', h0) :: m') g gb dd)) : V C c K (mk l m g gb dd) :=
  fun a w hr => next a w (rep_ownL hr hk (Chg.refl _ w) (hr.mo key _ hk).1 (fun b hb => .inl hb) key' keep hs hkeep)
/-- a field or an element of one cell is stored in a row of ours -/
theorem o_storeRF {f key : Nat} [ht : TOne C.P T] (h : ev C s x = some (.pointer (some ⟨blkOf v, offOf v + j * esz + f, none⟩))) (h2 : ev C s z = some u) (hc : u.cells.toList = [u]) (h1 : u.oneCell' = true) (hm : s.m key = some (.own v E esz n xs)) (hlt : j < n) (hf : f < esz) :
    OpS C s ⟨d, .store T x z, ty, pos, aft, gd⟩ key (.own v E esz n xs) (.own v E esz n (xs.take (j * esz + f) ++ [u] ++ xs.drop (j * esz + f + 1))) :=
  ⟨by simp, hm, rfl, fun ρ w hr hok => by
    have hxl := (show (Hp.own v E esz n xs).ok w from hok).1.1
    have hmul : j * esz + esz ≤ n * esz := by rw [← Nat.succ_mul]; exact Nat.mul_le_mul_right _ hlt
    obtain ⟨w', h3, h4, h5⟩ := own_store (P := C.P) hok (j * esz + f) [u] (by rw [hxl]; show j * esz + f + 1 ≤ _; omega) (fun q hq => by rw [List.mem_singleton.1 hq]; exact h1) (by simp)
    refine ⟨w', ?_, h4, h5⟩
    have hus : u.cells.size = 1 := by
      have : u.cells.toList.length = 1 := by rw [hc]; rfl
      simpa using this
    have hrow : (storeVar T ⟨blkOf v, offOf v + j * esz + f, none⟩ u).run C.P w = .ok () w' := by
      unfold storeVar
      rw [Sem.run_bind, ht.sz]
      rw [← Nat.add_assoc] at h3
      simp [Result.andThen, hus, hc, h3]
    simp [execOp, rd1 hr (x := x) (by simp [Op.operands]) h, rd1 hr (x := z) (by simp [Op.operands]) h2, Instr.storeAt, Instr.sureAddr, Sem.run_bind, Result.andThen, hrow]⟩
theorem o_storeR1 {key : Nat} [ht : TOne C.P T] (h : ev C s x = some (.pointer (some ⟨blkOf v, offOf v + j * 1, none⟩))) (h2 : ev C s z = some u) (hc : u.cells.toList = [u]) (h1 : u.oneCell' = true) (hm : s.m key = some (.own v E 1 n xs)) (hlt : j < n) (hx : j < xs.length) :
    OpS C s ⟨d, .store T x z, ty, pos, aft, gd⟩ key (.own v E 1 n xs) (.own v E 1 n (xs.set j u)) := by
  have e : xs.set j u = xs.take (j * 1 + 0) ++ [u] ++ xs.drop (j * 1 + 0 + 1) := by
    rw [List.set_eq_take_append_cons_drop, if_pos hx]; simp
  rw [e]
  exact o_storeRF (f := 0) h h2 hc h1 hm hlt (by omega)
end Go.Proofs.Ytpgjbalnipinoaa

/- A range over a function whose rounds may return. Conditions: none. -/
namespace Go.Proofs.Ytpgjbalnipinoaa
open Go.Proofs Go.RowKit
variable {C : Cx} {K : Exit → St → Prop} {ops : Array Oper} {rest : List Oper} {l l' : List (Nat × Value)} {m m' : List (Nat × Hp)} {g : World → Prop} {gb : Nat → Prop} {dd : List Nat}
  {i : Nat} {d : Option Nat} {op : Op} {ty : TypeId} {pos : String} {aft : Array Edge} {gd : Option (Nat × Bool)} {s : St} {a : Act} {w w' : World}
/-- as v_range; a round may return out of the function -/
theorem v_rangeR {α τ : Type} {fo : Operand} {ps : Array Tmp} {assign body : Code} {gf : Nat} {lb : Array Value} {encs : α → List Value} {xs : List α} {G : World → Prop} (hro : C.ro = none) (hn3 : C.n = 3)
    (hf : ev C (mk l m g gb dd) fo = some (.func (.func gf) #[] lb)) (hent : ∀ args w, (callFunc gf args).run C.P w = .ok (.enter gf args) w) (hit : Iter C.P gf lb encs xs G) (hG : ∀ W, g W → G W) (hps : ∀ x, (encs x).length = ps.size)
    (Mt : τ → List (Nat × Hp)) (Q : Nat → τ → Prop) (QR : τ → Prop) (t0 : τ) (h0 : Q 0 t0) (km : List Nat) (hm0 : sel km m = some (Mt t0))
    (round : ∀ k x t lp W1 Wa, xs[k]? = some x → Q k t → V ⟨C.P, W1, C.N, 2, some lp, Wa, True⟩ assign (fun e s1 => e = .normal ∧ s1.g = g ∧ s1.gb = gb ∧ s1.d = [] ∧
      ∀ W2 Wb, V ⟨C.P, W2, C.N, 2, some lp, Wb, True⟩ body (fun e s2 => (e = .normal ∧ ∃ t', Q (k + 1) t' ∧ Le s2 (mk [] (Mt t') g gb [])) ∨ (e = .ret ∧ ∃ t', QR t' ∧ Le s2 (mk [] (Mt t') g gb []))) s1) (mk (zipR ps.toList (encs x) l) (Mt t) g gb []))
    (next : ∀ t D, Q xs.length t → K .normal (mk l (Mt t) g gb (D :: dd))) (nextR : ∀ t D, QR t → K .ret (mk l (Mt t) g gb (D :: dd))) : V C (.rangeFunc fo ps assign body) K (mk l m g gb dd) := by
  intro a w hr
  have hF : C.F = Fence.wide := by unfold Cx.F; rw [hro]
  refine wpIn_rangeFunc ?_
  intro fn hfn
  rw [C.rnd, hro]
  obtain ⟨rec, hrec⟩ : ∃ rec : LoopState → Option Code → Loop, rec = fun st pe => { state := st, pending := pe, fn, tmps := a.tmps, params := ps, assign, body, defers := w.heap.size } := ⟨_, rfl⟩
  obtain ⟨W1, hW1⟩ : ∃ W1, (w.alloc (.deferred (some []))).alloc (.loop (rec .ready none)) = W1 := ⟨_, rfl⟩
  have hL1 : W1.heap[w.heap.size + 1]? = some (.loop (rec .ready none)) := by
    rw [← hW1]; have := World.alloc_heap_new (w.alloc (.deferred (some []))) (.loop (rec .ready none)); rwa [World.size_alloc] at this
  have hK1 : W1.heap[w.heap.size]? = some (.deferred (some [])) := by
    rw [← hW1]; exact (Below.heap_alloc _ _ _ (by simp)).trans (World.alloc_heap_new w _)
  have hb1 : Below w.heap.size w W1 := by
    rw [← hW1]; exact ((Below.refl _ w).alloc (Nat.le_refl _) _).alloc (by simp) _
  have hsz1 := hr.fr.size
  have hlp : C.w0.heap.size ≤ w.heap.size + 1 := by omega
  have hgbl : ¬ gb (w.heap.size + 1) := fun h => by have := (hr.gd _ h).1; omega
  have hddl : ∀ D ∈ dd, D < w.heap.size := fun D hD => (Array.getElem?_eq_some_iff.1 (hr.dd D hD)).1
  have hdl : w.heap.size + 1 ∉ w.heap.size :: dd := fun h => by
    rcases List.mem_cons.1 h with h | h
    · omega
    · have := hddl _ h; omega
  have hr1 : Rep C (mk l (Mt t0) g gb (w.heap.size :: dd)) { a with defers := mark w.heap.size :: a.defers } W1 := by
    have h1 := rep_le (rep_below hr hb1) (s' := mk l (Mt t0) g gb dd) ⟨fun _ _ h => h, sel_ok km _ hm0, rfl, rfl, rfl⟩
    refine ⟨?_, fun D hD => ?_, fun D hD => ?_, List.nodup_cons.2 ⟨fun h => by have := hddl _ h; omega, hr.dn⟩, h1.sz, h1.tm, h1.mo, h1.inj, h1.gh, h1.gd, h1.st, h1.fr, h1.ko⟩
    · show mark w.heap.size :: a.defers = mark w.heap.size :: List.map mark dd
      rw [hr.dfs]; rfl
    · rcases List.mem_cons.1 hD with h | h
      · subst h; exact hK1
      · exact h1.dd D h
    · rcases List.mem_cons.1 hD with h | h
      · subst h; exact ⟨hsz1, fun h => by have := (hr.gd _ h).1; omega⟩
      · exact h1.dg D h
  refine ⟨w.heap.size + 1, [mark w.heap.size], W1, { target := .fn (.func gf) lb, args := #[.func (.yield (w.heap.size + 1)) #[] #[]] }, W1, gf,
    #[.func (.yield (w.heap.size + 1)) #[] #[]] ++ lb, W1, ?_, ?_, ?_, ?_, fun _ => by omega, ?_⟩
  · rw [← hW1, hrec]; exact run_enterLoop_outer _ _ _ _ _
  · simp only [resolve, ev_ok hr hf]
    simp [go_sem]
  · intro f' _; exact C.all f'
  · simp [invoke, go_sem, hent]
  · have hJ : ∀ (k : Nat) (O : Nat → Prop) (W : World), (∃ t, Q k t ∧ Rep C (mk l (Mt t) g gb (w.heap.size :: dd)) { a with defers := mark w.heap.size :: a.defers } W ∧ W.heap[w.heap.size + 1]? = some (.loop (rec .ready none)) ∧ ∀ b, O b ↔ (b = w.heap.size + 1 ∨ ∃ j h, lk (Mt t) j = some h ∧ h.has b)) → True := fun _ _ _ _ => trivial
    clear hJ
    have main := hit (w.heap.size + 1) (fun k O W => ∃ t, Q k t ∧ Rep C (mk l (Mt t) g gb (w.heap.size :: dd)) { a with defers := mark w.heap.size :: a.defers } W ∧ W.heap[w.heap.size + 1]? = some (.loop (rec .ready none)) ∧ ∀ b, O b ↔ (b = w.heap.size + 1 ∨ ∃ j h, lk (Mt t) j = some h ∧ h.has b))
      (fun W => ∃ t, QR t ∧ Rep C (mk l (Mt t) g gb (w.heap.size :: dd)) { a with defers := mark w.heap.size :: a.defers } W ∧ W.heap[w.heap.size + 1]? = some (.loop { rec .ready none with state := .done, pending := some .ret })) (fun b => b = w.heap.size + 1 ∨ ∃ j h, lk (Mt t0) j = some h ∧ h.has b) W1
      (fun k O W W' ⟨t, h1, h2, h3, h4⟩ hc => ⟨t, h1, rep_chg h2 (fun _ => False) hc (fun _ h => h.elim) _ (fun _ _ h => .inl ⟨h, fun _ _ h => h⟩) h2.inj, (hc.block _ (Array.getElem?_eq_some_iff.1 h3).1 (fun h => h)).trans h3, h4⟩)
      (fun W W' ⟨t, h1, h2, h3⟩ hc => ⟨t, h1, rep_chg h2 (fun _ => False) hc (fun _ h => h.elim) _ (fun _ _ h => .inl ⟨h, fun _ _ h => h⟩) h2.inj, (hc.block _ (Array.getElem?_eq_some_iff.1 h3).1 (fun h => h)).trans h3⟩)
      (fun k O W ⟨t, h1, h2, h3, h4⟩ => ⟨hG W h2.gh, fun b hb => by
        rcases (h4 b).1 hb with h | ⟨j, h, hj, hb⟩
        · subst h; exact (Array.getElem?_eq_some_iff.1 h3).1
        · exact Hp.lt (h2.mo j h hj).1 hb⟩)
      ?_ ⟨t0, h0, hr1, hL1, fun _ => Iff.rfl⟩
    · rw [hF, hn3]
      refine callsIn_wide.2 (main.mono ?_)
      rintro e W2 ⟨⟨v, rfl⟩, ⟨O', t, hQ, hrep, hl, _⟩ | ⟨t, hQ, hrep, hl⟩⟩
      · refine ⟨none, _, by have := run_endLoop (P := C.P) hl (by rw [hrec]; simp); rw [hrec] at this; exact this, ⟨_, rep_obj hrep _ hl rfl hlp hgbl hdl, next t _ hQ⟩⟩
      · refine ⟨some .ret, _, by have := run_endLoop (P := C.P) hl (by rw [hrec]; simp); rw [hrec] at this; exact this, ?_⟩
        have hv := v_ret (C := C) (K := K) (nextR t w.heap.size hQ) _ _ (rep_obj hrep (.loop { rec .ready none with state := .exhausted, pending := some .ret }) hl rfl hlp hgbl hdl)
        rw [hF, hn3] at hv
        rw [hrec] at hv
        exact hv
    · -- ONE ROUND
      rintro k x O W hx ⟨t, hQ, hrep, hl, hO⟩
      have hlt := (Array.getElem?_eq_some_iff.1 hl).1
      have hy := run_yield (P := C.P) (args := (encs x).toArray) hl (by rw [hrec]; simpa using hps x)
      rw [hrec] at hy
      refine ⟨fn, _, assign, body, hy, roundIn_of_wpIn (F := Fence.wide) (n := 2) (by trivial) ?_⟩
      clear hy
      have hz := rep_zip (C := ⟨C.P, W, C.N, 2, some (w.heap.size + 1), fun b => ∃ j h, lk (Mt t) j = some h ∧ h.has b, True⟩) ps.toList (encs x) l a.tmps [] (rep_cx hrep 2 (some (w.heap.size + 1)) _ (fun j h b hj hb => ⟨j, h, hj, hb⟩))
      have hOt : ∀ b, (∃ j h, lk (Mt t) j = some h ∧ h.has b) → C.own b := fun b ⟨j, h, hj, hb⟩ => (hrep.mo j h hj).2 b hb
      have hszW := hrep.fr.size
      have htm : (ps.zip (encs x).toArray).foldl (fun t (p : Nat × Value) => t.setIfInBounds p.1 p.2) a.tmps = (ps.toList.zip (encs x)).foldl (fun t p => t.setIfInBounds p.1 p.2) a.tmps := by
        rw [← Array.foldl_toList, Array.toList_zip]
      have h1 := round k x t (w.heap.size + 1) W _ hx hQ _ W hz
      refine wpIn_mono (a := { tmps := (ps.zip (encs x).toArray).foldl (fun t (p : Nat × Value) => t.setIfInBounds p.1 p.2) a.tmps, defers := [] }) (by rw [htm]; exact h1) ?_
      rintro e a1 w1 ⟨s1, hr1', rfl, hsg, hsgb, hsd, hbody⟩
      -- behind the assignment: the record is taken up
      have hl1 : w1.heap[w.heap.size + 1]? = some (.loop (rec .ready none)) := (hr1'.ko trivial).same _ _ hl rfl
      refine ⟨_, run_beginRound hl1 (by rw [hrec]), ?_⟩
      have ho1 := rep_back hrep hr1' hOt hsg hsgb [] (fun _ _ h => by cases h)
      have ho2 := rep_obj ho1 (.loop { rec .ready none with state := .busy }) hl1 rfl hlp hgbl hdl
      have hl2 : (w1.putObj (w.heap.size + 1) (.loop { rec .ready none with state := .busy })).heap[w.heap.size + 1]? = some (.loop { rec .ready none with state := .busy }) := World.putObj_heap_same (Array.getElem?_eq_some_iff.1 hl1).1
      generalize hW2 : w1.putObj (w.heap.size + 1) (.loop { rec .ready none with state := .busy }) = W2 at ho2 hl2 ⊢
      have hr2 : Rep ⟨C.P, W2, C.N, 2, some (w.heap.size + 1), fun b => W.heap.size ≤ b ∨ ∃ j h, lk (Mt t) j = some h ∧ h.has b, True⟩ s1 a1 W2 := by
        have h2 := rep_obj2 hr1' (.loop { rec .ready none with state := .busy }) hl1 rfl (by rw [hsgb]; exact hgbl) hsd (fun b => W.heap.size ≤ b ∨ ∃ j h, lk (Mt t) j = some h ∧ h.has b) (fun b hb => hb)
        rw [hW2] at h2
        exact h2
      have hcw2 : Chg (fun b => b = w.heap.size + 1) w1 W2 := by
        rw [← hW2]; exact ⟨rfl, rfl, rfl, by simp, fun k _ hn => World.putObj_heap_other hn⟩
      have hWb : ∀ b, (W.heap.size ≤ b ∨ ∃ j h, lk (Mt t) j = some h ∧ h.has b) → C.own b := fun b hb => by
        rcases hb with h | h
        · exact .inl (Nat.le_trans hszW h)
        · exact hOt b h
      refine wpIn_mono (hbody W2 _ a1 W2 hr2) ?_
      rintro e a3 w3 ⟨s3, hr3, ⟨rfl, t', hQ', hle⟩ | ⟨rfl, t', hQ', hle⟩⟩
      · have hl3 : w3.heap[w.heap.size + 1]? = some (.loop { rec .ready none with state := .busy }) := (hr3.ko trivial).same _ _ hl2 rfl
        have ho3 := rep_back ho2 hr3 hWb hle.g.symm hle.gb.symm (Mt t') hle.m
        have ho4 := rep_obj ho3 (.loop (rec .ready none)) hl3 rfl hlp hgbl hdl
        have hend := run_endRound (P := C.P) none hl3
        rw [hrec] at hend
        refine ⟨_, _, hend, .inl ⟨rfl, ?_, _, ⟨t', hQ', by rw [hrec] at ho4; exact ho4, by rw [hrec]; exact World.putObj_heap_same (Array.getElem?_eq_some_iff.1 hl3).1, fun _ => Iff.rfl⟩, fun b hb => ?_⟩⟩
        · refine Chg.trans (b := w1) (hr1'.fr.mono fun k _ h => (hO k).2 (.inr h)) (Chg.trans (b := W2) (hcw2.mono fun k _ h => .inl ((hO k).2 (.inl h))) (Chg.trans (b := w3) (hr3.fr.mono fun k _ h => ?_) ?_))
          · rcases h with h | h
            · exact .inl (.inr h)
            · exact .inl (.inl ((hO k).2 (.inr h)))
          · refine Chg.mono (S := fun b => b = w.heap.size + 1) ⟨rfl, rfl, rfl, by simp, fun k _ hn => World.putObj_heap_other hn⟩ fun k _ h => .inl (.inl (.inl ((hO k).2 (.inl h))))
        · rcases hb with h | ⟨j, h, hj, hb⟩
          · exact .inl ((hO b).2 (.inl h))
          · rcases (hr3.mo j h (hle.m j h hj)).2 b hb with h' | h' | h'
            · right
              have h1s : W.heap.size ≤ w1.heap.size := hr1'.fr.size
              have h2s : w1.heap.size ≤ W2.heap.size := hcw2.size
              have h3s : W2.heap.size ≤ b := h'
              omega
            · exact .inr h'
            · exact .inl ((hO b).2 (.inr h'))
      · have hl3 : w3.heap[w.heap.size + 1]? = some (.loop { rec .ready none with state := .busy }) := (hr3.ko trivial).same _ _ hl2 rfl
        have ho3 := rep_back ho2 hr3 hWb hle.g.symm hle.gb.symm (Mt t') hle.m
        have ho4 := rep_obj ho3 (.loop { rec .ready none with state := .done, pending := some .ret }) hl3 rfl hlp hgbl hdl
        have hend := run_endRound (P := C.P) (some .ret) hl3
        rw [hrec] at hend
        refine ⟨_, _, hend, .inr ⟨rfl, ?_, ⟨t', hQ', by rw [hrec] at ho4; exact ho4, by rw [hrec]; exact World.putObj_heap_same (Array.getElem?_eq_some_iff.1 hl3).1⟩⟩⟩
        · refine Chg.trans (b := w1) (hr1'.fr.mono fun k _ h => (hO k).2 (.inr h)) (Chg.trans (b := W2) (hcw2.mono fun k _ h => .inl ((hO k).2 (.inl h))) (Chg.trans (b := w3) (hr3.fr.mono fun k _ h => ?_) ?_))
          · rcases h with h | h
            · exact .inl (.inr h)
            · exact .inl (.inl ((hO k).2 (.inr h)))
          · refine Chg.mono (S := fun b => b = w.heap.size + 1) ⟨rfl, rfl, rfl, by simp, fun k _ hn => World.putObj_heap_other hn⟩ fun k _ h => .inl (.inl (.inl ((hO k).2 (.inl h))))

end Go.Proofs.Ytpgjbalnipinoaa

/- An append to a row that is not ours and is full. Conditions: none. -/
namespace Go.Proofs.Ytpgjbalnipinoaa
open Go.Proofs Go.RowKit Go
variable {C : Cx} {K : Exit → St → Prop} {ops : Array Oper} {rest : List Oper} {l l' : List (Nat × Value)} {m m' : List (Nat × Hp)} {g : World → Prop} {gb : Nat → Prop} {dd : List Nat}
  {i : Nat} {ty : TypeId} {pos : String} {aft : Array Edge} {gd : Option (Nat × Bool)} {ks : List Nat} {E : TypeId} {v u : Value} {n esz : Nat} {xs : List Value}
theorem append_full {P : Program} {w : World} {ts by_ mm : Nat} {zv : Value} {ys : List Value} [ht : TSl P ts E esz] [he : TElem P E zv esz by_] (hrv : RowAt w v esz n xs) (hv : RowV v n) (hfull : ∀ a n' c, v = .slice a n' c → c = n') (hu : RowV u mm) (hm : 0 < mm) (hrw : RowAt w u esz mm ys) (hlen : n + mm ≤ 1099511627776) (hby : Nat.ble by_ 128 = true) :
    ∃ v' w', (Builtin.append_ #[ts, ts] ty #[v, u]).run P w = .ok v' w' ∧ Below w.heap.size w w' ∧ OwnAt w.heap.size w' v' E esz (n + mm) (xs ++ ys) := by
  obtain ⟨ie, hi, hz, hsz, hb⟩ := he.h
  have hby' : by_ ≤ 128 := Nat.le_of_ble_eq_true hby
  have hbytes : (n + mm) * by_ ≤ 140737488355328 := Nat.le_trans (Nat.mul_le_mul hlen hby') (by decide)
  have hmax : n + mm ≤ maxLen := by unfold maxLen; omega
  have hzs := he.hz
  subst hsz hb
  obtain ⟨ub, uo, uc, rfl⟩ : ∃ b o c, u = .slice (some ⟨b, o, none⟩) mm c := by
    rcases hu with h | ⟨_, h⟩ | ⟨_, _, _, h⟩
    · exact h
    · omega
    · omega
  have hnews : ∀ j u, ys[j]? = some u → w.cell? ((⟨ub, uo, none⟩ : Addr).add j) = some u := fun j u hu => by rw [addAt]; exact hrw.at_ j u hu
  have hll : (xs ++ ys).length = (n + mm) * ie.size := by rw [List.length_append, hrv.len, hrw.len, Nat.add_mul]
  have hone : ∀ u' ∈ xs ++ ys, u'.oneCell' = true := fun u' hu' => by
    rcases List.mem_append.1 hu' with h | h
    · exact hrv.one u' h
    · exact hrw.one u' h
  have grown : ∀ (old : Nat), old < n + mm →
      Below w.heap.size w (w.drew.alloc (.cells (xs.toArray ++ ys.toArray ++ Builtin.zeroCells zv.cells (grownCap w (n + mm) old E - (n + mm))) E)) ∧
      OwnAt w.heap.size (w.drew.alloc (.cells (xs.toArray ++ ys.toArray ++ Builtin.zeroCells zv.cells (grownCap w (n + mm) old E - (n + mm))) E)) (.slice (some ⟨w.heap.size, 0, none⟩) (n + mm) (grownCap w (n + mm) old E)) E ie.size (n + mm) (xs ++ ys) := by
    intro old ho
    have hge := grownCap_ge w (n + mm) old E
    have hcm : grownCap w (n + mm) old E ≤ maxLen := grownCap_le_maxLen w (n + mm) old E hmax
    refine ⟨⟨rfl, rfl, rfl, by simp, fun k hk => by unfold World.alloc; simp only [Array.getElem?_push]; rw [if_neg (show ¬ k = w.drew.heap.size from Nat.ne_of_lt hk)]; rfl⟩, ⟨⟨⟨hll, .inr ⟨w.heap.size, _, _, rfl, Nat.zero_le _, World.alloc_heap_new w.drew _, hge, hcm, ?_, ?_⟩⟩, hone⟩, fun b hb => ?_⟩⟩
    · simp only [Array.size_append, List.size_toArray, Go.size_zeroCells, hzs, hrv.len, hrw.len, ← Nat.add_mul]
      congr 1
      omega
    · simp only [Array.toList_append, List.append_assoc]
      rw [← List.append_assoc, ← hll]
      exact List.take_left
    · simp [Value.ownBlock] at hb; omega
  have hsmall : ((n + mm : Nat) : Int) ≤ 9223372036854775807 := by unfold maxLen at hmax; omega
  have main : ∀ (b : Addr), v = .slice (some b) n n → (∀ j u, xs[j]? = some u → w.cell? (b.add j) = some u) → ∃ v' w', (Builtin.append_ #[ts, ts] ty #[v, .slice (some ⟨ub, uo, none⟩) mm uc]).run P w = .ok v' w' ∧ Below w.heap.size w w' ∧ OwnAt w.heap.size w' v' E ie.size (n + mm) (xs ++ ys) := fun b e hb => by
    subst e
    have hr := run_append_grow (P := P) w ts ty E ie zv ht.h hi hz b n n xs hrv.len hb ⟨ub, uo, none⟩ mm uc ys hrw.len hnews (by omega) hsmall (growslice_fits (by omega) hbytes)
    exact ⟨_, _, hr, (grown n (by omega)).1, (grown n (by omega)).2⟩
  rcases hv with ⟨b, o, c, rfl⟩ | ⟨rfl, rfl⟩ | ⟨a, c, rfl, rfl⟩
  · obtain rfl := hfull _ _ _ rfl
    exact main _ rfl fun j u hu => by rw [addAt]; exact hrv.at_ j u hu
  · have hx : xs = [] := List.eq_nil_of_length_eq_zero (by simpa using hrv.len)
    subst hx
    have hr := run_append_nil (P := P) w ts ty E ie zv ht.h hi hz ⟨ub, uo, none⟩ mm uc ys hrw.len hnews hm (by simpa using hsmall) (by have hb := hbytes; simp only [Nat.zero_add] at hb; omega)
    have hgr := grown 0 (by omega)
    simp only [Nat.zero_add, List.nil_append, Array.empty_append] at hgr ⊢
    exact ⟨_, _, hr, hgr.1, hgr.2⟩
  · obtain rfl := hfull _ _ _ rfl
    have hx : xs = [] := List.eq_nil_of_length_eq_zero (by simpa using hrv.len)
    subst hx
    exact main a rfl fun j u hu => by simp at hu
/-- append to a row that is not ours and is full -/
theorem l_appendF {ts by_ mm : Nat} {zv : Value} {ys : List Value} {X Y : Operand} {ks2 : List Nat} [ht : TSl C.P ts E esz] [he : TElem C.P E zv esz by_] (hw : wantS C (mk l m g gb dd) ops ⟨some i, .call { callee := .builtin .append, args := #[X, Y], argTypes := #[ts, ts] }, ty, pos, aft, gd⟩ = some true)
    (h : ev C (mk l m g gb dd) X = some v) (h2 : ev C (mk l m g gb dd) Y = some u) (hrv : RowIn (mk l m g gb dd) ks2 v esz n xs) (hv : RowV v n) (hfull : ∀ a n' c, v = .slice a n' c → c = n') (hu : RowV u mm) (hm : 0 < mm) (hrow : RowIn (mk l m g gb dd) ks u esz mm ys) (hlen : n + mm ≤ 1099511627776) (hby : Nat.ble by_ 128 = true)
    (next : ∀ v', RowV v' (n + mm) → VL C ops rest K (mk ((i, v') :: l) ((i, .own v' E esz (n + mm) (xs ++ ys)) :: m) g gb dd)) : VL C ops (⟨some i, .call { callee := .builtin .append, args := #[X, Y], argTypes := #[ts, ts] }, ty, pos, aft, gd⟩ :: rest) K (mk l m g gb dd) :=
  vl_step hw fun a w hr => by
    have hX : a.eval X = v := ev_ok hr h
    have hY : a.eval Y = u := ev_ok hr h2
    obtain ⟨v', w', h3, h4, h5⟩ := append_full (P := C.P) (ts := ts) (ty := ty) (hrv w hr.gh (held_of hr ks2)) hv hfull hu hm (hrow w hr.gh (held_of hr ks)) hlen hby
    refine wpIn_value (y := v') (w' := w') (by simp) (by simp [execOp, resolve, invoke, builtin, hX, hY, h3, Sem.run_bind, Result.andThen]) ⟨mk ((i, v') :: l) ((i, .own v' E esz (n + mm) (xs ++ ys)) :: m) g gb dd, ?_, next v' h5.rowV⟩
    rw [← mk_put]
    exact rep_put (rep_newOwn hr h4 h5.1 (fun b hb => h5.2 b hb) i) (some i) v'
end Go.Proofs.Ytpgjbalnipinoaa

/- Arrays; calls in a region that draws, of whose answers something is known. Conditions: none. -/
namespace Go.Proofs.Ytpgjbalnipinoaa
open Go.Proofs Go.RowKit Go
variable {C : Cx} {K : Exit → St → Prop} {ops : Array Oper} {rest : List Oper} {l l' : List (Nat × Value)} {m m' : List (Nat × Hp)} {g : World → Prop} {gb : Nat → Prop} {dd : List Nat}
  {i : Nat} {d : Option Nat} {op : Op} {ty : TypeId} {pos : String} {aft : Array Edge} {gd : Option (Nat × Bool)} {ks : List Nat} {y : Value} {T T' E : TypeId} {s : St} {x z : Operand} {v u : Value} {n esz j : Nat} {xs : List Value}

/-! ### arrays -/
class TArr (P : Program) (T : Nat) (e n : outParam Nat) (mm : outParam Nat) (zs : outParam (List Value)) : Prop where
  u : P.underlying T = some (.array mm e)
  sz : ∀ w, (sizeOf e).run P w = .ok n w
  many : 1 < mm
  h : ∀ ps, P.built T ps = Instr.fill (fun i => some (i * n, n)) zs.toArray ps
theorem TArr.of {P : Program} {T e n mm : Nat} {zs : List Value} (h : P.underlying T = some (.array mm e)) (h2 : (P.info? e).map (·.size) = some n) (h3 : ((P.info? T).bind (·.zero)).map (·.cells) = some zs.toArray) (h4 : Nat.blt 1 mm = true) : TArr P T e n mm zs := by
  cases hq : P.info? e with
  | none => rw [hq] at h2; cases h2
  | some ie =>
    rw [hq] at h2; simp at h2
    refine ⟨h, fun w => by simp [sizeOf, typeInfo, hq, h2], by simpa [Nat.blt_eq] using h4, fun ps => ?_⟩
    unfold Program.built
    cases hi : P.info? T with
    | none => rw [hi] at h3; simp at h3
    | some it =>
      rw [hi] at h3
      simp only [Option.bind_some, Option.map_eq_some_iff] at h3
      obtain ⟨zv, hz, hc⟩ := h3
      simp only [h, hz, hq, hc, h2]
theorem o_idxA {k : IntKind} {a : Int} {bl mm : Nat} {zs : List Value} (j : Nat) [ht : TArr C.P T E n mm zs] (h : ev C s x = some (.pointer (some ⟨bl, 0, none⟩))) (h2 : ev C s z = some (.int k a)) (hj : a = ((j : Nat) : Int)) (hlt : j < mm) :
    OpV C s ⟨d, .indexAddr T x z, ty, pos, aft, gd⟩ [] (.pointer (some ⟨bl, j * n, none⟩)) := opv _ _ (by simp) fun ρ w hr => by
  have hx := rd1 hr (x := x) (by simp [Op.operands]) h
  have hz := rd1 hr (x := z) (by simp [Op.operands]) h2
  subst hj
  have h1 : (j : Int) < mm := by omega
  have h3 := ht.many
  simp [execOp, hx, hz, Instr.indexAt, Instr.sureAddr, asIntOf, Sem.run_bind, run_underlying ht.u, hlt, ht.sz, Result.andThen, addAt, show ¬ mm ≤ 1 by omega]
theorem o_buildA {zs : List Value} {mm : Nat} [ht : TArr C.P T E n mm zs] {ps : Array (Nat × Operand)} {vs cs : List Value} (h : evs C s (ps.toList.map (·.2)) = some vs)
    (hr' : fillL ((List.range mm).map fun i => (i * n, n)) zs ((ps.toList.map (·.1)).zip vs) = some cs) : OpV C s ⟨d, .build T ps, ty, pos, aft, gd⟩ [] (.agg cs.toArray) := opv _ _ (by simp) fun ρ w hr => by
  have h1 := evs_ok (C := C) (s := s) (ρ := ρ) (ps.toList.map (·.2)) vs (fun x hx v hv => rd1 hr (x := x) (by simpa [Op.operands] using hx) hv) h
  have hps : (ps.map fun p => (p.1, ρ p.2)).toList = (ps.toList.map (·.1)).zip vs := by
    rw [Array.toList_map, ← h1, List.map_map, List.zip_map']
    rfl
  have hfill := (fillL_ok' (place := fun i => some (i * n, n)) ((List.range mm).map fun i => (i * n, n)) (fun i p hp => by
    rw [List.getElem?_map] at hp
    cases hq : (List.range mm)[i]? with
    | none => rw [hq] at hp; cases hp
    | some q =>
      have hi := List.getElem?_eq_some_iff.1 hq
      obtain ⟨hi1, hi2⟩ := hi
      simp at hi2
      subst hi2
      rw [hq] at hp; exact hp) _ zs cs hr').1
  have hb := run_build (P := C.P) w T (ps.map fun p => (p.1, ρ p.2)) cs.toArray (by rw [hps, ht.h]; exact hfill)
  simp [execOp, hb, Sem.run_bind, Result.andThen]

/-! ### answers of which something is known, in a region that draws -/
abbrev WfP := {p : Value → Prop // ∃ v, p v}
def predWf (l : List (Nat × WfP)) : Nat → Value → Prop := fun d v => match lk l d with | some p => p.1 v | none => True
theorem predPr (l : List (Nat × WfP)) : ∃ _ : Pr (predWf l), True := by
  have h : ∀ d, ∃ v, predWf l d v := fun d => by
    unfold predWf
    cases lk l d with
    | none => exact ⟨undef, trivial⟩
    | some p => exact p.2
  exact ⟨⟨fun _ => 0, fun d => Classical.choose (h d), fun d => Classical.choose_spec (h d)⟩, trivial⟩
def rowP (n : Nat) : WfP := ⟨fun v => RowV v n, ⟨_, .inl ⟨0, 0, n, rfl⟩⟩⟩
theorem v_drawP {id : Nat} {os : List Oper} (rl : List (Nat × WfP)) (κs : List (List Nat)) (hm : C.P.follows .mixedOrders = true) (h : VDZ C os.toArray os κs K (fun _ : Pr (predWf rl) => mk l m g gb dd)) (hle : (os.take κs.length).length = κs.length) (hok : drawOk os ((os.take κs.length).zip κs) = true) : V C (.region id os.toArray true) K (mk l m g gb dd) :=
  (predPr rl).elim fun σ0 _ => v_draw σ0 κs hm hle hok h.vd
variable {wf : Nat → Value → Prop} {L : Pr wf → List (Nat × Value)} {M : Pr wf → List (Nat × Hp)} {os : List Oper} {κs : List (List Nat)} {κ : List Nat} {f : Nat} {cal : Operand} {as_ : Array Operand} {ts : Array TypeId}
/-- a call that answers F of a row that it has made -/
theorem d_gownF (F : Value → Value) (hw : ∀ σ, wantS C (mk (L σ) (M σ) g gb dd) ops ⟨some i, .call { callee := .value cal, args := as_, argTypes := ts }, ty, pos, aft, gd⟩ = some true) {caps : Array Value} (hcal : ∀ σ, ev C (mk (L σ) (M σ) g gb dd) cal = some (.func (.func f) #[] caps)) (hent : ∀ args w, (callFunc f args).run C.P w = .ok (.enter f args) w)
    {vs : Pr wf → List Value} (hargs : ∀ σ, evs C (mk (L σ) (M σ) g gb dd) as_.toList = some (vs σ)) (hwf : ∀ y, RowV y n → wf i y)
    (hc : ∀ σ w, g w → Held (mk (L σ) (M σ) g gb dd) κ w → Calls C.P f ((vs σ).toArray ++ caps) w fun e w' => ∃ y, e = .returned (F y) ∧ Below w.heap.size w w' ∧ OwnAt w.heap.size w' y E esz n xs)
    (next : VDZ C ops os κs K (fun σ => mk ((i, F (σ.v i)) :: L σ) ((i, .own (σ.v i) E esz n xs) :: M σ) g gb dd)) : VDZ C ops (⟨some i, .call { callee := .value cal, args := as_, argTypes := ts }, ty, pos, aft, gd⟩ :: os) (κ :: κs) K (fun σ => mk (L σ) (M σ) g gb dd) :=
  d_cons (.inl ⟨hw, .own i (fun y => RowV y n) F (fun y => .own y E esz n xs) rfl rfl hwf fun σ => ⟨by simp, fun ρ w hr hg hh => ⟨f, _, by rw [run_callTo (rd1 hr callee_mem (hcal σ)) (args_of hr (hargs σ))]; exact hent _ w, (hc σ w hg hh).mono fun e w' ⟨y, h1, h2, h3⟩ => ⟨y, h1, h3.rowV, h2, h3.1, h3.2⟩⟩⟩⟩)
    (by simp only [appP, appS, mk_mem, mk_put]; exact next)
def fstV (v : Value) : Value := match v with | .tuple a => a.getD 0 undef | v => v
def sndV (v : Value) : Value := match v with | .tuple a => a.getD 1 undef | v => v
/-- a call that answers a row, and has made a second one beside it -/
theorem d_two {E' : TypeId} {esz' n' : Nat} (Ps : Value → Value → Prop) (xs : Value → List Value) {xs' : List Value} (hw : ∀ σ, wantS C (mk (L σ) (M σ) g gb dd) ops ⟨some i, .call { callee := .value cal, args := as_, argTypes := ts }, ty, pos, aft, gd⟩ = some true) {caps : Array Value} (hcal : ∀ σ, ev C (mk (L σ) (M σ) g gb dd) cal = some (.func (.func f) #[] caps)) (hent : ∀ args w, (callFunc f args).run C.P w = .ok (.enter f args) w)
    {vs : Pr wf → List Value} (hargs : ∀ σ, evs C (mk (L σ) (M σ) g gb dd) as_.toList = some (vs σ)) (hwf : ∀ y u, Ps y u → wf i (.tuple #[y, u]))
    (hc : ∀ σ w, g w → Held (mk (L σ) (M σ) g gb dd) κ w → Calls C.P f ((vs σ).toArray ++ caps) w fun e w' => ∃ y u, e = .returned y ∧ Ps y u ∧ Below w.heap.size w w' ∧ ((Hp.own y E esz n (xs u)).ok w' ∧ (Hp.own u E' esz' n' xs').ok w') ∧ ∀ b, (y.ownBlock = some b ∨ u.ownBlock = some b) → w.heap.size ≤ b)
    (next : VDZ C ops os κs K (fun σ => mk ((i, fstV (σ.v i)) :: L σ) ((i, .two (fstV (σ.v i)) E esz n (xs (sndV (σ.v i))) (sndV (σ.v i)) E' esz' n' xs') :: M σ) g gb dd)) : VDZ C ops (⟨some i, .call { callee := .value cal, args := as_, argTypes := ts }, ty, pos, aft, gd⟩ :: os) (κ :: κs) K (fun σ => mk (L σ) (M σ) g gb dd) :=
  d_cons (.inl ⟨hw, .own i (fun v => ∃ y u, v = .tuple #[y, u] ∧ Ps y u) fstV (fun v => .two (fstV v) E esz n (xs (sndV v)) (sndV v) E' esz' n' xs') rfl rfl (fun v ⟨y, u, e, h⟩ => e ▸ hwf y u h) fun σ => ⟨by simp, fun ρ w hr hg hh => ⟨f, _, by rw [run_callTo (rd1 hr callee_mem (hcal σ)) (args_of hr (hargs σ))]; exact hent _ w, (hc σ w hg hh).mono fun e w' ⟨y, u, h1, h2, h3, h4, h5⟩ => ⟨.tuple #[y, u], h1, ⟨y, u, rfl, h2⟩, h3, h4, h5⟩⟩⟩⟩)
    (by simp only [appP, appS, mk_mem, mk_put]; exact next)
end Go.Proofs.Ytpgjbalnipinoaa

/- Iterators that range over other iterators, and hand on what these hand on. Conditions: none. -/
namespace Go.Proofs.Ytpgjbalnipinoaa
open Go.Proofs Go.RowKit Go
variable {C : Cx} {K : Exit → St → Prop} {ops : Array Oper} {rest : List Oper} {l l' : List (Nat × Value)} {m m' : List (Nat × Hp)} {g : World → Prop} {gb : Nat → Prop} {dd : List Nat}
  {i : Nat} {d : Option Nat} {op : Op} {ty : TypeId} {pos : String} {aft : Array Edge} {gd : Option (Nat × Bool)} {s : St} {a : Act} {w w' : World}

/-- an iterator, as 'Iter'; what the rounds hold bears changes in blocks that the iterator has made -/
def Iter2 (P : Program) (gf : Nat) (lb : Array Value) {α : Type} (encs : α → List Value) (xs : List α) (G : World → Prop) : Prop :=
  ∀ (lp : Nat) (J : Nat → (Nat → Prop) → World → Prop) (Jx : (Nat → Prop) → World → Prop) (O : Nat → Prop) (W : World),
    (∀ k O W1 W', J k O W1 → Chg (fun b => W.heap.size ≤ b ∧ ¬ O b) W1 W' → J k O W') → (∀ O W1 W', Jx O W1 → Chg (fun b => W.heap.size ≤ b ∧ ¬ O b) W1 W' → Jx O W') →
    (∀ k O W, J k O W → G W ∧ ∀ b, O b → b < W.heap.size) →
    (∀ k x O W1, xs[k]? = some x → J k O W1 → YieldAt Fence.wide 2 P lp (encs x).toArray W1 fun e W' =>
      (e = .returned (.bool true) ∧ Chg O W1 W' ∧ ∃ O', J (k + 1) O' W' ∧ ∀ b, O' b → O b ∨ W1.heap.size ≤ b) ∨ (e = .returned (.bool false) ∧ Chg O W1 W' ∧ ∃ O', Jx O' W' ∧ ∀ b, O' b → O b ∨ W1.heap.size ≤ b)) →
    J 0 O W → Calls P gf (#[.func (.yield lp) #[] #[]] ++ lb) W fun e W' => (∃ v, e = .returned v) ∧ ((∃ O', J xs.length O' W') ∨ ∃ O', Jx O' W')

theorem rep_far (hr : Rep C s a w) (S : Nat → Prop) (hc : Chg S w w') (hm : ∀ k h b, s.m k = some h → h.has b → ¬ S b) (hg : ∀ b, s.gb b → ¬ S b) (hd : ∀ D ∈ s.d, ¬ S D) (h0 : ∀ b, S b → C.w0.heap.size ≤ b) : Rep C s a w' := by
  refine ⟨hr.dfs, fun D hD => (hc.block D (Array.getElem?_eq_some_iff.1 (hr.dd D hD)).1 (hd D hD)).trans (hr.dd D hD), hr.dg, hr.dn, hr.sz, hr.tm, fun k h hk => ⟨Hp.keep (hr.mo k h hk).1 fun b hb => hc.block b (Hp.lt (hr.mo k h hk).1 hb) (hm k h b hk hb), (hr.mo k h hk).2⟩, hr.inj,
    hr.st w w' (hc.mono fun k _ hs hgb => hg k hgb hs) hr.gh, fun b hb => ⟨Nat.lt_of_lt_of_le (hr.gd b hb).1 hc.size, (hr.gd b hb).2⟩, hr.st, hr.fr.trans (hc.mono fun k _ hs => .inr (h0 k hs)), fun hp => ?_⟩
  have hk := hr.ko hp
  refine ⟨Nat.le_trans hk.size hc.size, fun k o hko ho => ?_⟩
  have hlt := (Array.getElem?_eq_some_iff.1 hko).1
  exact (hc.block k (Nat.lt_of_lt_of_le hlt hk.size) fun hs => by have := h0 k hs; omega).trans (hk.same k o hko ho)
theorem Chg.putObj (w : World) (r : Nat) (o : Obj) : Chg (fun b => b = r) w (w.putObj r o) := ⟨rfl, rfl, rfl, by simp, fun _ _ hn => World.putObj_heap_other hn⟩

/-- as v_range -/
theorem v_range2 {α τ : Type} {fo : Operand} {ps : Array Tmp} {assign body : Code} {gf : Nat} {lb : Array Value} {encs : α → List Value} {xs : List α} {G : World → Prop} (hro : C.ro = none) (hn3 : C.n = 3)
    (hf : ev C (mk l m g gb dd) fo = some (.func (.func gf) #[] lb)) (hent : ∀ args w, (callFunc gf args).run C.P w = .ok (.enter gf args) w) (hit : Iter2 C.P gf lb encs xs G) (hG : ∀ W, g W → G W) (hps : ∀ x, (encs x).length = ps.size)
    (Mt : τ → List (Nat × Hp)) (Q : Nat → τ → Prop) (t0 : τ) (h0 : Q 0 t0) (km : List Nat) (hm0 : sel km m = some (Mt t0))
    (round : ∀ k x t lp W1 Wa, xs[k]? = some x → Q k t → V ⟨C.P, W1, C.N, 2, some lp, Wa, True⟩ assign (fun e s1 => e = .normal ∧ s1.g = g ∧ s1.gb = gb ∧ s1.d = [] ∧
      ∀ W2 Wb, V ⟨C.P, W2, C.N, 2, some lp, Wb, True⟩ body (fun e s2 => e = .normal ∧ ∃ t', Q (k + 1) t' ∧ Le s2 (mk [] (Mt t') g gb [])) s1) (mk (zipR ps.toList (encs x) l) (Mt t) g gb []))
    (next : ∀ t D, Q xs.length t → K .normal (mk l (Mt t) g gb (D :: dd))) : V C (.rangeFunc fo ps assign body) K (mk l m g gb dd) := by
  intro a w hr
  have hF : C.F = Fence.wide := by unfold Cx.F; rw [hro]
  refine wpIn_rangeFunc ?_
  intro fn hfn
  rw [C.rnd, hro]
  obtain ⟨rec, hrec⟩ : ∃ rec : LoopState → Option Code → Loop, rec = fun st pe => { state := st, pending := pe, fn, tmps := a.tmps, params := ps, assign, body, defers := w.heap.size } := ⟨_, rfl⟩
  obtain ⟨W1, hW1⟩ : ∃ W1, (w.alloc (.deferred (some []))).alloc (.loop (rec .ready none)) = W1 := ⟨_, rfl⟩
  have hL1 : W1.heap[w.heap.size + 1]? = some (.loop (rec .ready none)) := by
    rw [← hW1]; have := World.alloc_heap_new (w.alloc (.deferred (some []))) (.loop (rec .ready none)); rwa [World.size_alloc] at this
  have hK1 : W1.heap[w.heap.size]? = some (.deferred (some [])) := by
    rw [← hW1]; exact (Below.heap_alloc _ _ _ (by simp)).trans (World.alloc_heap_new w _)
  have hb1 : Below w.heap.size w W1 := by
    rw [← hW1]; exact ((Below.refl _ w).alloc (Nat.le_refl _) _).alloc (by simp) _
  have hs1 : W1.heap.size = w.heap.size + 2 := by rw [← hW1]; simp
  have hsz1 := hr.fr.size
  have hlp : C.w0.heap.size ≤ w.heap.size + 1 := by omega
  have hgbl : ¬ gb (w.heap.size + 1) := fun h => by have := (hr.gd _ h).1; omega
  have hddl : ∀ D ∈ dd, D < w.heap.size := fun D hD => (Array.getElem?_eq_some_iff.1 (hr.dd D hD)).1
  have hdl : w.heap.size + 1 ∉ w.heap.size :: dd := fun h => by
    rcases List.mem_cons.1 h with h | h
    · omega
    · have := hddl _ h; omega
  have hr1 : Rep C (mk l (Mt t0) g gb (w.heap.size :: dd)) { a with defers := mark w.heap.size :: a.defers } W1 := by
    have h1 := rep_le (rep_below hr hb1) (s' := mk l (Mt t0) g gb dd) ⟨fun _ _ h => h, sel_ok km _ hm0, rfl, rfl, rfl⟩
    refine ⟨?_, fun D hD => ?_, fun D hD => ?_, List.nodup_cons.2 ⟨fun h => by have := hddl _ h; omega, hr.dn⟩, h1.sz, h1.tm, h1.mo, h1.inj, h1.gh, h1.gd, h1.st, h1.fr, h1.ko⟩
    · show mark w.heap.size :: a.defers = mark w.heap.size :: List.map mark dd
      rw [hr.dfs]; rfl
    · rcases List.mem_cons.1 hD with h | h
      · subst h; exact hK1
      · exact h1.dd D h
    · rcases List.mem_cons.1 hD with h | h
      · subst h; exact ⟨hsz1, fun h => by have := (hr.gd _ h).1; omega⟩
      · exact h1.dg D h
  refine ⟨w.heap.size + 1, [mark w.heap.size], W1, { target := .fn (.func gf) lb, args := #[.func (.yield (w.heap.size + 1)) #[] #[]] }, W1, gf,
    #[.func (.yield (w.heap.size + 1)) #[] #[]] ++ lb, W1, ?_, ?_, ?_, ?_, fun _ => by omega, ?_⟩
  · rw [← hW1, hrec]; exact run_enterLoop_outer _ _ _ _ _
  · simp only [resolve, ev_ok hr hf]
    simp [go_sem]
  · intro f' _; exact C.all f'
  · simp [invoke, go_sem, hent]
  · have main := hit (w.heap.size + 1) (fun k O W => ∃ t, Q k t ∧ Rep C (mk l (Mt t) g gb (w.heap.size :: dd)) { a with defers := mark w.heap.size :: a.defers } W ∧ W.heap[w.heap.size + 1]? = some (.loop (rec .ready none)) ∧ ∀ b, O b ↔ (b = w.heap.size + 1 ∨ ∃ j h, lk (Mt t) j = some h ∧ h.has b))
      (fun _ _ => False) (fun b => b = w.heap.size + 1 ∨ ∃ j h, lk (Mt t0) j = some h ∧ h.has b) W1
      (fun k O W W' ⟨t, h1, h2, h3, h4⟩ hc => ⟨t, h1, rep_far h2 _ hc (fun j h b hj hb hs => hs.2 ((h4 b).2 (.inr ⟨j, h, hj, hb⟩))) (fun b hb hs => by have := (hr.gd b hb).1; omega) (fun D hD hs => by
          rcases List.mem_cons.1 hD with h | h
          · omega
          · have := hddl _ h; omega) (fun b hs => by omega), (hc.block _ (Array.getElem?_eq_some_iff.1 h3).1 (fun hs => hs.2 ((h4 _).2 (.inl rfl)))).trans h3, h4⟩)
      (fun _ _ _ h _ => h)
      (fun k O W ⟨t, h1, h2, h3, h4⟩ => ⟨hG W h2.gh, fun b hb => by
        rcases (h4 b).1 hb with h | ⟨j, h, hj, hb⟩
        · subst h; exact (Array.getElem?_eq_some_iff.1 h3).1
        · exact Hp.lt (h2.mo j h hj).1 hb⟩)
      ?_ ⟨t0, h0, hr1, hL1, fun _ => Iff.rfl⟩
    · rw [hF, hn3]
      refine callsIn_wide.2 (main.mono ?_)
      rintro e W2 ⟨⟨v, rfl⟩, ⟨O', t, hQ, hrep, hl, _⟩ | ⟨_, h⟩⟩
      · refine ⟨none, _, by have := run_endLoop (P := C.P) hl (by rw [hrec]; simp); rw [hrec] at this; exact this, ⟨_, rep_obj hrep _ hl rfl hlp hgbl hdl, next t _ hQ⟩⟩
      · exact h.elim
    · rintro k x O W hx ⟨t, hQ, hrep, hl, hO⟩
      have hy := run_yield (P := C.P) (args := (encs x).toArray) hl (by rw [hrec]; simpa using hps x)
      rw [hrec] at hy
      refine ⟨fn, _, assign, body, hy, roundIn_of_wpIn (F := Fence.wide) (n := 2) (by trivial) ?_⟩
      clear hy
      have hz := rep_zip (C := ⟨C.P, W, C.N, 2, some (w.heap.size + 1), fun b => ∃ j h, lk (Mt t) j = some h ∧ h.has b, True⟩) ps.toList (encs x) l a.tmps [] (rep_cx hrep 2 (some (w.heap.size + 1)) _ (fun j h b hj hb => ⟨j, h, hj, hb⟩))
      have hOt : ∀ b, (∃ j h, lk (Mt t) j = some h ∧ h.has b) → C.own b := fun b ⟨j, h, hj, hb⟩ => (hrep.mo j h hj).2 b hb
      have hszW := hrep.fr.size
      have htm : (ps.zip (encs x).toArray).foldl (fun t (p : Nat × Value) => t.setIfInBounds p.1 p.2) a.tmps = (ps.toList.zip (encs x)).foldl (fun t p => t.setIfInBounds p.1 p.2) a.tmps := by
        rw [← Array.foldl_toList, Array.toList_zip]
      have h1 := round k x t (w.heap.size + 1) W _ hx hQ _ W hz
      refine wpIn_mono (a := { tmps := (ps.zip (encs x).toArray).foldl (fun t (p : Nat × Value) => t.setIfInBounds p.1 p.2) a.tmps, defers := [] }) (by rw [htm]; exact h1) ?_
      rintro e a1 w1 ⟨s1, hr1', rfl, hsg, hsgb, hsd, hbody⟩
      have hl1 : w1.heap[w.heap.size + 1]? = some (.loop (rec .ready none)) := (hr1'.ko trivial).same _ _ hl rfl
      refine ⟨_, run_beginRound hl1 (by rw [hrec]), ?_⟩
      have ho1 := rep_back hrep hr1' hOt hsg hsgb [] (fun _ _ h => by cases h)
      have ho2 := rep_obj ho1 (.loop { rec .ready none with state := .busy }) hl1 rfl hlp hgbl hdl
      have hl2 : (w1.putObj (w.heap.size + 1) (.loop { rec .ready none with state := .busy })).heap[w.heap.size + 1]? = some (.loop { rec .ready none with state := .busy }) := World.putObj_heap_same (Array.getElem?_eq_some_iff.1 hl1).1
      generalize hW2 : w1.putObj (w.heap.size + 1) (.loop { rec .ready none with state := .busy }) = W2 at ho2 hl2 ⊢
      have hr2 : Rep ⟨C.P, W2, C.N, 2, some (w.heap.size + 1), fun b => W.heap.size ≤ b ∨ ∃ j h, lk (Mt t) j = some h ∧ h.has b, True⟩ s1 a1 W2 := by
        have h2 := rep_obj2 hr1' (.loop { rec .ready none with state := .busy }) hl1 rfl (by rw [hsgb]; exact hgbl) hsd (fun b => W.heap.size ≤ b ∨ ∃ j h, lk (Mt t) j = some h ∧ h.has b) (fun b hb => hb)
        rw [hW2] at h2
        exact h2
      have hcw2 : Chg (fun b => b = w.heap.size + 1) w1 W2 := by
        rw [← hW2]; exact Chg.putObj _ _ _
      have hWb : ∀ b, (W.heap.size ≤ b ∨ ∃ j h, lk (Mt t) j = some h ∧ h.has b) → C.own b := fun b hb => by
        rcases hb with h | h
        · exact .inl (Nat.le_trans hszW h)
        · exact hOt b h
      refine wpIn_mono (hbody W2 _ a1 W2 hr2) ?_
      rintro e a3 w3 ⟨s3, hr3, rfl, t', hQ', hle⟩
      have hl3 : w3.heap[w.heap.size + 1]? = some (.loop { rec .ready none with state := .busy }) := (hr3.ko trivial).same _ _ hl2 rfl
      have ho3 := rep_back ho2 hr3 hWb hle.g.symm hle.gb.symm (Mt t') hle.m
      have ho4 := rep_obj ho3 (.loop (rec .ready none)) hl3 rfl hlp hgbl hdl
      have hend := run_endRound (P := C.P) none hl3
      rw [hrec] at hend
      refine ⟨_, _, hend, .inl ⟨rfl, ?_, _, ⟨t', hQ', by rw [hrec] at ho4; exact ho4, by rw [hrec]; exact World.putObj_heap_same (Array.getElem?_eq_some_iff.1 hl3).1, fun _ => Iff.rfl⟩, fun b hb => ?_⟩⟩
      · refine Chg.trans (b := w1) (hr1'.fr.mono fun k _ h => (hO k).2 (.inr h)) (Chg.trans (b := W2) (hcw2.mono fun k _ h => .inl ((hO k).2 (.inl h))) (Chg.trans (b := w3) (hr3.fr.mono fun k _ h => ?_) ?_))
        · rcases h with h | h
          · exact .inl (.inr h)
          · exact .inl (.inl ((hO k).2 (.inr h)))
        · refine Chg.mono (S := fun b => b = w.heap.size + 1) (Chg.putObj _ _ _) fun k _ h => .inl (.inl (.inl ((hO k).2 (.inl h))))
      · rcases hb with h | ⟨j, h, hj, hb⟩
        · exact .inl ((hO b).2 (.inl h))
        · rcases (hr3.mo j h (hle.m j h hj)).2 b hb with h' | h' | h'
          · right
            have h1s : W.heap.size ≤ w1.heap.size := hr1'.fr.size
            have h2s : w1.heap.size ≤ W2.heap.size := hcw2.size
            have h3s : W2.heap.size ≤ b := h'
            omega
          · exact .inr h'
          · exact .inl ((hO b).2 (.inr h'))

/-! ### the iterator's side -/
theorem roundIn_any {P : Program} {l f : Nat} {tmps : Array Value} {assign body : Code} {w : World} {R : Ending → World → Prop} {n n' : Nat} (h : RoundIn Fence.wide n P l f tmps assign body w R) : RoundIn Fence.wide n' P l f tmps assign body w R :=
  ⟨trivial, fun c cs _ => h.2 c cs (room_wide _)⟩
theorem Cx.round (C : Cx) {l f : Nat} {tmps : Array Value} {assign body : Code} {w : World} {R : Ending → World → Prop} {n n' : Nat} (h : RoundIn Fence.wide n C.P l f tmps assign body w R) : RoundIn C.F n' C.P l f tmps assign body w R := by
  unfold Cx.F
  split
  · exact roundIn_any h
  · exact roundIn_any (n' := n') h
/-- a call of yield, wherever -/
theorem l_yield2 {k : Nat} {cal : Operand} {as_ : Array Operand} {ts : Array TypeId} {vs : List Value} {lp : Nat} {A B : World → Prop} (hCW : ∀ b, C.W b) (hkp : ¬ C.kp)
    (hw : wantS C (mk l m g gb []) ops ⟨some i, .call { callee := .value cal, args := as_, argTypes := ts }, ty, pos, aft, gd⟩ = some true) (hcal : ev C (mk l m g gb []) cal = some (.func (.yield lp) #[] #[])) (hargs : evs C (mk l m g gb []) as_.toList = some vs)
    (hy : ∀ w, g w → ∃ O : Nat → Prop, YieldAt Fence.wide 2 C.P lp vs.toArray w fun e w' => (e = .returned (.bool true) ∧ Chg O w w' ∧ A w') ∨ (e = .returned (.bool false) ∧ Chg O w w' ∧ B w'))
    (yes : ∀ W1, A W1 → VL C ops rest K (mk ((i, .bool true) :: l) [] (fun w => Chg (fun _ => False) W1 w) (fun b => b < W1.heap.size) []))
    (no : ∀ W1, B W1 → VL C ops rest K (mk ((i, .bool false) :: l) [] (fun w => Chg (fun _ => False) W1 w) (fun b => b < W1.heap.size) [])) :
    VL C ops (⟨some i, .call { callee := .value cal, args := as_, argTypes := ts }, ty, pos, aft, gd⟩ :: rest) K (mk l m g gb []) :=
  vl_step hw fun a w hr => by
    obtain ⟨O, fn, tmps, assign, body, hrun, hR⟩ := hy w hr.gh
    have hc := ev_ok hr hcal
    have ha : as_.map a.eval = vs.toArray := by
      apply Array.ext'
      simpa using args_of (d := some i) (ty := ty) (pos := pos) (aft := aft) (gd := gd) (cal := cal) (ts := ts) (reads_of hr) hargs
    have hex : (execOp a.eval ⟨some i, .call { callee := .value cal, args := as_, argTypes := ts }, ty, pos, aft, gd⟩).run C.P w = .ok (.round lp fn tmps assign body) w := by
      simp [execOp, resolve, hc, Deferred.ofValue, invoke, Sem.run_bind, Result.andThen, ha, hrun]
    refine ⟨fun f _ => C.all f, ?_⟩
    rw [Oper.semAt_eq _ _ _ (by simp), hex]
    have fin : ∀ (b : Bool) (W1 : World), Chg O w W1 → Rep C (mk ((i, .bool b) :: l) [] (fun w => Chg (fun _ => False) W1 w) (fun b => b < W1.heap.size) []) (a.put (some i) (.bool b)) W1 := fun b W1 hch => by
      rw [← mk_put]
      refine rep_put (s := mk l [] _ _ []) ?_ (some i) _
      exact ⟨hr.dfs, fun _ h => (by cases h), fun _ h => (by cases h), List.nodup_nil, hr.sz, hr.tm, fun k h hk => (by cases hk), fun k k' h h' b hk => (by cases hk), Chg.refl _ _, fun b hb => ⟨hb, fun k h hk => (by cases hk)⟩,
        fun w1 w2 hc2 h1 => h1.trans (hc2.mono fun k _ hn => (Decidable.em (k < W1.heap.size)).elim (fun h => absurd h hn) (fun h => .inr (by omega))),
        hr.fr.trans (hch.mono fun k _ _ => .inl (hCW k)), fun hp => absurd hp hkp⟩
    refine ⟨by simp [C.nod], ?_⟩
    refine (C.round (n' := C.n - 1) hR).mono ?_
    rintro e w' (⟨rfl, h1, h2⟩ | ⟨rfl, h1, h2⟩)
    · exact ⟨_, fin true w' h1, yes w' h2⟩
    · exact ⟨_, fin false w' h1, no w' h2⟩
end Go.Proofs.Ytpgjbalnipinoaa

/- A range over an iterator within an iterator. Conditions: none. -/
namespace Go.Proofs.Ytpgjbalnipinoaa
open Go.Proofs Go.RowKit Go
variable {C : Cx} {K : Exit → St → Prop} {ops : Array Oper} {rest : List Oper} {l l' : List (Nat × Value)} {m m' : List (Nat × Hp)} {g : World → Prop} {gb : Nat → Prop} {dd : List Nat}
  {i : Nat} {d : Option Nat} {op : Op} {ty : TypeId} {pos : String} {aft : Array Edge} {gd : Option (Nat × Bool)} {s : St} {a : Act} {w w' : World}

/-- what an iterator knows of memory: it is W, but for what is put off -/
def gI (W : World) (dd : List Nat) (w : World) : Prop := Chg (fun b => b ∈ dd) W w
def gbI (W : World) (dd : List Nat) (b : Nat) : Prop := b < W.heap.size ∧ b ∉ dd
theorem gI_refl (W : World) (dd : List Nat) : gI W dd W := Chg.refl _ W
theorem gI_nil {W w : World} (h : gI W [] w) : Chg (fun _ => False) W w := h.mono fun _ _ h => (by cases h)
theorem gI_st (W : World) (dd : List Nat) (w1 w2 : World) (hc : Chg (fun b => ¬ gbI W dd b) w1 w2) (h : gI W dd w1) : gI W dd w2 :=
  h.trans (hc.mono fun k _ hn => by
    by_cases h1 : k ∈ dd
    · exact .inl h1
    · exact .inr (by
        rcases Nat.lt_or_ge k W.heap.size with h2 | h2
        · exact absurd ⟨h2, h1⟩ hn
        · exact h2))
theorem Chg.all {S : Nat → Prop} {w w' : World} (h : Chg S w w') : Chg (fun _ => True) w w' := h.mono fun _ _ _ => trivial
/-- a round's memory: but for the loop's own record -/
def gR (W : World) (lp : Nat) (R : Obj) (w : World) : Prop := Chg (fun b => b = lp) W w ∧ w.heap[lp]? = some R

theorem v_rangeY {α : Type} {fo : Operand} {ps : Array Tmp} {assign body : Code} {gf : Nat} {lb : Array Value} {encs : α → List Value} {xs : List α} {G : World → Prop} (hro : C.ro = none) (hn3 : C.n = 3) (hCW : ∀ b, C.W b) (hkp : ¬ C.kp)
    {W0 : World} {k0 : Nat} (J : Nat → (Nat → Prop) → World → Prop) (Jx : (Nat → Prop) → World → Prop) {O0 : Nat → Prop}
    (hJ : ∀ k O W1 W', J k O W1 → Chg (fun b => C.w0.heap.size ≤ b ∧ ¬ O b) W1 W' → J k O W') (hJx : ∀ O W1 W', Jx O W1 → Chg (fun b => C.w0.heap.size ≤ b ∧ ¬ O b) W1 W' → Jx O W') (hJO : ∀ k O W, J k O W → ∀ b, O b → b < W.heap.size) (hJ0 : J k0 O0 W0)
    (own : Nat → Prop) (hown : ∀ b, own b → b < W0.heap.size ∧ ¬ O0 b ∧ b ∉ dd) (hdd : ∀ D ∈ dd, ¬ O0 D)
    (hf : ev C (mk l [] (gI W0 dd) (gbI W0 dd) dd) fo = some (.func (.func gf) #[] lb)) (hent : ∀ args w, (callFunc gf args).run C.P w = .ok (.enter gf args) w) (hit : Iter2 C.P gf lb encs xs G) (hG : ∀ W, (∀ b, own b → W.heap[b]? = W0.heap[b]?) → G W) (hps : ∀ x, (encs x).length = ps.size)
    (round : ∀ j x lp O W, xs[j]? = some x → J (k0 + j) O W → (∀ b, own b → W.heap[b]? = W0.heap[b]? ∧ ¬ O b ∧ b ≠ lp) → ¬ O lp → lp < W.heap.size → C.w0.heap.size ≤ lp →
      V ⟨C.P, W, C.N, 2, some lp, fun _ => True, False⟩ assign (fun e s1 => e = .normal ∧ ∃ l1 m1, s1 = mk l1 m1 (fun w => Chg (fun _ => False) W w) (fun b => b < W.heap.size) [] ∧
        ∀ R, V ⟨C.P, W, C.N, 2, some lp, fun _ => True, False⟩ body (fun e s2 => (e = .normal ∧ s2.d = [] ∧ ∀ w, s2.g w → w.heap[lp]? = some R ∧ Chg (fun b => O b ∨ b = lp) W w ∧ ∃ O', J (k0 + j + 1) O' w ∧ ∀ b, O' b → O b ∨ W.heap.size ≤ b) ∨
          (e = .ret ∧ s2.d = [] ∧ ∀ w, s2.g w → w.heap[lp]? = some R ∧ Chg (fun b => O b ∨ b = lp) W w ∧ ∃ O', Jx O' w ∧ ∀ b, O' b → O b ∨ W.heap.size ≤ b))
          (mk l1 m1 (gR W lp R) (fun b => b < W.heap.size) []))
        (mk (zipR ps.toList (encs x) l) [] (fun w => Chg (fun _ => False) W w) (fun b => b < W.heap.size) []))
    (next : ∀ W3 O3 D, J (k0 + xs.length) O3 W3 → (∀ b, own b → W3.heap[b]? = W0.heap[b]? ∧ ¬ O3 b ∧ b < W3.heap.size ∧ b ∉ D :: dd) → (∀ D' ∈ D :: dd, ¬ O3 D' ∧ C.w0.heap.size ≤ D' ∧ D' < W3.heap.size) → K .normal (mk l [] (gI W3 (D :: dd)) (gbI W3 (D :: dd)) (D :: dd)))
    (nextR : ∀ W3 D, (∃ O3, Jx O3 W3 ∧ ∀ D' ∈ D :: dd, ¬ O3 D' ∧ C.w0.heap.size ≤ D') → K .ret (mk l [] (gI W3 (D :: dd)) (gbI W3 (D :: dd)) (D :: dd))) : V C (.rangeFunc fo ps assign body) K (mk l [] (gI W0 dd) (gbI W0 dd) dd) := by
  intro a w hr
  have hF : C.F = Fence.wide := by unfold Cx.F; rw [hro]
  refine wpIn_rangeFunc ?_
  intro fn hfn
  rw [C.rnd, hro]
  obtain ⟨rec, hrec⟩ : ∃ rec : LoopState → Option Code → Loop, rec = fun st pe => { state := st, pending := pe, fn, tmps := a.tmps, params := ps, assign, body, defers := w.heap.size } := ⟨_, rfl⟩
  obtain ⟨W1, hW1⟩ : ∃ W1, (w.alloc (.deferred (some []))).alloc (.loop (rec .ready none)) = W1 := ⟨_, rfl⟩
  have hL1 : W1.heap[w.heap.size + 1]? = some (.loop (rec .ready none)) := by
    rw [← hW1]; have := World.alloc_heap_new (w.alloc (.deferred (some []))) (.loop (rec .ready none)); rwa [World.size_alloc] at this
  have hK1 : W1.heap[w.heap.size]? = some (.deferred (some [])) := by
    rw [← hW1]; exact (Below.heap_alloc _ _ _ (by simp)).trans (World.alloc_heap_new w _)
  have hb1 : Below w.heap.size w W1 := by
    rw [← hW1]; exact ((Below.refl _ w).alloc (Nat.le_refl _) _).alloc (by simp) _
  have hs1 : W1.heap.size = w.heap.size + 2 := by rw [← hW1]; simp
  have hg0 : Chg (fun b => b ∈ dd) W0 w := hr.gh
  have hsw := hg0.size
  have hsz1 := hr.fr.size
  have hddl : ∀ D ∈ dd, D < w.heap.size := fun D hD => (Array.getElem?_eq_some_iff.1 (hr.dd D hD)).1
  have hO0 := hJO _ _ _ hJ0
  have hJw : J k0 O0 W1 := by
    refine hJ _ _ _ _ (hJ _ _ _ _ hJ0 (hg0.mono fun k _ hk => ⟨(hr.dg k hk).1, hdd k hk⟩)) ((Chg.of_below (S := fun _ => False) hb1).mono fun _ _ h => h.elim)
  refine ⟨w.heap.size + 1, [mark w.heap.size], W1, { target := .fn (.func gf) lb, args := #[.func (.yield (w.heap.size + 1)) #[] #[]] }, W1, gf,
    #[.func (.yield (w.heap.size + 1)) #[] #[]] ++ lb, W1, ?_, ?_, ?_, ?_, fun _ => by omega, ?_⟩
  · rw [← hW1, hrec]; exact run_enterLoop_outer _ _ _ _ _
  · simp only [resolve, ev_ok hr hf]
    simp [go_sem]
  · intro f' _; exact C.all f'
  · simp [invoke, go_sem, hent]
  · have stab : ∀ (O : Nat → Prop) (W W' : World), (∀ b, own b → W.heap[b]? = W0.heap[b]? ∧ ¬ O b) → ¬ O (w.heap.size + 1) → ¬ O w.heap.size → W.heap[w.heap.size]? = some (.deferred (some [])) → (∀ D ∈ dd, W.heap[D]? = some (.deferred (some [])) ∧ ¬ O D) →
        Chg (fun b => W1.heap.size ≤ b) W W' → W1.heap.size ≤ W.heap.size → (∀ b, own b → W'.heap[b]? = W0.heap[b]? ∧ ¬ O b) ∧ W'.heap[w.heap.size]? = some (.deferred (some [])) ∧ (∀ D ∈ dd, W'.heap[D]? = some (.deferred (some [])) ∧ ¬ O D) := fun O W W' h1 h2 h3 h4 h5 hc hs =>
      ⟨fun b hb => ⟨(hc.block b (by have := (hown b hb).1; omega) (by have := (hown b hb).1; omega)).trans (h1 b hb).1, (h1 b hb).2⟩, (hc.block _ (by omega) (by omega)).trans h4, fun D hD => ⟨(hc.block D (by have := hddl D hD; omega) (by have := hddl D hD; omega)).trans (h5 D hD).1, (h5 D hD).2⟩⟩
    have main := hit (w.heap.size + 1) (fun j Oin W => ∃ O, J (k0 + j) O W ∧ ((∀ b, own b → W.heap[b]? = W0.heap[b]? ∧ ¬ O b) ∧ ¬ O (w.heap.size + 1) ∧ ¬ O w.heap.size ∧ W.heap[w.heap.size]? = some (.deferred (some [])) ∧ (∀ D ∈ dd, W.heap[D]? = some (.deferred (some [])) ∧ ¬ O D)) ∧ W.heap[w.heap.size + 1]? = some (.loop (rec .ready none)) ∧ W1.heap.size ≤ W.heap.size ∧ Chg (fun _ => True) C.w0 W ∧ ∀ b, Oin b ↔ (O b ∨ b = w.heap.size + 1))
      (fun Oin W => ∃ O, Jx O W ∧ (¬ O (w.heap.size + 1) ∧ ¬ O w.heap.size ∧ W.heap[w.heap.size]? = some (.deferred (some [])) ∧ (∀ D ∈ dd, W.heap[D]? = some (.deferred (some [])) ∧ ¬ O D)) ∧ W.heap[w.heap.size + 1]? = some (.loop { rec .ready none with state := .done, pending := some .ret }) ∧ W1.heap.size ≤ W.heap.size ∧ Chg (fun _ => True) C.w0 W ∧ ∀ b, Oin b ↔ (O b ∨ b = w.heap.size + 1)) (fun b => O0 b ∨ b = w.heap.size + 1) W1
      (fun k Oin W W' ⟨O, h1, ⟨h2, h3, h4, h5, h6⟩, h7, h8, h9, h10⟩ hc => by
        have hc2 : Chg (fun b => W1.heap.size ≤ b) W W' := hc.mono fun _ _ h => h.1
        obtain ⟨s1, s2, s3⟩ := stab O W W' h2 h3 h4 h5 h6 hc2 h8
        exact ⟨O, hJ _ _ _ _ h1 (hc.mono fun b _ h => ⟨by have := hr.fr.size; omega, fun ho => h.2 ((h10 b).2 (.inl ho))⟩), ⟨s1, h3, h4, s2, s3⟩, (hc.block _ (by omega) (fun h => by have := h.1; omega)).trans h7, Nat.le_trans h8 hc.size, h9.trans (hc.mono fun _ _ _ => .inl trivial), h10⟩)
      (fun Oin W W' ⟨O, h1, ⟨h3, h4, h5, h6⟩, h7, h8, h9, h10⟩ hc => by
        have hc2 : Chg (fun b => W1.heap.size ≤ b) W W' := hc.mono fun _ _ h => h.1
        exact ⟨O, hJx _ _ _ h1 (hc.mono fun b _ h => ⟨by have := hr.fr.size; omega, fun ho => h.2 ((h10 b).2 (.inl ho))⟩), ⟨h3, h4, (hc2.block _ (by omega) (by omega)).trans h5, fun D hD => ⟨(hc2.block D (by have := hddl D hD; omega) (by have := hddl D hD; omega)).trans (h6 D hD).1, (h6 D hD).2⟩⟩, (hc.block _ (by omega) (fun h => by have := h.1; omega)).trans h7, Nat.le_trans h8 hc.size, h9.trans (hc.mono fun _ _ _ => .inl trivial), h10⟩)
      (fun k Oin W ⟨O, h1, ⟨h2, h3, h4, h5, h6⟩, h7, h8, h9, h10⟩ => ⟨hG W fun b hb => (h2 b hb).1, fun b hb => by
        rcases (h10 b).1 hb with h | h
        · exact hJO _ _ _ h1 b h
        · subst h; omega⟩)
      ?_ ⟨O0, hJw, ⟨fun b hb => ⟨(hb1.block b (by have := (hown b hb).1; omega)).trans (hg0.block b (hown b hb).1 (hown b hb).2.2), (hown b hb).2.1⟩, fun h => by have := hO0 _ h; omega, fun h => by have := hO0 _ h; omega, hK1, fun D hD => ⟨(hb1.block D (hddl D hD)).trans (hr.dd D hD), hdd D hD⟩⟩, hL1, Nat.le_refl _, hr.fr.all.trans ((Chg.of_below (S := fun _ => False) hb1).mono fun _ _ h => h.elim), fun _ => Iff.rfl⟩
    · rw [hF, hn3]
      refine callsIn_wide.2 (main.mono ?_)
      have fin : ∀ (W2 : World) (o : Obj), (∀ D ∈ dd, W2.heap[D]? = some (.deferred (some []))) → W2.heap[w.heap.size]? = some (.deferred (some [])) → W1.heap.size ≤ W2.heap.size → Chg (fun _ => True) C.w0 W2 →
          Rep C (mk l [] (gI (W2.putObj (w.heap.size + 1) o) (w.heap.size :: dd)) (gbI (W2.putObj (w.heap.size + 1) o) (w.heap.size :: dd)) (w.heap.size :: dd)) { a with defers := mark w.heap.size :: a.defers } (W2.putObj (w.heap.size + 1) o) := fun W2 o h1 h2 h3 h4 => by
        refine ⟨?_, fun D hD => ?_, fun D hD => ?_, List.nodup_cons.2 ⟨fun h => by have := hddl _ h; omega, hr.dn⟩, hr.sz, hr.tm, fun k h hk => (by cases hk), fun k k' h h' b hk => (by cases hk), gI_refl _ _, fun b hb => ⟨hb.1, fun k h hk => (by cases hk)⟩, gI_st _ _, (h4.trans ((Chg.putObj _ _ _).mono fun _ _ _ => .inl trivial)).mono fun k _ _ => hCW k, fun hp => absurd hp hkp⟩
        · show mark w.heap.size :: a.defers = mark w.heap.size :: List.map mark dd
          rw [hr.dfs]; rfl
        · have hlt : D ≠ w.heap.size + 1 := fun e => by
            rcases List.mem_cons.1 hD with h | h
            · omega
            · have := hddl _ h; omega
          rw [World.putObj_heap_other hlt]
          rcases List.mem_cons.1 hD with h | h
          · subst h; exact h2
          · exact h1 D h
        · refine ⟨?_, fun h => h.2 hD⟩
          rcases List.mem_cons.1 hD with h | h
          · subst h; exact hsz1
          · exact (hr.dg D h).1
      rintro e W2 ⟨⟨v, rfl⟩, ⟨Oin, O, h1, ⟨h2, h3, h4, h5, h6⟩, h7, h8, h9, h10⟩ | ⟨Oin, O, h1, ⟨h3, h4, h5, h6⟩, h7, h8, h9, h10⟩⟩
      · refine ⟨none, _, by have := run_endLoop (P := C.P) h7 (by rw [hrec]; simp); rw [hrec] at this; exact this, ⟨_, fin W2 _ (fun D hD => (h6 D hD).1) h5 h8 h9, ?_⟩⟩
        refine next _ O w.heap.size (hJ _ _ _ _ h1 ((Chg.putObj _ _ _).mono fun b _ hb => by subst hb; exact ⟨by omega, h3⟩)) (fun b hb => ?_) (fun D hD => ?_)
        · have hb1 := (hown b hb).1
          refine ⟨(World.putObj_heap_other (by omega)).trans (h2 b hb).1, (h2 b hb).2, by simp; omega, fun hm => ?_⟩
          rcases List.mem_cons.1 hm with h | h
          · omega
          · exact (hown b hb).2.2 h
        · have hs : D < W2.heap.size := (Array.getElem?_eq_some_iff.1 (show W2.heap[D]? = some (.deferred (some [])) from by
            rcases List.mem_cons.1 hD with h | h
            · subst h; exact h5
            · exact (h6 D h).1)).1
          rcases List.mem_cons.1 hD with h | h
          · subst h; exact ⟨h4, hsz1, by simpa using hs⟩
          · exact ⟨(h6 D h).2, (hr.dg D h).1, by simpa using hs⟩
      · refine ⟨some .ret, _, by have := run_endLoop (P := C.P) h7 (by rw [hrec]; simp); rw [hrec] at this; exact this, ?_⟩
        have hv := v_ret (C := C) (K := K) (nextR (W2.putObj (w.heap.size + 1) (.loop { rec .ready none with state := .exhausted, pending := some .ret })) w.heap.size ⟨O, hJx _ _ _ h1 ((Chg.putObj _ _ _).mono fun b _ hb => by subst hb; exact ⟨by omega, h3⟩), fun D hD => by
          rcases List.mem_cons.1 hD with h | h
          · subst h; exact ⟨h4, hsz1⟩
          · exact ⟨(h6 D h).2, (hr.dg D h).1⟩⟩) _ _ (fin W2 _ (fun D hD => (h6 D hD).1) h5 h8 h9)
        rw [hF, hn3] at hv
        rw [hrec] at hv
        exact hv
    · rintro j x Oin W hx ⟨O, h1, ⟨h2, h3, h4, h5, h6⟩, h7, h8, h9, h10⟩
      have hlt := (Array.getElem?_eq_some_iff.1 h7).1
      have hy := run_yield (P := C.P) (args := (encs x).toArray) h7 (by rw [hrec]; simpa using hps x)
      rw [hrec] at hy
      refine ⟨fn, _, assign, body, hy, roundIn_of_wpIn (F := Fence.wide) (n := 2) (by trivial) ?_⟩
      clear hy
      have hr0 : Rep ⟨C.P, W, C.N, 2, some (w.heap.size + 1), fun _ => True, False⟩ (mk l [] (fun w => Chg (fun _ => False) W w) (fun b => b < W.heap.size) []) ⟨a.tmps, []⟩ W :=
        ⟨rfl, fun _ h => (by cases h), fun _ h => (by cases h), List.nodup_nil, hr.sz, hr.tm, fun k h hk => (by cases hk), fun k k' h h' b hk => (by cases hk), Chg.refl _ _, fun b hb => ⟨hb, fun k h hk => (by cases hk)⟩,
          fun w1 w2 hc2 h1 => h1.trans (hc2.mono fun k _ hn => .inr (Nat.le_of_not_lt hn)), Chg.refl _ _, fun hp => hp.elim⟩
      have hz := rep_zip ps.toList (encs x) l a.tmps [] hr0
      have htm : (ps.zip (encs x).toArray).foldl (fun t (p : Nat × Value) => t.setIfInBounds p.1 p.2) a.tmps = (ps.toList.zip (encs x)).foldl (fun t p => t.setIfInBounds p.1 p.2) a.tmps := by
        rw [← Array.foldl_toList, Array.toList_zip]
      have hvv := round j x (w.heap.size + 1) O W hx h1 (fun b hb => ⟨(h2 b hb).1, (h2 b hb).2, by have := (hown b hb).1; omega⟩) h3 hlt (by omega) _ W hz
      refine wpIn_mono (a := { tmps := (ps.zip (encs x).toArray).foldl (fun t (p : Nat × Value) => t.setIfInBounds p.1 p.2) a.tmps, defers := [] }) (by rw [htm]; exact hvv) ?_
      rintro e a1 w1 ⟨s1, hr1', rfl, l1, m1, rfl, hbody⟩
      have hgw : Chg (fun _ => False) W w1 := hr1'.gh
      have hl1 : w1.heap[w.heap.size + 1]? = some (.loop (rec .ready none)) := (hgw.block _ hlt fun h => h).trans h7
      refine ⟨_, run_beginRound hl1 (by rw [hrec]), ?_⟩
      obtain ⟨R2, hR2⟩ : ∃ R2, R2 = Obj.loop { rec .ready none with state := .busy } := ⟨_, rfl⟩
      have hl2 : (w1.putObj (w.heap.size + 1) R2).heap[w.heap.size + 1]? = some R2 := World.putObj_heap_same (Array.getElem?_eq_some_iff.1 hl1).1
      have hr2 : Rep ⟨C.P, W, C.N, 2, some (w.heap.size + 1), fun _ => True, False⟩ (mk l1 m1 (gR W (w.heap.size + 1) R2) (fun b => b < W.heap.size) []) a1 (w1.putObj (w.heap.size + 1) R2) := by
        have hp := Chg.putObj w1 (w.heap.size + 1) R2
        have hnb : ∀ k h, lk m1 k = some h → ∀ b, h.has b → b ≠ w.heap.size + 1 := fun k h hk b hb e => by
          subst e; exact (hr1'.gd _ hlt).2 k h hk hb
        refine ⟨hr1'.dfs, fun _ h => (by cases h), fun _ h => (by cases h), List.nodup_nil, hr1'.sz, hr1'.tm, fun k h hk => ⟨Hp.keep (hr1'.mo k h hk).1 fun b hb => hp.block b (Hp.lt (hr1'.mo k h hk).1 hb) (hnb k h hk b hb), fun b hb => .inr trivial⟩, hr1'.inj, ⟨(hgw.mono (S' := fun b => b = w.heap.size + 1) fun _ _ h => h.elim).trans (hp.mono fun k _ hk => .inl hk), hl2⟩, fun b hb => ⟨by have h := (hr1'.gd b hb).1; simpa using h, (hr1'.gd b hb).2⟩, fun w2 w3 hc2 hg2 => ⟨hg2.1.trans (hc2.mono fun k _ hn => .inr (Nat.le_of_not_lt hn)), ?_⟩, (Chg.all hgw).trans (hp.mono fun _ _ _ => .inl trivial), fun hp => hp.elim⟩
        exact (hc2.block _ (Array.getElem?_eq_some_iff.1 hg2.2).1 fun hn => hn hlt).trans hg2.2
      rw [← hR2]
      refine wpIn_mono (hbody R2 a1 _ hr2) ?_
      rintro e a3 w3 ⟨s3, hr3, ⟨rfl, hsd, hpost⟩ | ⟨rfl, hsd, hpost⟩⟩
      · obtain ⟨hl3, hc3, O', hJ3, hO3⟩ := hpost w3 hr3.gh
        have hnl : ¬ O' (w.heap.size + 1) := fun h => by
          rcases hO3 _ h with h | h
          · exact h3 h
          · omega
        have hnD : ¬ O' w.heap.size := fun h => by
          rcases hO3 _ h with h | h
          · exact h4 h
          · omega
        rw [hR2] at hl3
        have hend := run_endRound (P := C.P) none hl3
        rw [hrec] at hend
        refine ⟨_, _, hend, .inl ⟨rfl, ?_, fun b => O' b ∨ b = w.heap.size + 1, ⟨O', hJ _ _ _ _ hJ3 ((Chg.putObj _ _ _).mono fun b _ hb => by subst hb; exact ⟨by omega, hnl⟩), ⟨fun b hb => ⟨?_, fun h => ?_⟩, hnl, hnD, ?_, fun D hD => ⟨?_, fun h => ?_⟩⟩, ?_, ?_, ?_, fun _ => Iff.rfl⟩, fun b hb => ?_⟩⟩
        · exact (hc3.mono fun k _ hk => (h10 k).2 hk).trans ((Chg.putObj _ _ _).mono fun k _ hk => .inl ((h10 k).2 (.inr hk)))
        · have hb1 := (hown b hb).1
          rw [World.putObj_heap_other (by omega)]
          exact (hc3.block b (by omega) (fun h => by rcases h with h | h; exact (h2 b hb).2 h; omega)).trans (h2 b hb).1
        · have hb1 := (hown b hb).1
          rcases hO3 _ h with h | h
          · exact (h2 b hb).2 h
          · omega
        · rw [World.putObj_heap_other (by omega)]
          exact (hc3.block _ (by omega) (fun h => by rcases h with h | h; exact h4 h; omega)).trans h5
        · have hDl := hddl D hD
          rw [World.putObj_heap_other (by omega)]
          exact (hc3.block D (by omega) (fun h => by rcases h with h | h; exact (h6 D hD).2 h; omega)).trans (h6 D hD).1
        · have hDl := hddl D hD
          rcases hO3 _ h with h | h
          · exact (h6 D hD).2 h
          · omega
        · rw [hrec]; exact World.putObj_heap_same (Array.getElem?_eq_some_iff.1 hl3).1
        · have := hc3.size; simp; omega
        · exact (h9.trans (hc3.mono fun _ _ _ => .inl trivial)).trans ((Chg.putObj _ _ _).mono fun _ _ _ => .inl trivial)
        · rcases hb with h | h
          · rcases hO3 b h with h | h
            · exact .inl ((h10 b).2 (.inl h))
            · exact .inr h
          · exact .inl ((h10 b).2 (.inr h))
      · obtain ⟨hl3, hc3, O', hJ3, hO3⟩ := hpost w3 hr3.gh
        have hnl : ¬ O' (w.heap.size + 1) := fun h => by
          rcases hO3 _ h with h | h
          · exact h3 h
          · omega
        have hnD : ¬ O' w.heap.size := fun h => by
          rcases hO3 _ h with h | h
          · exact h4 h
          · omega
        rw [hR2] at hl3
        have hend := run_endRound (P := C.P) (some .ret) hl3
        rw [hrec] at hend
        refine ⟨_, _, hend, .inr ⟨rfl, ?_, fun b => O' b ∨ b = w.heap.size + 1, ⟨O', hJx _ _ _ hJ3 ((Chg.putObj _ _ _).mono fun b _ hb => by subst hb; exact ⟨by omega, hnl⟩), ⟨hnl, hnD, ?_, fun D hD => ⟨?_, fun h => ?_⟩⟩, ?_, ?_, ?_, fun _ => Iff.rfl⟩, fun b hb => ?_⟩⟩
        · exact (hc3.mono fun k _ hk => (h10 k).2 hk).trans ((Chg.putObj _ _ _).mono fun k _ hk => .inl ((h10 k).2 (.inr hk)))
        · rw [World.putObj_heap_other (by omega)]
          exact (hc3.block _ (by omega) (fun h => by rcases h with h | h; exact h4 h; omega)).trans h5
        · have hDl := hddl D hD
          rw [World.putObj_heap_other (by omega)]
          exact (hc3.block D (by omega) (fun h => by rcases h with h | h; exact (h6 D hD).2 h; omega)).trans (h6 D hD).1
        · have hDl := hddl D hD
          rcases hO3 _ h with h | h
          · exact (h6 D hD).2 h
          · omega
        · rw [hrec]; exact World.putObj_heap_same (Array.getElem?_eq_some_iff.1 hl3).1
        · have := hc3.size; simp; omega
        · exact (h9.trans (hc3.mono fun _ _ _ => .inl trivial)).trans ((Chg.putObj _ _ _).mono fun _ _ _ => .inl trivial)
        · rcases hb with h | h
          · rcases hO3 b h with h | h
            · exact .inl ((h10 b).2 (.inl h))
            · exact .inr h
          · exact .inl ((h10 b).2 (.inr h))

/-- INTO an iterator that ranges over others, and out of it -/
theorem enterI2 {P : Program} {f N : Nat} {fn : Func} {c : Code} {args : List Value} {W : World} {A : World → Prop} (hf : P.funcs[f]? = some fn) (hb : fn.body = some c) (hn : fn.ntmps = N) (hrs : fn.results = #[]) (hsz : Nat.ble args.length N = true)
    (h : V ⟨P, W, N, 3, none, fun _ => True, False⟩ c (retK ⟨P, W, N, 3, none, fun _ => True, False⟩ [] (fun _ s => ∀ w, s.g w → A w)) (mk (argsL 0 args) [] (gI W []) (gbI W []) [])) :
    Calls P f args.toArray W fun e w' => (∃ v, e = .returned v) ∧ A w' := by
  refine (enterG (fun _ => True) False (gI W []) (gbI W []) (fun _ s => ∀ w, s.g w → A w) hf hb hn hrs hsz (gI_refl W []) (fun b hb => hb.1) (gI_st W []) h).mono ?_
  rintro e w' ⟨v, s', rfl, h1, ho⟩
  exact ⟨⟨v, rfl⟩, h1 w' ho.gh⟩
/-- anew from the world that is: in an iterator -/
theorem v_rebase2 {c : Code} (hCW : ∀ b, C.W b) (hkp : ¬ C.kp) (h : ∀ W1, g W1 → (∀ k hp, lk m k = some hp → hp.ok W1 ∧ ∀ b, hp.has b → b < W1.heap.size ∧ b ∉ dd) → (∀ b, gb b → b < W1.heap.size) → V C c K (mk l [] (gI W1 dd) (gbI W1 dd) dd)) : V C c K (mk l m g gb dd) := fun a w hr =>
  h w hr.gh (fun k hp hk => ⟨(hr.mo k hp hk).1, fun b hb => ⟨Hp.lt (hr.mo k hp hk).1 hb, fun hD => by
    obtain ⟨o, h1, h2⟩ := Hp.isCells (hr.mo k hp hk).1 hb
    rw [hr.dd b hD] at h1; cases h1; cases h2⟩⟩) (fun b hb => (hr.gd b hb).1) a w ⟨hr.dfs, hr.dd, fun D hD => ⟨(hr.dg D hD).1, fun h => h.2 hD⟩, hr.dn, hr.sz, hr.tm, fun k h hk => (by cases hk), fun k k' h h' b hk => (by cases hk), gI_refl _ _, fun b hb => ⟨hb.1, fun k h hk => (by cases hk)⟩,
    gI_st _ _, hr.fr, fun hp => absurd hp hkp⟩
end Go.Proofs.Ytpgjbalnipinoaa

/- New blocks and their bounds; reading what is said of memory; loops whose deferred calls grow. Conditions: none. -/
namespace Go.Proofs.Ytpgjbalnipinoaa
open Go.Proofs Go.RowKit Go
variable {C : Cx} {K : Exit → St → Prop} {ops : Array Oper} {rest : List Oper} {l l' : List (Nat × Value)} {m m' : List (Nat × Hp)} {g : World → Prop} {gb : Nat → Prop} {dd : List Nat}
  {i : Nat} {d : Option Nat} {op : Op} {ty : TypeId} {pos : String} {aft : Array Edge} {gd : Option (Nat × Bool)} {ks : List Nat} {y : Value} {T T' E : TypeId} {s : St} {x z : Operand} {v u : Value} {n esz j : Nat} {xs : List Value}
  {a : Act} {w w' : World}
theorem l_newB {cs : List Value} (hw : wantS C (mk l m g gb dd) ops ⟨some i, op, ty, pos, aft, gd⟩ = some true) (h : OpN C (mk l m g gb dd) ⟨some i, op, ty, pos, aft, gd⟩ (fun b => .pointer (some ⟨b, 0, none⟩)) T cs) (next : ∀ b, C.w0.heap.size ≤ b → VL C ops rest K (mk ((i, .pointer (some ⟨b, 0, none⟩)) :: l) ((i, .box b T cs) :: m) g gb dd)) :
    VL C ops (⟨some i, op, ty, pos, aft, gd⟩ :: rest) K (mk l m g gb dd) :=
  vl_step hw fun a w hr => by
    refine wpIn_value h.hd (h.run _ w (reads_of hr)) ⟨_, ?_, next w.heap.size hr.fr.size⟩
    have := rep_new hr i (fun b => .pointer (some ⟨b, 0, none⟩)) T cs
    rw [appS] at this
    simpa only [mk_mem, mk_put] using this
theorem o_loadGW {b : Nat} {cs : List Value} [ht : TAgg C.P T n] (h : ev C s x = some (.pointer (some ⟨b, 0, none⟩))) (hg : ∀ w, s.g w → Blk w b cs.toArray T') (hl : cs.length = n) : OpV C s ⟨d, .load T x, ty, pos, aft, gd⟩ [] (.agg cs.toArray) :=
  ⟨by simp, fun ρ w hr hgw _ => by
    have hb := hg w hgw
    simp [execOp, rd1 hr (x := x) (by simp [Op.operands]) h, Instr.loadAt, Instr.sureAddr, Sem.run_bind, Result.andThen, run_loadVar_agg ht hl (hb.cellsAt 0 cs fun j v hj => by simpa using hj)]⟩
theorem v_loopD {α : Type} {c : Code} (lv : α → List (Nat × Value)) (mv : α → List (Nat × Hp)) (gv : α → World → Prop) (gbv : α → Nat → Prop) (ddv : α → List Nat) {lc : List (Nat × Value)} {mc : List (Nat × Hp)} (Q : α → Prop) (μ : α → Nat) (x0 : α) (kl km : List Nat) (h0 : Q x0)
    (hg : g = gv x0) (hgb : gb = gbv x0) (hdd : dd = ddv x0) (h1 : leL l (lv x0)) (h2 : sel kl l = some lc) (h3 : leL m (mv x0)) (h4 : sel km m = some mc)
    (round : ∀ x, Q x → V C c (thenK (fun s' => ∃ x', Q x' ∧ μ x' < μ x ∧ Le s' (mk (lv x' ++ lc) (mv x' ++ mc) (gv x') (gbv x') (ddv x'))) K) (mk (lv x ++ lc) (mv x ++ mc) (gv x) (gbv x) (ddv x))) : V C (.loop c) K (mk l m g gb dd) :=
  v_loopT (fun x => mk (lv x ++ lc) (mv x ++ mc) (gv x) (gbv x) (ddv x)) Q μ x0 h0 (by subst hg hgb hdd; exact le_app h1 kl h2 h3 km h4) round
theorem o_idxArr {k : IntKind} {q : Int} {mm : Nat} {zs cs c : List Value} (j : Nat) [ht : TArr C.P T E n mm zs] [hte : TAgg C.P E n] (h : ev C s x = some (.agg cs.toArray)) (h2 : ev C s z = some (.int k q)) (hj : q = ((j : Nat) : Int)) (hlt : j < mm) (hc : List.take n (List.drop (j * n) cs) = c) :
    OpV C s ⟨d, .index T x z, ty, pos, aft, gd⟩ [] (.agg c.toArray) := opv _ _ (by simp) fun ρ w hr => by
  have hx := rd1 hr (x := x) (by simp [Op.operands]) h
  have hz := rd1 hr (x := z) (by simp [Op.operands]) h2
  subst hj
  have h1 : (j : Int) < mm := by omega
  have h0 : (0 : Int) ≤ (j : Int) := by omega
  have hag := hte.isAgg w
  simp [execOp, hx, hz, Instr.index, asIntOf, Sem.run_bind, run_underlying ht.u, hlt, ht.sz, Result.andThen, part, hag, hc]
/-- in a round: what a call of the outer yield leaves -/
theorem yield_round {W : World} {lp : Nat} {R : Obj} {O : Nat → Prop} {w w' : World} (hg : gR W lp R w) (hO : ¬ O lp) (hc : Chg O w w') : w'.heap[lp]? = some R ∧ Chg (fun b => O b ∨ b = lp) W w' :=
  ⟨(hc.block lp (Array.getElem?_eq_some_iff.1 hg.2).1 hO).trans hg.2, (hg.1.mono fun _ _ h => .inr h).trans (hc.mono fun _ _ h => .inl (.inl h))⟩
theorem round_keep {W : World} {lp : Nat} {R : Obj} {O : Nat → Prop} {w w' : World} (h : w.heap[lp]? = some R ∧ Chg (fun b => O b ∨ b = lp) W w) (hc : Chg (fun _ => False) w w') : w'.heap[lp]? = some R ∧ Chg (fun b => O b ∨ b = lp) W w' :=
  ⟨(hc.block lp (Array.getElem?_eq_some_iff.1 h.1).1 fun h => h).trans h.1, h.2.trans (hc.mono fun _ _ h => h.elim)⟩
end Go.Proofs.Ytpgjbalnipinoaa

/- What is said of blocks that a call has made, held as the code's own. Conditions: none. -/
namespace Go.Proofs.Ytpgjbalnipinoaa
open Go.Proofs Go.RowKit Go
variable {C : Cx} {K : Exit → St → Prop} {ops : Array Oper} {rest : List Oper} {l l' : List (Nat × Value)} {m m' : List (Nat × Hp)} {g : World → Prop} {gb : Nat → Prop} {dd : List Nat}
  {i f : Nat} {d : Option Nat} {op : Op} {ty : TypeId} {pos : String} {aft : Array Edge} {gd : Option (Nat × Bool)} {ks : List Nat} {s : St} {a : Act} {w w' : World} {cal : Operand} {as_ : Array Operand} {ts : Array TypeId} {vs : List Value}
theorem lk_cons_same {α : Type} (k : Nat) (x : α) (r : List (Nat × α)) : lk ((k, x) :: r) k = some x := by
  have : Nat.beq k k = true := Nat.beq_refl k
  simp [lk, this]
theorem lk_cons_other {α : Type} {k j : Nat} (h : j ≠ k) (x : α) (r : List (Nat × α)) : lk ((k, x) :: r) j = lk r j := by
  have : Nat.beq j k = false := by
    cases hb : Nat.beq j k
    · rfl
    · exact absurd (Nat.eq_of_beq_eq_true hb) h
  simp [lk, this]
theorem l_hsaid {α : Type} (X : α → Value) (Φ : α → World → Prop) (B : α → Nat → Prop) (hw : wantS C (mk l m g gb dd) ops ⟨some i, .call { callee := .value cal, args := as_, argTypes := ts }, ty, pos, aft, gd⟩ = some true) {caps : Array Value} (hcal : ev C (mk l m g gb dd) cal = some (.func (.func f) #[] caps)) (hent : ∀ args w, (callFunc f args).run C.P w = .ok (.enter f args) w) (hargs : evs C (mk l m g gb dd) as_.toList = some vs)
    (hst : ∀ x w1 w2, Φ x w1 → (∀ b, B x b → w2.heap[b]? = w1.heap[b]?) → Φ x w2) (hlt : ∀ x w1 b, Φ x w1 → B x b → ∃ o, w1.heap[b]? = some o ∧ o.isCells = true)
    (hc : ∀ w, g w → Held (mk l m g gb dd) ks w → Calls C.P f (vs.toArray ++ caps) w fun e w' => ∃ x, e = .returned (X x) ∧ Below w.heap.size w w' ∧ Φ x w' ∧ ∀ b, B x b → w.heap.size ≤ b)
    (next : ∀ x, VL C ops rest K (mk ((i, X x) :: l) ((i, .said (Φ x) (B x)) :: m) g gb dd)) : VL C ops (⟨some i, .call { callee := .value cal, args := as_, argTypes := ts }, ty, pos, aft, gd⟩ :: rest) K (mk l m g gb dd) :=
  vl_step hw fun a w hr => call_step (R := fun y w' => ∃ x, y = X x ∧ Below w.heap.size w w' ∧ Φ x w' ∧ ∀ b, B x b → w.heap.size ≤ b) hr hcal hent hargs ((hc w hr.gh (held_of hr ks)).mono fun e w' ⟨x, h1, h2⟩ => ⟨X x, h1, x, rfl, h2⟩) fun y w' ⟨x, h0, h1, h2, h3⟩ =>
    ⟨mk ((i, X x) :: l) ((i, .said (Φ x) (B x)) :: m) g gb dd, by subst h0; rw [← mk_put]; exact rep_put (rep_newOwn hr h1 (h1 := .said (Φ x) (B x)) ⟨h2, fun b hb => hlt x w' b h2 hb, hst x⟩ (fun b hb => h3 b hb) i) (some i) _, next x⟩
/-- nothing is said of no blocks -/
theorem rep_join (hr : Rep C (mk l m g gb dd) a w) (k1 k2 : Nat) {G1 G2 : World → Prop} {B1 B2 : Nat → Prop} (h1 : lk m k1 = some (.said G1 B1)) (h2 : lk m k2 = some (.said G2 B2)) (keep : List Nat) (hs : sel keep m = some m') (hk1 : keep.contains k1 = false) (hk2 : keep.contains k2 = false) :
    Rep C (mk l ((k1, .said (fun w => G1 w ∧ G2 w) (fun b => B1 b ∨ B2 b)) :: m') g gb dd) a w := by
  have a1 := hr.mo k1 _ h1
  have a2 := hr.mo k2 _ h2
  have key : ∀ k h, lk ((k1, Hp.said (fun w => G1 w ∧ G2 w) (fun b => B1 b ∨ B2 b)) :: m') k = some h → (k = k1 ∧ h = .said (fun w => G1 w ∧ G2 w) (fun b => B1 b ∨ B2 b)) ∨ (k ≠ k1 ∧ k ≠ k2 ∧ lk m k = some h) := fun k h hk => by
    by_cases e : k = k1
    · subst e
      rw [lk_cons_same] at hk
      exact .inl ⟨rfl, (Option.some.inj hk).symm⟩
    · rw [lk_cons_other e] at hk
      have hc := sel_key keep _ hs _ _ hk
      refine .inr ⟨e, fun e2 => ?_, sel_ok keep _ hs _ _ hk⟩
      subst e2
      simp at hk2; exact hk2 hc
  refine ⟨hr.dfs, hr.dd, hr.dg, hr.dn, hr.sz, hr.tm, fun k h hk => ?_, fun k k' h h' b hk hk' e e' => ?_, hr.gh, fun b hb => ⟨(hr.gd b hb).1, fun k h hk e => ?_⟩, hr.st, hr.fr, hr.ko⟩
  · rcases key k h hk with ⟨rfl, rfl⟩ | ⟨_, _, h0⟩
    · exact ⟨⟨⟨a1.1.1, a2.1.1⟩, fun b hb => hb.elim (a1.1.2.1 b) (a2.1.2.1 b), fun w1 w2 hg hb => ⟨a1.1.2.2 w1 w2 hg.1 fun b h => hb b (.inl h), a2.1.2.2 w1 w2 hg.2 fun b h => hb b (.inr h)⟩⟩, fun b hb => hb.elim (a1.2 b) (a2.2 b)⟩
    · exact hr.mo k h h0
  · rcases key k h hk with ⟨rfl, rfl⟩ | ⟨n1, n2, h0⟩ <;> rcases key k' h' hk' with ⟨rfl, rfl⟩ | ⟨n1', n2', h0'⟩
    · rfl
    · rcases e with e | e
      · exact hr.inj _ _ _ _ b h1 h0' e e'
      · exact absurd (hr.inj _ _ _ _ b h2 h0' e e').symm n2'
    · rcases e' with e' | e'
      · exact hr.inj _ _ _ _ b h0 h1 e e'
      · exact absurd (hr.inj _ _ _ _ b h0 h2 e e') n2
    · exact hr.inj _ _ _ _ b h0 h0' e e'
  · rcases key k h hk with ⟨rfl, rfl⟩ | ⟨_, _, h0⟩
    · rcases e with e | e
      · exact (hr.gd b hb).2 _ _ h1 e
      · exact (hr.gd b hb).2 _ _ h2 e
    · exact (hr.gd b hb).2 k h h0 e
theorem l_join (k1 k2 : Nat) {G1 G2 : World → Prop} {B1 B2 : Nat → Prop} (h1 : lk m k1 = some (.said G1 B1)) (h2 : lk m k2 = some (.said G2 B2)) (keep : List Nat) (hs : sel keep m = some m') (hk1 : keep.contains k1 = false) (hk2 : keep.contains k2 = false)
    (next : VL C ops rest K (mk l ((k1, .said (fun w => G1 w ∧ G2 w) (fun b => B1 b ∨ B2 b)) :: m') g gb dd)) : VL C ops rest K (mk l m g gb dd) := fun a w hr => next a w (rep_join hr k1 k2 h1 h2 keep hs hk1 hk2)
/-- of no block: what holds at all times -/
theorem l_said0 (k : Nat) (hk : lk m k = none) (next : VL C ops rest K (mk l ((k, .said (fun _ => True) (fun _ => False)) :: m) g gb dd)) : VL C ops rest K (mk l m g gb dd) := fun a w hr => next a w (by
  have key : ∀ k' h, lk ((k, Hp.said (fun _ => True) (fun _ => False)) :: m) k' = some h → (k' = k ∧ h = .said (fun _ => True) (fun _ => False)) ∨ lk m k' = some h := fun k' h hk' => by
    by_cases e : k' = k
    · subst e
      rw [lk_cons_same] at hk'
      exact .inl ⟨rfl, (Option.some.inj hk').symm⟩
    · rw [lk_cons_other e] at hk'; exact .inr hk'
  refine ⟨hr.dfs, hr.dd, hr.dg, hr.dn, hr.sz, hr.tm, fun k h hk => ?_, fun k k' h h' b hk hk' e e' => ?_, hr.gh, fun b hb => ⟨(hr.gd b hb).1, fun k h hk e => ?_⟩, hr.st, hr.fr, hr.ko⟩
  · rcases key k h hk with ⟨rfl, rfl⟩ | h0
    · exact ⟨⟨trivial, fun b hb => hb.elim, fun _ _ _ _ => trivial⟩, fun b hb => hb.elim⟩
    · exact hr.mo k h h0
  · rcases key k h hk with ⟨rfl, rfl⟩ | h0
    · exact e.elim
    · rcases key k' h' hk' with ⟨rfl, rfl⟩ | h0'
      · exact e'.elim
      · exact hr.inj _ _ _ _ b h0 h0' e e'
  · rcases key k h hk with ⟨rfl, rfl⟩ | h0
    · exact e
    · exact (hr.gd b hb).2 k h h0 e)
/-- as v_range2; what the iterator has caught may be said of blocks of ours -/
theorem v_range3 {α τ : Type} {fo : Operand} {ps : Array Tmp} {assign body : Code} {gf : Nat} {lb : Array Value} {encs : α → List Value} {xs : List α} {G : World → Prop} (hro : C.ro = none) (hn3 : C.n = 3)
    (hf : ev C (mk l m g gb dd) fo = some (.func (.func gf) #[] lb)) (hent : ∀ args w, (callFunc gf args).run C.P w = .ok (.enter gf args) w) (hit : Iter2 C.P gf lb encs xs G) (hps : ∀ x, (encs x).length = ps.size)
    (Mt : τ → List (Nat × Hp)) (hG : ∀ t W, g W → Held (mk l (Mt t) g gb dd) ks W → G W) (Q : Nat → τ → Prop) (t0 : τ) (h0 : Q 0 t0) (km : List Nat) (hm0 : sel km m = some (Mt t0))
    (round : ∀ k x t lp W1 Wa, xs[k]? = some x → Q k t → V ⟨C.P, W1, C.N, 2, some lp, Wa, True⟩ assign (fun e s1 => e = .normal ∧ s1.g = g ∧ s1.gb = gb ∧ s1.d = [] ∧
      ∀ W2 Wb, V ⟨C.P, W2, C.N, 2, some lp, Wb, True⟩ body (fun e s2 => e = .normal ∧ ∃ t', Q (k + 1) t' ∧ Le s2 (mk [] (Mt t') g gb [])) s1) (mk (zipR ps.toList (encs x) l) (Mt t) g gb []))
    (next : ∀ t D, Q xs.length t → K .normal (mk l (Mt t) g gb (D :: dd))) : V C (.rangeFunc fo ps assign body) K (mk l m g gb dd) := by
  intro a w hr
  have hF : C.F = Fence.wide := by unfold Cx.F; rw [hro]
  refine wpIn_rangeFunc ?_
  intro fn hfn
  rw [C.rnd, hro]
  obtain ⟨rec, hrec⟩ : ∃ rec : LoopState → Option Code → Loop, rec = fun st pe => { state := st, pending := pe, fn, tmps := a.tmps, params := ps, assign, body, defers := w.heap.size } := ⟨_, rfl⟩
  obtain ⟨W1, hW1⟩ : ∃ W1, (w.alloc (.deferred (some []))).alloc (.loop (rec .ready none)) = W1 := ⟨_, rfl⟩
  have hL1 : W1.heap[w.heap.size + 1]? = some (.loop (rec .ready none)) := by
    rw [← hW1]; have := World.alloc_heap_new (w.alloc (.deferred (some []))) (.loop (rec .ready none)); rwa [World.size_alloc] at this
  have hK1 : W1.heap[w.heap.size]? = some (.deferred (some [])) := by
    rw [← hW1]; exact (Below.heap_alloc _ _ _ (by simp)).trans (World.alloc_heap_new w _)
  have hb1 : Below w.heap.size w W1 := by
    rw [← hW1]; exact ((Below.refl _ w).alloc (Nat.le_refl _) _).alloc (by simp) _
  have hs1 : W1.heap.size = w.heap.size + 2 := by rw [← hW1]; simp
  have hsz1 := hr.fr.size
  have hlp : C.w0.heap.size ≤ w.heap.size + 1 := by omega
  have hgbl : ¬ gb (w.heap.size + 1) := fun h => by have := (hr.gd _ h).1; omega
  have hddl : ∀ D ∈ dd, D < w.heap.size := fun D hD => (Array.getElem?_eq_some_iff.1 (hr.dd D hD)).1
  have hdl : w.heap.size + 1 ∉ w.heap.size :: dd := fun h => by
    rcases List.mem_cons.1 h with h | h
    · omega
    · have := hddl _ h; omega
  have hr1 : Rep C (mk l (Mt t0) g gb (w.heap.size :: dd)) { a with defers := mark w.heap.size :: a.defers } W1 := by
    have h1 := rep_le (rep_below hr hb1) (s' := mk l (Mt t0) g gb dd) ⟨fun _ _ h => h, sel_ok km _ hm0, rfl, rfl, rfl⟩
    refine ⟨?_, fun D hD => ?_, fun D hD => ?_, List.nodup_cons.2 ⟨fun h => by have := hddl _ h; omega, hr.dn⟩, h1.sz, h1.tm, h1.mo, h1.inj, h1.gh, h1.gd, h1.st, h1.fr, h1.ko⟩
    · show mark w.heap.size :: a.defers = mark w.heap.size :: List.map mark dd
      rw [hr.dfs]; rfl
    · rcases List.mem_cons.1 hD with h | h
      · subst h; exact hK1
      · exact h1.dd D h
    · rcases List.mem_cons.1 hD with h | h
      · subst h; exact ⟨hsz1, fun h => by have := (hr.gd _ h).1; omega⟩
      · exact h1.dg D h
  refine ⟨w.heap.size + 1, [mark w.heap.size], W1, { target := .fn (.func gf) lb, args := #[.func (.yield (w.heap.size + 1)) #[] #[]] }, W1, gf,
    #[.func (.yield (w.heap.size + 1)) #[] #[]] ++ lb, W1, ?_, ?_, ?_, ?_, fun _ => by omega, ?_⟩
  · rw [← hW1, hrec]; exact run_enterLoop_outer _ _ _ _ _
  · simp only [resolve, ev_ok hr hf]
    simp [go_sem]
  · intro f' _; exact C.all f'
  · simp [invoke, go_sem, hent]
  · have main := hit (w.heap.size + 1) (fun k O W => ∃ t, Q k t ∧ Rep C (mk l (Mt t) g gb (w.heap.size :: dd)) { a with defers := mark w.heap.size :: a.defers } W ∧ W.heap[w.heap.size + 1]? = some (.loop (rec .ready none)) ∧ ∀ b, O b ↔ (b = w.heap.size + 1 ∨ ∃ j h, lk (Mt t) j = some h ∧ h.has b))
      (fun _ _ => False) (fun b => b = w.heap.size + 1 ∨ ∃ j h, lk (Mt t0) j = some h ∧ h.has b) W1
      (fun k O W W' ⟨t, h1, h2, h3, h4⟩ hc => ⟨t, h1, rep_far h2 _ hc (fun j h b hj hb hs => hs.2 ((h4 b).2 (.inr ⟨j, h, hj, hb⟩))) (fun b hb hs => by have := (hr.gd b hb).1; omega) (fun D hD hs => by
          rcases List.mem_cons.1 hD with h | h
          · omega
          · have := hddl _ h; omega) (fun b hs => by omega), (hc.block _ (Array.getElem?_eq_some_iff.1 h3).1 (fun hs => hs.2 ((h4 _).2 (.inl rfl)))).trans h3, h4⟩)
      (fun _ _ _ h _ => h)
      (fun k O W ⟨t, h1, h2, h3, h4⟩ => ⟨hG t W h2.gh (fun j _ h hj => (h2.mo j h hj).1), fun b hb => by
        rcases (h4 b).1 hb with h | ⟨j, h, hj, hb⟩
        · subst h; exact (Array.getElem?_eq_some_iff.1 h3).1
        · exact Hp.lt (h2.mo j h hj).1 hb⟩)
      ?_ ⟨t0, h0, hr1, hL1, fun _ => Iff.rfl⟩
    · rw [hF, hn3]
      refine callsIn_wide.2 (main.mono ?_)
      rintro e W2 ⟨⟨v, rfl⟩, ⟨O', t, hQ, hrep, hl, _⟩ | ⟨_, h⟩⟩
      · refine ⟨none, _, by have := run_endLoop (P := C.P) hl (by rw [hrec]; simp); rw [hrec] at this; exact this, ⟨_, rep_obj hrep _ hl rfl hlp hgbl hdl, next t _ hQ⟩⟩
      · exact h.elim
    · rintro k x O W hx ⟨t, hQ, hrep, hl, hO⟩
      have hy := run_yield (P := C.P) (args := (encs x).toArray) hl (by rw [hrec]; simpa using hps x)
      rw [hrec] at hy
      refine ⟨fn, _, assign, body, hy, roundIn_of_wpIn (F := Fence.wide) (n := 2) (by trivial) ?_⟩
      clear hy
      have hz := rep_zip (C := ⟨C.P, W, C.N, 2, some (w.heap.size + 1), fun b => ∃ j h, lk (Mt t) j = some h ∧ h.has b, True⟩) ps.toList (encs x) l a.tmps [] (rep_cx hrep 2 (some (w.heap.size + 1)) _ (fun j h b hj hb => ⟨j, h, hj, hb⟩))
      have hOt : ∀ b, (∃ j h, lk (Mt t) j = some h ∧ h.has b) → C.own b := fun b ⟨j, h, hj, hb⟩ => (hrep.mo j h hj).2 b hb
      have hszW := hrep.fr.size
      have htm : (ps.zip (encs x).toArray).foldl (fun t (p : Nat × Value) => t.setIfInBounds p.1 p.2) a.tmps = (ps.toList.zip (encs x)).foldl (fun t p => t.setIfInBounds p.1 p.2) a.tmps := by
        rw [← Array.foldl_toList, Array.toList_zip]
      have h1 := round k x t (w.heap.size + 1) W _ hx hQ _ W hz
      refine wpIn_mono (a := { tmps := (ps.zip (encs x).toArray).foldl (fun t (p : Nat × Value) => t.setIfInBounds p.1 p.2) a.tmps, defers := [] }) (by rw [htm]; exact h1) ?_
      rintro e a1 w1 ⟨s1, hr1', rfl, hsg, hsgb, hsd, hbody⟩
      have hl1 : w1.heap[w.heap.size + 1]? = some (.loop (rec .ready none)) := (hr1'.ko trivial).same _ _ hl rfl
      refine ⟨_, run_beginRound hl1 (by rw [hrec]), ?_⟩
      have ho1 := rep_back hrep hr1' hOt hsg hsgb [] (fun _ _ h => by cases h)
      have ho2 := rep_obj ho1 (.loop { rec .ready none with state := .busy }) hl1 rfl hlp hgbl hdl
      have hl2 : (w1.putObj (w.heap.size + 1) (.loop { rec .ready none with state := .busy })).heap[w.heap.size + 1]? = some (.loop { rec .ready none with state := .busy }) := World.putObj_heap_same (Array.getElem?_eq_some_iff.1 hl1).1
      generalize hW2 : w1.putObj (w.heap.size + 1) (.loop { rec .ready none with state := .busy }) = W2 at ho2 hl2 ⊢
      have hr2 : Rep ⟨C.P, W2, C.N, 2, some (w.heap.size + 1), fun b => W.heap.size ≤ b ∨ ∃ j h, lk (Mt t) j = some h ∧ h.has b, True⟩ s1 a1 W2 := by
        have h2 := rep_obj2 hr1' (.loop { rec .ready none with state := .busy }) hl1 rfl (by rw [hsgb]; exact hgbl) hsd (fun b => W.heap.size ≤ b ∨ ∃ j h, lk (Mt t) j = some h ∧ h.has b) (fun b hb => hb)
        rw [hW2] at h2
        exact h2
      have hcw2 : Chg (fun b => b = w.heap.size + 1) w1 W2 := by
        rw [← hW2]; exact Chg.putObj _ _ _
      have hWb : ∀ b, (W.heap.size ≤ b ∨ ∃ j h, lk (Mt t) j = some h ∧ h.has b) → C.own b := fun b hb => by
        rcases hb with h | h
        · exact .inl (Nat.le_trans hszW h)
        · exact hOt b h
      refine wpIn_mono (hbody W2 _ a1 W2 hr2) ?_
      rintro e a3 w3 ⟨s3, hr3, rfl, t', hQ', hle⟩
      have hl3 : w3.heap[w.heap.size + 1]? = some (.loop { rec .ready none with state := .busy }) := (hr3.ko trivial).same _ _ hl2 rfl
      have ho3 := rep_back ho2 hr3 hWb hle.g.symm hle.gb.symm (Mt t') hle.m
      have ho4 := rep_obj ho3 (.loop (rec .ready none)) hl3 rfl hlp hgbl hdl
      have hend := run_endRound (P := C.P) none hl3
      rw [hrec] at hend
      refine ⟨_, _, hend, .inl ⟨rfl, ?_, _, ⟨t', hQ', by rw [hrec] at ho4; exact ho4, by rw [hrec]; exact World.putObj_heap_same (Array.getElem?_eq_some_iff.1 hl3).1, fun _ => Iff.rfl⟩, fun b hb => ?_⟩⟩
      · refine Chg.trans (b := w1) (hr1'.fr.mono fun k _ h => (hO k).2 (.inr h)) (Chg.trans (b := W2) (hcw2.mono fun k _ h => .inl ((hO k).2 (.inl h))) (Chg.trans (b := w3) (hr3.fr.mono fun k _ h => ?_) ?_))
        · rcases h with h | h
          · exact .inl (.inr h)
          · exact .inl (.inl ((hO k).2 (.inr h)))
        · refine Chg.mono (S := fun b => b = w.heap.size + 1) (Chg.putObj _ _ _) fun k _ h => .inl (.inl (.inl ((hO k).2 (.inl h))))
      · rcases hb with h | ⟨j, h, hj, hb⟩
        · exact .inl ((hO b).2 (.inl h))
        · rcases (hr3.mo j h (hle.m j h hj)).2 b hb with h' | h' | h'
          · right
            have h1s : W.heap.size ≤ w1.heap.size := hr1'.fr.size
            have h2s : w1.heap.size ≤ W2.heap.size := hcw2.size
            have h3s : W2.heap.size ≤ b := h'
            omega
          · exact .inr h'
          · exact .inl ((hO b).2 (.inr h'))

end Go.Proofs.Ytpgjbalnipinoaa

/- The types of this program; numbers of 128 bits. Conditions: none. -/
namespace Go.Proofs.Ytpgjbalnipinoaa
open Go.Proofs Go.RowKit Go.Shelf

instance : TInt Try.prog 2 .i64 := ⟨by kernel_rfl⟩
instance : TOne Try.prog 2 := .of (by kernel_rfl) (by kernel_rfl)
instance : TZero Try.prog 2 [.int .i64 0] := .of (by kernel_rfl)
instance : TElem Try.prog 2 (.int .i64 0) 1 8 := .of (by kernel_rfl) rfl (by decide)
instance : TInt Try.prog 3 .i64 := ⟨by kernel_rfl⟩
instance : TOne Try.prog 3 := .of (by kernel_rfl) (by kernel_rfl)
instance : TZero Try.prog 3 [.int .i64 0] := .of (by kernel_rfl)
instance : TElem Try.prog 3 (.int .i64 0) 1 8 := .of (by kernel_rfl) rfl (by decide)
instance : TBool Try.prog 4 := ⟨by kernel_rfl⟩
instance : TOne Try.prog 4 := .of (by kernel_rfl) (by kernel_rfl)
instance : TZero Try.prog 4 [.bool false] := .of (by kernel_rfl)
instance : TElem Try.prog 4 (.bool false) 1 1 := .of (by kernel_rfl) rfl (by decide)
instance : TInt Try.prog 5 .u8 := ⟨by kernel_rfl⟩
instance : TOne Try.prog 5 := .of (by kernel_rfl) (by kernel_rfl)
instance : TZero Try.prog 5 [.int .u8 0] := .of (by kernel_rfl)
instance : TElem Try.prog 5 (.int .u8 0) 1 1 := .of (by kernel_rfl) rfl (by decide)
instance : TInt Try.prog 21 .i32 := ⟨by kernel_rfl⟩
instance : TOne Try.prog 21 := .of (by kernel_rfl) (by kernel_rfl)
instance : TZero Try.prog 21 [.int .i32 0] := .of (by kernel_rfl)
instance : TElem Try.prog 21 (.int .i32 0) 1 4 := .of (by kernel_rfl) rfl (by decide)
instance : TZero Try.prog 23 [.int .i64 0, .int .i64 0] := .of (by kernel_rfl)
instance : TElem Try.prog 23 (.agg #[.int .i64 0, .int .i64 0]) 2 16 := .of (by kernel_rfl) rfl (by decide)
instance : TAgg Try.prog 23 2 := .of (by kernel_rfl) (by kernel_rfl)
instance : TBuild Try.prog 23 [(0, 1), (1, 1)] [.int .i64 0, .int .i64 0] := .of (by kernel_rfl) (by kernel_rfl)
instance : TEqs Try.prog 23 2 := ⟨by kernel_rfl, by kernel_rfl, by kernel_rfl, by kernel_rfl⟩
instance : TFld Try.prog 23 0 0 := .of (by kernel_rfl)
instance : TFld Try.prog 23 1 1 := .of (by kernel_rfl)
instance : TOne Try.prog 26 := .of (by kernel_rfl) (by kernel_rfl)
instance : TZero Try.prog 26 [.slice none 0 0] := .of (by kernel_rfl)
instance : TElem Try.prog 26 (.slice none 0 0) 1 24 := .of (by kernel_rfl) rfl (by decide)
instance : TSl Try.prog 26 32 1 := .of (by kernel_rfl) (by kernel_rfl) (by decide)
instance : TOne Try.prog 31 := .of (by kernel_rfl) (by kernel_rfl)
instance : TZero Try.prog 31 [.slice none 0 0] := .of (by kernel_rfl)
instance : TElem Try.prog 31 (.slice none 0 0) 1 24 := .of (by kernel_rfl) rfl (by decide)
instance : TSl Try.prog 31 23 2 := .of (by kernel_rfl) (by kernel_rfl) (by decide)
instance : TOne Try.prog 32 := .of (by kernel_rfl) (by kernel_rfl)
instance : TZero Try.prog 32 [.slice none 0 0] := .of (by kernel_rfl)
instance : TElem Try.prog 32 (.slice none 0 0) 1 24 := .of (by kernel_rfl) rfl (by decide)
instance : TSl Try.prog 32 23 2 := .of (by kernel_rfl) (by kernel_rfl) (by decide)
instance : TOne Try.prog 37 := .of (by kernel_rfl) (by kernel_rfl)
instance : TZero Try.prog 37 [.slice none 0 0] := .of (by kernel_rfl)
instance : TElem Try.prog 37 (.slice none 0 0) 1 24 := .of (by kernel_rfl) rfl (by decide)
instance : TSl Try.prog 37 23 2 := .of (by kernel_rfl) (by kernel_rfl) (by decide)
instance : TInt Try.prog 40 .u16 := ⟨by kernel_rfl⟩
instance : TOne Try.prog 40 := .of (by kernel_rfl) (by kernel_rfl)
instance : TZero Try.prog 40 [.int .u16 0] := .of (by kernel_rfl)
instance : TElem Try.prog 40 (.int .u16 0) 1 2 := .of (by kernel_rfl) rfl (by decide)
instance : TOne Try.prog 50 := .of (by kernel_rfl) (by kernel_rfl)
instance : TZero Try.prog 50 [.slice none 0 0] := .of (by kernel_rfl)
instance : TElem Try.prog 50 (.slice none 0 0) 1 24 := .of (by kernel_rfl) rfl (by decide)
instance : TSl Try.prog 50 37 1 := .of (by kernel_rfl) (by kernel_rfl) (by decide)
instance : TInt Try.prog 65 .i64 := ⟨by kernel_rfl⟩
instance : TOne Try.prog 65 := .of (by kernel_rfl) (by kernel_rfl)
instance : TZero Try.prog 65 [.int .i64 0] := .of (by kernel_rfl)
instance : TElem Try.prog 65 (.int .i64 0) 1 8 := .of (by kernel_rfl) rfl (by decide)
instance : TInt Try.prog 68 .u64 := ⟨by kernel_rfl⟩
instance : TOne Try.prog 68 := .of (by kernel_rfl) (by kernel_rfl)
instance : TZero Try.prog 68 [.int .u64 0] := .of (by kernel_rfl)
instance : TElem Try.prog 68 (.int .u64 0) 1 8 := .of (by kernel_rfl) rfl (by decide)
instance : TZero Try.prog 88 [.int .i64 0, .int .u64 0] := .of (by kernel_rfl)
instance : TElem Try.prog 88 (.agg #[.int .i64 0, .int .u64 0]) 2 16 := .of (by kernel_rfl) rfl (by decide)
instance : TAgg Try.prog 88 2 := .of (by kernel_rfl) (by kernel_rfl)
instance : TBuild Try.prog 88 [(0, 1), (1, 1)] [.int .i64 0, .int .u64 0] := .of (by kernel_rfl) (by kernel_rfl)
instance : TEqs Try.prog 88 2 := ⟨by kernel_rfl, by kernel_rfl, by kernel_rfl, by kernel_rfl⟩
instance : TFld Try.prog 88 0 0 := .of (by kernel_rfl)
instance : TFld Try.prog 88 1 1 := .of (by kernel_rfl)
instance : TZero Try.prog 102 [.int .i64 0, .int .u64 0] := .of (by kernel_rfl)
instance : TElem Try.prog 102 (.agg #[.int .i64 0, .int .u64 0]) 2 16 := .of (by kernel_rfl) rfl (by decide)
instance : TAgg Try.prog 102 2 := .of (by kernel_rfl) (by kernel_rfl)
instance : TBuild Try.prog 102 [(0, 1), (1, 1)] [.int .i64 0, .int .u64 0] := .of (by kernel_rfl) (by kernel_rfl)
instance : TEqs Try.prog 102 2 := ⟨by kernel_rfl, by kernel_rfl, by kernel_rfl, by kernel_rfl⟩
instance : TFld Try.prog 102 0 0 := .of (by kernel_rfl)
instance : TFld Try.prog 102 1 1 := .of (by kernel_rfl)
instance : TInt Try.prog 125 .u64 := ⟨by kernel_rfl⟩
instance : TOne Try.prog 125 := .of (by kernel_rfl) (by kernel_rfl)
instance : TZero Try.prog 125 [.int .u64 0] := .of (by kernel_rfl)
instance : TElem Try.prog 125 (.int .u64 0) 1 8 := .of (by kernel_rfl) rfl (by decide)
instance : TInt Try.prog 139 .u32 := ⟨by kernel_rfl⟩
instance : TOne Try.prog 139 := .of (by kernel_rfl) (by kernel_rfl)
instance : TZero Try.prog 139 [.int .u32 0] := .of (by kernel_rfl)
instance : TElem Try.prog 139 (.int .u32 0) 1 4 := .of (by kernel_rfl) rfl (by decide)
theorem mixed : Try.prog.follows .mixedOrders = true := by kernel_rfl
theorem mul_bound {x y A B : Int} (hx : -A ≤ x) (hx' : x ≤ A) (hy : -B ≤ y) (hy' : y ≤ B) : -(A * B) ≤ x * y ∧ x * y ≤ A * B := by
  have h1 := Int.mul_nonneg (show 0 ≤ A - x by omega) (show 0 ≤ B - y by omega)
  have h2 := Int.mul_nonneg (show 0 ≤ A + x by omega) (show 0 ≤ B + y by omega)
  have h3 := Int.mul_nonneg (show 0 ≤ A - x by omega) (show 0 ≤ B + y by omega)
  have h4 := Int.mul_nonneg (show 0 ≤ A + x by omega) (show 0 ≤ B - y by omega)
  simp only [Int.sub_mul, Int.mul_sub, Int.add_mul, Int.mul_add] at h1 h2 h3 h4
  omega
theorem mp_pp {x y : Int} (hx : 0 ≤ x) (hx' : x < 18446744073709551616) (hy : 0 ≤ y) (hy' : y < 18446744073709551616) : x % 18446744073709551616 * (y % 18446744073709551616) = x * y := by
  rw [Int.emod_eq_of_lt hx hx', Int.emod_eq_of_lt hy hy']
theorem mp_np {x y : Int} (hx : x < 0) (hx' : -18446744073709551616 ≤ x) (hy : 0 ≤ y) (hy' : y < 18446744073709551616) : x % 18446744073709551616 * (y % 18446744073709551616) = x * y + 18446744073709551616 * y := by
  rw [show x % 18446744073709551616 = x + 18446744073709551616 by omega, Int.emod_eq_of_lt hy hy', Int.add_mul]
theorem mp_pn {x y : Int} (hx : 0 ≤ x) (hx' : x < 18446744073709551616) (hy : y < 0) (hy' : -18446744073709551616 ≤ y) : x % 18446744073709551616 * (y % 18446744073709551616) = x * y + 18446744073709551616 * x := by
  rw [show y % 18446744073709551616 = y + 18446744073709551616 by omega, Int.emod_eq_of_lt hx hx', Int.mul_add]; omega
theorem mp_nn {x y : Int} (hx : x < 0) (hx' : -18446744073709551616 ≤ x) (hy : y < 0) (hy' : -18446744073709551616 ≤ y) : x % 18446744073709551616 * (y % 18446744073709551616) = x * y + 18446744073709551616 * x + 18446744073709551616 * y + 18446744073709551616 * 18446744073709551616 := by
  rw [show y % 18446744073709551616 = y + 18446744073709551616 by omega, show x % 18446744073709551616 = x + 18446744073709551616 by omega, Int.mul_add, Int.add_mul, Int.add_mul]; omega

/-- a number of 128 bits -/
def wideV (v : Int) : Value := .agg #[.int .i64 (v / 18446744073709551616), .int .u64 (v % 18446744073709551616)]
theorem wideV_eq {h l v : Int} (hl : 0 ≤ l) (hl' : l < 18446744073709551616) (hv : h * 18446744073709551616 + l = v) : wideV v = .agg #[.int .i64 h, .int .u64 l] := by
  subst hv
  simp only [wideV]
  congr <;> omega

def renM : Ren := ⟨fun _ => 104, fun | 46 => 125 | 53 => 68 | _ => 0, fun _ => 0⟩
theorem laysM : Lays.n264 Try.prog renM where
  mixed := by kernel_rfl
  f264 := by kernel_rfl
  t46 := by kernel_rfl
  a46 := fun w => by kernel_rfl
  z46 := fun w => by kernel_rfl
  v46 := fun w => by kernel_rfl
  t53 := by kernel_rfl
  a53 := fun w => by kernel_rfl
  z53 := fun w => by kernel_rfl
  v53 := fun w => by kernel_rfl
def renA : Ren := ⟨fun | 25 => 114 | _ => 103, fun _ => 68, fun _ => 0⟩
theorem laysA : Lays7.n25 Try.prog renA := ⟨by kernel_rfl, by kernel_rfl, by kernel_rfl, fun w => by kernel_rfl, fun w => by kernel_rfl, fun w => by kernel_rfl, by kernel_rfl⟩
theorem laysS : Lays7.n26 Try.prog renA := ⟨by kernel_rfl, by kernel_rfl, by kernel_rfl, fun w => by kernel_rfl, fun w => by kernel_rfl, fun w => by kernel_rfl, by kernel_rfl⟩
theorem a_Add64 (x y c : Int) (hx : 0 ≤ x ∧ x < 18446744073709551616) (hy : 0 ≤ y ∧ y < 18446744073709551616) (hc : 0 ≤ c ∧ c ≤ 1) :
    Ans Try.prog 114 [.int .u64 x, .int .u64 y, .int .u64 c] (.tuple #[.int .u64 ((x + y + c) % 18446744073709551616), .int .u64 ((x + y + c) / 18446744073709551616)]) := by
  obtain ⟨x, rfl⟩ := Int.eq_ofNat_of_zero_le hx.1
  obtain ⟨y, rfl⟩ := Int.eq_ofNat_of_zero_le hy.1
  obtain ⟨c, rfl⟩ := Int.eq_ofNat_of_zero_le hc.1
  refine .inr fun w => ?_
  have h := Any7.bits_Add64 laysA x y c (by omega) w
  have e1 : (((x + y + c) % 18446744073709551616 : Nat) : Int) = ((x : Int) + y + c) % 18446744073709551616 := by omega
  have e2 : (((x + y + c) / 18446744073709551616 : Nat) : Int) = ((x : Int) + y + c) / 18446744073709551616 := by omega
  rw [e1, e2] at h
  exact h
theorem a_Sub64 (x y c : Int) (hx : 0 ≤ x ∧ x < 18446744073709551616) (hy : 0 ≤ y ∧ y < 18446744073709551616) (hc : 0 ≤ c ∧ c ≤ 1) :
    Ans Try.prog 103 [.int .u64 x, .int .u64 y, .int .u64 c] (.tuple #[.int .u64 ((x - y - c) % 18446744073709551616), .int .u64 (-((x - y - c) / 18446744073709551616))]) := by
  obtain ⟨x, rfl⟩ := Int.eq_ofNat_of_zero_le hx.1
  obtain ⟨y, rfl⟩ := Int.eq_ofNat_of_zero_le hy.1
  obtain ⟨c, rfl⟩ := Int.eq_ofNat_of_zero_le hc.1
  refine .inr fun w => ?_
  have h := Any7.bits_Sub64 laysS x y c (by omega) w
  have e1 : (((x + 18446744073709551616 - y - c) % 18446744073709551616 : Nat) : Int) = ((x : Int) - y - c) % 18446744073709551616 := by omega
  have e2 : (((if x < y + c then 1 else 0 : Nat)) : Int) = -(((x : Int) - y - c) / 18446744073709551616) := by split <;> omega
  rw [e1, e2] at h
  exact h
theorem a_Mul64 (x y : Int) (hx : 0 ≤ x ∧ x < 18446744073709551616) (hy : 0 ≤ y ∧ y < 18446744073709551616) :
    Ans Try.prog 104 [.int .u64 x, .int .u64 y] (.tuple #[.int .u64 (x * y / 18446744073709551616), .int .u64 (x * y % 18446744073709551616)]) := by
  obtain ⟨x, rfl⟩ := Int.eq_ofNat_of_zero_le hx.1
  obtain ⟨y, rfl⟩ := Int.eq_ofNat_of_zero_le hy.1
  refine .inl ⟨ent_of Try.func104 rfl rfl, fun w => (Any.bits_Mul64 laysM x y (by omega) (by omega) w).mono ?_⟩
  rintro e w' ⟨rfl, rfl⟩
  refine ⟨?_, Below.refl _ _⟩
  have e1 : ((x * y / 18446744073709551616 : Nat) : Int) = (x : Int) * y / 18446744073709551616 := by omega
  have e2 : ((x * y % 18446744073709551616 : Nat) : Int) = (x : Int) * y % 18446744073709551616 := by omega
  rw [e1, e2]

end Go.Proofs.Ytpgjbalnipinoaa

/- The numbers of 128 bits: what the functions answer. Conditions: none. -/
namespace Go.Proofs.Ytpgjbalnipinoaa
open Go.Proofs Go.RowKit Go.Shelf

theorem a_Of (y : Int) (hy : -9223372036854775808 ≤ y ∧ y < 9223372036854775808) : Ans Try.prog 112 [.int .i64 y] (wideV y) := by
  refine ans_of Try.func112 rfl Try.ntmps112 Try.results112 rfl rfl fun w => ?_
  refine v_seq ?_
  refine v_region ?_
  refine l_new rfl o_alloc fun b2 => ?_
  refine l_nil ?_
  refine kt_norm ?_
  refine v_seq ?_
  refine v_region ?_
  refine l_val rfl (o_move rfl) ?_
  refine l_val rfl (o_shr (n := 63) (p := 9223372036854775808) rfl rfl (by decide) rfl (by decide)) ?_
  refine l_val rfl (o_move rfl) ?_
  refine l_val rfl (o_convu rfl) ?_
  refine l_val rfl (o_build (vs := [_, _]) (cs := [_, _]) rfl rfl) ?_
  refine l_store rfl (o_storeW (key := 2) (xs := [_, _]) rfl rfl rfl rfl rfl rfl rfl) ?_
  refine l_nil ?_
  refine kt_norm ?_
  refine v_sel [2] [2] rfl rfl ?_
  refine v_ret ?_
  refine ⟨[_], .cons (.cellW (key := 2) rfl rfl rfl) (ResAll.nil), ?_⟩
  exact (wideV_eq (by omega) (by omega) (by omega)).symm
theorem a_Add (x y : Int) (hx : -85070591730234615865843651857942052864 ≤ x ∧ x < 85070591730234615865843651857942052864) (hy : -85070591730234615865843651857942052864 ≤ y ∧ y < 85070591730234615865843651857942052864) : Ans Try.prog 111 [wideV x, wideV y] (wideV (x + y)) := by
  refine ans_of Try.func111 rfl Try.ntmps111 Try.results111 rfl rfl fun w => ?_
  refine v_seq ?_
  refine v_region ?_
  refine l_new rfl (o_box (cs := [_, _]) rfl rfl) fun b2 => ?_
  refine l_new rfl (o_box (cs := [_, _]) rfl rfl) fun b3 => ?_
  refine l_new rfl o_alloc fun b4 => ?_
  refine l_nil ?_
  refine kt_norm ?_
  refine v_seq ?_
  refine v_region ?_
  refine l_val rfl (o_fld rfl) ?_
  refine l_val rfl (o_load1 (key := 2) rfl rfl rfl) ?_
  refine l_val rfl (o_fld rfl) ?_
  refine l_val rfl (o_load1 (key := 3) rfl rfl rfl) ?_
  refine l_ans (vs := [_, _, _]) rfl rfl (a_Add64 _ _ _ ?_ ?_ ?_) ?_
  · omega
  · omega
  · omega
  refine l_val rfl (o_move rfl) ?_
  refine l_val rfl (o_extract rfl rfl) ?_
  refine l_val rfl (o_extract rfl rfl) ?_
  refine l_val rfl (o_assign rfl) ?_
  refine l_val rfl (o_assign rfl) ?_
  refine l_nil ?_
  refine kt_norm ?_
  refine v_sel [2, 3, 4, 5, 6] [2, 3, 4] rfl rfl ?_
  refine v_seq ?_
  refine v_region ?_
  refine l_val rfl (o_fld rfl) ?_
  refine l_val rfl (o_load1 (key := 2) rfl rfl rfl) ?_
  refine l_val rfl (o_convu rfl) ?_
  refine l_val rfl (o_fld rfl) ?_
  refine l_val rfl (o_load1 (key := 3) rfl rfl rfl) ?_
  refine l_val rfl (o_convu rfl) ?_
  refine l_val rfl (o_move rfl) ?_
  refine l_ans (vs := [_, _, _]) rfl rfl (a_Add64 _ _ _ ?_ ?_ ?_) ?_
  · omega
  · omega
  · omega
  refine l_val rfl (o_move rfl) ?_
  refine l_val rfl (o_extract rfl rfl) ?_
  refine l_val rfl (o_extract rfl rfl) ?_
  refine l_val rfl (o_assign rfl) ?_
  refine l_val rfl (o_assign rfl) ?_
  refine l_nil ?_
  refine kt_norm ?_
  refine v_sel [4, 5, 7] [4] rfl rfl ?_
  refine v_seq ?_
  refine v_region ?_
  refine l_val rfl (o_move rfl) ?_
  refine l_val rfl (o_convm rfl) ?_
  refine l_val rfl (o_move rfl) ?_
  refine l_val rfl (o_build (vs := [_, _]) (cs := [_, _]) rfl rfl) ?_
  refine l_store rfl (o_storeW (key := 4) (xs := [_, _]) rfl rfl rfl rfl rfl rfl rfl) ?_
  refine l_nil ?_
  refine kt_norm ?_
  refine v_sel [4] [4] rfl rfl ?_
  refine v_ret ?_
  refine ⟨[_], .cons (.cellW (key := 4) rfl rfl rfl) (ResAll.nil), ?_⟩
  exact (wideV_eq (by omega) (by omega) (by omega)).symm
theorem a_Sub (x y : Int) (hx : -85070591730234615865843651857942052864 ≤ x ∧ x < 85070591730234615865843651857942052864) (hy : -85070591730234615865843651857942052864 ≤ y ∧ y < 85070591730234615865843651857942052864) : Ans Try.prog 96 [wideV x, wideV y] (wideV (x - y)) := by
  refine ans_of Try.func96 rfl Try.ntmps96 Try.results96 rfl rfl fun w => ?_
  refine v_seq ?_
  refine v_region ?_
  refine l_new rfl (o_box (cs := [_, _]) rfl rfl) fun b2 => ?_
  refine l_new rfl (o_box (cs := [_, _]) rfl rfl) fun b3 => ?_
  refine l_new rfl o_alloc fun b4 => ?_
  refine l_nil ?_
  refine kt_norm ?_
  refine v_seq ?_
  refine v_region ?_
  refine l_val rfl (o_fld rfl) ?_
  refine l_val rfl (o_load1 (key := 2) rfl rfl rfl) ?_
  refine l_val rfl (o_fld rfl) ?_
  refine l_val rfl (o_load1 (key := 3) rfl rfl rfl) ?_
  refine l_ans (vs := [_, _, _]) rfl rfl (a_Sub64 _ _ _ ?_ ?_ ?_) ?_
  · omega
  · omega
  · omega
  refine l_val rfl (o_move rfl) ?_
  refine l_val rfl (o_extract rfl rfl) ?_
  refine l_val rfl (o_extract rfl rfl) ?_
  refine l_val rfl (o_assign rfl) ?_
  refine l_val rfl (o_assign rfl) ?_
  refine l_nil ?_
  refine kt_norm ?_
  refine v_sel [2, 3, 4, 5, 6] [2, 3, 4] rfl rfl ?_
  refine v_seq ?_
  refine v_region ?_
  refine l_val rfl (o_fld rfl) ?_
  refine l_val rfl (o_load1 (key := 2) rfl rfl rfl) ?_
  refine l_val rfl (o_convu rfl) ?_
  refine l_val rfl (o_fld rfl) ?_
  refine l_val rfl (o_load1 (key := 3) rfl rfl rfl) ?_
  refine l_val rfl (o_convu rfl) ?_
  refine l_val rfl (o_move rfl) ?_
  refine l_ans (vs := [_, _, _]) rfl rfl (a_Sub64 _ _ _ ?_ ?_ ?_) ?_
  · omega
  · omega
  · omega
  refine l_val rfl (o_move rfl) ?_
  refine l_val rfl (o_extract rfl rfl) ?_
  refine l_val rfl (o_extract rfl rfl) ?_
  refine l_val rfl (o_assign rfl) ?_
  refine l_val rfl (o_assign rfl) ?_
  refine l_nil ?_
  refine kt_norm ?_
  refine v_sel [4, 5, 7] [4] rfl rfl ?_
  refine v_seq ?_
  refine v_region ?_
  refine l_val rfl (o_move rfl) ?_
  refine l_val rfl (o_convm rfl) ?_
  refine l_val rfl (o_move rfl) ?_
  refine l_val rfl (o_build (vs := [_, _]) (cs := [_, _]) rfl rfl) ?_
  refine l_store rfl (o_storeW (key := 4) (xs := [_, _]) rfl rfl rfl rfl rfl rfl rfl) ?_
  refine l_nil ?_
  refine kt_norm ?_
  refine v_sel [4] [4] rfl rfl ?_
  refine v_ret ?_
  refine ⟨[_], .cons (.cellW (key := 4) rfl rfl rfl) (ResAll.nil), ?_⟩
  exact (wideV_eq (by omega) (by omega) (by omega)).symm
theorem a_Mul (x y : Int) (hx : -9223372036854775808 ≤ x ∧ x < 9223372036854775808) (hy : -9223372036854775808 ≤ y ∧ y < 9223372036854775808) : Ans Try.prog 97 [.int .i64 x, .int .i64 y] (wideV (x * y)) := by
  have m1 := mul_bound (A := 9223372036854775808) (B := 9223372036854775808) (x := x) (y := y) (by omega) (by omega) (by omega) (by omega)
  refine ans_of Try.func97 rfl Try.ntmps97 Try.results97 rfl rfl fun w => ?_
  refine v_seq ?_
  refine v_region ?_
  refine l_new rfl o_alloc fun b4 => ?_
  refine l_nil ?_
  refine kt_norm ?_
  refine v_seq ?_
  refine v_region ?_
  refine l_val rfl (o_move rfl) ?_
  refine l_val rfl (o_convu rfl) ?_
  refine l_val rfl (o_move rfl) ?_
  refine l_val rfl (o_convu rfl) ?_
  refine l_ans (vs := [_, _]) rfl rfl (a_Mul64 _ _ ?_ ?_) ?_
  · omega
  · omega
  refine l_val rfl (o_move rfl) ?_
  refine l_val rfl (o_extract rfl rfl) ?_
  refine l_val rfl (o_extract rfl rfl) ?_
  refine l_val rfl (o_assign rfl) ?_
  refine l_val rfl (o_assign rfl) ?_
  refine l_nil ?_
  refine kt_norm ?_
  refine v_sel [0, 1, 4, 5, 6] [4] rfl rfl ?_
  refine v_seq ?_
  refine v_seq ?_
  refine v_region ?_
  refine l_val rfl (o_move rfl) ?_
  refine l_split rfl (o_lss rfl rfl) (fun q1 => ?_) (fun q1 => ?_)
  · first
    | (exfalso; omega; done)
    | (
        refine l_nil ?_
        refine kt_norm ?_
        refine v_condT rfl ?_
        refine v_region ?_
        refine l_val rfl (o_move rfl) ?_
        refine l_val rfl (o_move rfl) ?_
        refine l_val rfl (o_convu rfl) ?_
        refine l_val rfl (o_subu rfl rfl) ?_
        refine l_val rfl (o_assign rfl) ?_
        refine l_nil ?_
        refine kt_norm ?_
        refine v_sel [0, 1, 4, 5, 6] [4] rfl rfl ?_
        refine v_seq ?_
        refine v_seq ?_
        refine v_region ?_
        refine l_val rfl (o_move rfl) ?_
        refine l_split rfl (o_lss rfl rfl) (fun q2 => ?_) (fun q2 => ?_)
        · first
          | (exfalso; omega; done)
          | (
              refine l_nil ?_
              refine kt_norm ?_
              refine v_condT rfl ?_
              refine v_region ?_
              refine l_val rfl (o_move rfl) ?_
              refine l_val rfl (o_move rfl) ?_
              refine l_val rfl (o_convu rfl) ?_
              refine l_val rfl (o_subu rfl rfl) ?_
              refine l_val rfl (o_assign rfl) ?_
              refine l_nil ?_
              refine kt_norm ?_
              refine v_sel [4, 5, 6] [4] rfl rfl ?_
              refine v_seq ?_
              refine v_region ?_
              refine l_val rfl (o_move rfl) ?_
              refine l_val rfl (o_convm rfl) ?_
              refine l_val rfl (o_move rfl) ?_
              refine l_val rfl (o_build (vs := [_, _]) (cs := [_, _]) rfl rfl) ?_
              refine l_store rfl (o_storeW (key := 4) (xs := [_, _]) rfl rfl rfl rfl rfl rfl rfl) ?_
              refine l_nil ?_
              refine kt_norm ?_
              refine v_sel [4] [4] rfl rfl ?_
              refine v_ret ?_
              refine ⟨[_], .cons (.cellW (key := 4) rfl rfl rfl) (ResAll.nil), ?_⟩
              refine (wideV_eq ?_ ?_ ?_).symm
              all_goals first
                | (rw [mp_nn (by omega) (by omega) (by omega) (by omega)]; omega)
                | (rw [mp_np (by omega) (by omega) (by omega) (by omega)]; omega)
                | (rw [mp_pn (by omega) (by omega) (by omega) (by omega)]; omega)
                | (rw [mp_pp (by omega) (by omega) (by omega) (by omega)]; omega))
        · first
          | (exfalso; omega; done)
          | (
              refine l_nil ?_
              refine kt_norm ?_
              refine v_condF rfl ?_
              refine v_skip ?_
              refine kt_norm ?_
              refine v_seq ?_
              refine v_region ?_
              refine l_val rfl (o_move rfl) ?_
              refine l_val rfl (o_convm rfl) ?_
              refine l_val rfl (o_move rfl) ?_
              refine l_val rfl (o_build (vs := [_, _]) (cs := [_, _]) rfl rfl) ?_
              refine l_store rfl (o_storeW (key := 4) (xs := [_, _]) rfl rfl rfl rfl rfl rfl rfl) ?_
              refine l_nil ?_
              refine kt_norm ?_
              refine v_sel [4] [4] rfl rfl ?_
              refine v_ret ?_
              refine ⟨[_], .cons (.cellW (key := 4) rfl rfl rfl) (ResAll.nil), ?_⟩
              refine (wideV_eq ?_ ?_ ?_).symm
              all_goals first
                | (rw [mp_nn (by omega) (by omega) (by omega) (by omega)]; omega)
                | (rw [mp_np (by omega) (by omega) (by omega) (by omega)]; omega)
                | (rw [mp_pn (by omega) (by omega) (by omega) (by omega)]; omega)
                | (rw [mp_pp (by omega) (by omega) (by omega) (by omega)]; omega)))
  · first
    | (exfalso; omega; done)
    | (
        refine l_nil ?_
        refine kt_norm ?_
        refine v_condF rfl ?_
        refine v_skip ?_
        refine kt_norm ?_
        refine v_seq ?_
        refine v_seq ?_
        refine v_region ?_
        refine l_val rfl (o_move rfl) ?_
        refine l_split rfl (o_lss rfl rfl) (fun q3 => ?_) (fun q3 => ?_)
        · first
          | (exfalso; omega; done)
          | (
              refine l_nil ?_
              refine kt_norm ?_
              refine v_condT rfl ?_
              refine v_region ?_
              refine l_val rfl (o_move rfl) ?_
              refine l_val rfl (o_move rfl) ?_
              refine l_val rfl (o_convu rfl) ?_
              refine l_val rfl (o_subu rfl rfl) ?_
              refine l_val rfl (o_assign rfl) ?_
              refine l_nil ?_
              refine kt_norm ?_
              refine v_sel [4, 5, 6] [4] rfl rfl ?_
              refine v_seq ?_
              refine v_region ?_
              refine l_val rfl (o_move rfl) ?_
              refine l_val rfl (o_convm rfl) ?_
              refine l_val rfl (o_move rfl) ?_
              refine l_val rfl (o_build (vs := [_, _]) (cs := [_, _]) rfl rfl) ?_
              refine l_store rfl (o_storeW (key := 4) (xs := [_, _]) rfl rfl rfl rfl rfl rfl rfl) ?_
              refine l_nil ?_
              refine kt_norm ?_
              refine v_sel [4] [4] rfl rfl ?_
              refine v_ret ?_
              refine ⟨[_], .cons (.cellW (key := 4) rfl rfl rfl) (ResAll.nil), ?_⟩
              refine (wideV_eq ?_ ?_ ?_).symm
              all_goals first
                | (rw [mp_nn (by omega) (by omega) (by omega) (by omega)]; omega)
                | (rw [mp_np (by omega) (by omega) (by omega) (by omega)]; omega)
                | (rw [mp_pn (by omega) (by omega) (by omega) (by omega)]; omega)
                | (rw [mp_pp (by omega) (by omega) (by omega) (by omega)]; omega))
        · first
          | (exfalso; omega; done)
          | (
              refine l_nil ?_
              refine kt_norm ?_
              refine v_condF rfl ?_
              refine v_skip ?_
              refine kt_norm ?_
              refine v_sel [4, 5, 6] [4] rfl rfl ?_
              refine v_seq ?_
              refine v_region ?_
              refine l_val rfl (o_move rfl) ?_
              refine l_val rfl (o_convm rfl) ?_
              refine l_val rfl (o_move rfl) ?_
              refine l_val rfl (o_build (vs := [_, _]) (cs := [_, _]) rfl rfl) ?_
              refine l_store rfl (o_storeW (key := 4) (xs := [_, _]) rfl rfl rfl rfl rfl rfl rfl) ?_
              refine l_nil ?_
              refine kt_norm ?_
              refine v_sel [4] [4] rfl rfl ?_
              refine v_ret ?_
              refine ⟨[_], .cons (.cellW (key := 4) rfl rfl rfl) (ResAll.nil), ?_⟩
              refine (wideV_eq ?_ ?_ ?_).symm
              all_goals first
                | (rw [mp_nn (by omega) (by omega) (by omega) (by omega)]; omega)
                | (rw [mp_np (by omega) (by omega) (by omega) (by omega)]; omega)
                | (rw [mp_pn (by omega) (by omega) (by omega) (by omega)]; omega)
                | (rw [mp_pp (by omega) (by omega) (by omega) (by omega)]; omega)))
theorem a_Cmp (x y : Int) : Ans Try.prog 95 [wideV x, wideV y] (.int .i64 (if x = y then 0 else if x < y then -1 else 1)) := by
  refine ans_of Try.func95 rfl Try.ntmps95 Try.results95 rfl rfl fun w => ?_
  refine v_seq ?_
  refine v_region ?_
  refine l_new rfl (o_box (cs := [_, _]) rfl rfl) fun b2 => ?_
  refine l_new rfl (o_box (cs := [_, _]) rfl rfl) fun b3 => ?_
  refine l_val rfl (o_assign rfl) ?_
  refine l_nil ?_
  refine kt_norm ?_
  refine v_seq ?_
  refine v_block ?_
  refine v_seq ?_
  refine v_region ?_
  refine l_val rfl (o_loadW (key := 2) rfl rfl rfl) ?_
  refine l_val rfl (o_loadW (key := 3) rfl rfl rfl) ?_
  refine l_split rfl (o_eqs (xl := [_, _]) (yl := [_, _]) (az := [_, _]) (bz := [_, _]) rfl rfl rfl rfl rfl rfl) (fun q1 => ?_) (fun q1 => ?_)
  · simp only [List.map_cons, List.map_nil, List.cons.injEq, and_true] at q1
    first
    | (exfalso; omega; done)
    | (
        refine l_val rfl (o_assign rfl) ?_
        refine l_nil ?_
        refine kt_norm ?_
        refine v_sel [2, 3, 5] [2, 3] rfl rfl ?_
        refine v_condT rfl ?_
        refine v_seq ?_
        refine v_region ?_
        refine l_val rfl (o_assign rfl) ?_
        refine l_nil ?_
        refine kt_norm ?_
        refine v_ret ?_
        refine kb_ret ?_
        refine kt_ret ?_
        refine ⟨[_], .cons (.tmp rfl) (ResAll.nil), ?_⟩
        show Value.int .i64 _ = _
        congr 1
        (repeat' split) <;> omega)
  · simp only [List.map_cons, List.map_nil, List.cons.injEq, and_true] at q1
    first
    | (exfalso; omega; done)
    | (
        refine l_val rfl (o_assign rfl) ?_
        refine l_nil ?_
        refine kt_norm ?_
        refine v_sel [2, 3, 5] [2, 3] rfl rfl ?_
        refine v_condF rfl ?_
        refine v_seq ?_
        refine v_seq ?_
        refine v_region ?_
        refine l_val rfl (o_fld rfl) ?_
        refine l_val rfl (o_load1 (key := 2) rfl rfl rfl) ?_
        refine l_val rfl (o_fld rfl) ?_
        refine l_val rfl (o_load1 (key := 3) rfl rfl rfl) ?_
        refine l_split rfl (o_lss rfl rfl) (fun q2 => ?_) (fun q2 => ?_)
        · first
          | (exfalso; omega; done)
          | (
              refine l_val rfl (o_assign rfl) ?_
              refine l_nil ?_
              refine kt_norm ?_
              refine v_sel [2, 3, 9] [2, 3] rfl rfl ?_
              refine v_condT rfl ?_
              refine v_skip ?_
              refine kt_norm ?_
              refine v_condT rfl ?_
              refine v_seq ?_
              refine v_region ?_
              refine l_val rfl (o_assign rfl) ?_
              refine l_nil ?_
              refine kt_norm ?_
              refine v_ret ?_
              refine kb_ret ?_
              refine kt_ret ?_
              refine ⟨[_], .cons (.tmp rfl) (ResAll.nil), ?_⟩
              show Value.int .i64 _ = _
              congr 1
              (repeat' split) <;> omega)
        · first
          | (exfalso; omega; done)
          | (
              refine l_val rfl (o_assign rfl) ?_
              refine l_nil ?_
              refine kt_norm ?_
              refine v_sel [2, 3, 9] [2, 3] rfl rfl ?_
              refine v_condF rfl ?_
              refine v_region ?_
              refine l_val rfl (o_fld rfl) ?_
              refine l_val rfl (o_load1 (key := 2) rfl rfl rfl) ?_
              refine l_val rfl (o_fld rfl) ?_
              refine l_val rfl (o_load1 (key := 3) rfl rfl rfl) ?_
              refine l_split rfl (o_eql rfl rfl) (fun q3 => ?_) (fun q3 => ?_)
              · first
                | (exfalso; omega; done)
                | (
                    refine l_val rfl (o_move rfl) ?_
                    refine l_val rfl (o_fld rfl) ?_
                    refine l_val rfl (o_load1 (key := 2) rfl rfl rfl) ?_
                    refine l_val rfl (o_fld rfl) ?_
                    refine l_val rfl (o_load1 (key := 3) rfl rfl rfl) ?_
                    refine l_split rfl (o_lss rfl rfl) (fun q4 => ?_) (fun q4 => ?_)
                    · first
                      | (exfalso; omega; done)
                      | (
                          refine l_val rfl (o_pickT rfl rfl) ?_
                          refine l_val rfl (o_assign rfl) ?_
                          refine l_nil ?_
                          refine kt_norm ?_
                          refine v_sel [9] [] rfl rfl ?_
                          refine v_condT rfl ?_
                          refine v_seq ?_
                          refine v_region ?_
                          refine l_val rfl (o_assign rfl) ?_
                          refine l_nil ?_
                          refine kt_norm ?_
                          refine v_ret ?_
                          refine kb_ret ?_
                          refine kt_ret ?_
                          refine ⟨[_], .cons (.tmp rfl) (ResAll.nil), ?_⟩
                          show Value.int .i64 _ = _
                          congr 1
                          (repeat' split) <;> omega)
                    · first
                      | (exfalso; omega; done)
                      | (
                          refine l_val rfl (o_pickT rfl rfl) ?_
                          refine l_val rfl (o_assign rfl) ?_
                          refine l_nil ?_
                          refine kt_norm ?_
                          refine v_sel [9] [] rfl rfl ?_
                          refine v_condF rfl ?_
                          refine v_skip ?_
                          refine kb_norm ?_
                          refine kt_norm ?_
                          refine v_seq ?_
                          refine v_region ?_
                          refine l_val rfl (o_assign rfl) ?_
                          refine l_nil ?_
                          refine kt_norm ?_
                          refine v_ret ?_
                          refine ⟨[_], .cons (.tmp rfl) (ResAll.nil), ?_⟩
                          show Value.int .i64 _ = _
                          congr 1
                          (repeat' split) <;> omega))
              · first
                | (exfalso; omega; done)
                | (
                    refine l_val rfl (o_move rfl) ?_
                    refine l_no rfl ?_
                    refine l_no rfl ?_
                    refine l_no rfl ?_
                    refine l_no rfl ?_
                    refine l_no rfl ?_
                    refine l_val rfl (o_pickF rfl rfl) ?_
                    refine l_val rfl (o_assign rfl) ?_
                    refine l_nil ?_
                    refine kt_norm ?_
                    refine v_sel [9] [] rfl rfl ?_
                    refine v_condF rfl ?_
                    refine v_skip ?_
                    refine kb_norm ?_
                    refine kt_norm ?_
                    refine v_seq ?_
                    refine v_region ?_
                    refine l_val rfl (o_assign rfl) ?_
                    refine l_nil ?_
                    refine kt_norm ?_
                    refine v_ret ?_
                    refine ⟨[_], .cons (.tmp rfl) (ResAll.nil), ?_⟩
                    show Value.int .i64 _ = _
                    congr 1
                    (repeat' split) <;> omega)))
def sg (x : Int) : Int := if x = 0 then 0 else if x < 0 then -1 else 1
theorem sg_spec (x : Int) : (x < 0 → sg x = -1) ∧ (x = 0 → sg x = 0) ∧ (0 < x → sg x = 1) := by
  unfold sg; (repeat' split) <;> omega
theorem a_Sign (x : Int) : Ans Try.prog 82 [wideV x] (.int .i64 (sg x)) := by
  refine ans_of Try.func82 rfl Try.ntmps82 Try.results82 rfl rfl fun w => ?_
  refine v_seq ?_
  refine v_region ?_
  refine l_new rfl (o_box (cs := [_, _]) rfl rfl) fun b1 => ?_
  refine l_val rfl (o_assign rfl) ?_
  refine l_nil ?_
  refine kt_norm ?_
  refine v_seq ?_
  refine v_region ?_
  refine l_val rfl (o_loadW (key := 1) rfl rfl rfl) ?_
  refine l_val rfl (o_build (vs := []) (cs := [_, _]) rfl rfl) ?_
  refine l_ans (vs := [_, _]) rfl rfl (a_Cmp _ 0) ?_
  refine l_val rfl (o_assign rfl) ?_
  refine l_nil ?_
  refine kt_norm ?_
  refine v_ret ?_
  refine ⟨[_], .cons (.tmp rfl) (ResAll.nil), ?_⟩
  rfl
theorem a_Narrow (x : Int) (hx : -9223372036854775808 ≤ x ∧ x < 9223372036854775808) : Ans Try.prog 113 [wideV x] (.tuple #[.int .i64 x, .bool true]) := by
  refine ans_of Try.func113 rfl Try.ntmps113 Try.results113 rfl rfl fun w => ?_
  refine v_seq ?_
  refine v_region ?_
  refine l_new rfl (o_box (cs := [_, _]) rfl rfl) fun b1 => ?_
  refine l_val rfl (o_assign rfl) ?_
  refine l_val rfl (o_assign rfl) ?_
  refine l_nil ?_
  refine kt_norm ?_
  refine v_seq ?_
  refine v_region ?_
  refine l_val rfl (o_fld rfl) ?_
  refine l_val rfl (o_load1 (key := 1) rfl rfl rfl) ?_
  refine l_val rfl (o_convm rfl) ?_
  refine l_val rfl (o_assign rfl) ?_
  refine l_nil ?_
  refine kt_norm ?_
  refine v_sel [1, 4] [1] rfl rfl ?_
  refine v_seq ?_
  refine v_seq ?_
  refine v_drawZ [[1], [], [], []] mixed ?_ (by kernel_rfl) (by kernel_rfl)
  refine d_val (fun _ => rfl) rfl rfl (fun _ => o_loadW (key := 1) rfl rfl rfl) ?_
  refine d_val (fun _ => rfl) rfl rfl (fun _ => o_move rfl) ?_
  refine d_ans (vs := [_]) (fun _ => rfl) (fun _ => rfl) (a_Of _ ?_) ?_
  · omega
  refine d_neqs (xl := [_, _]) (yl := [_, _]) (az := [_, _]) (bz := [_, _]) (fun _ => rfl) (fun _ => rfl) (fun _ => rfl) rfl rfl rfl rfl (fun q1 => ?_) (fun q1 => ?_)
  · simp only [List.map_cons, List.map_nil, List.cons.injEq, and_true, Decidable.not_not] at q1
    first
    | (exfalso; omega; done)
    | (
        refine d_nil (fun σ => ?_)
        refine l_nil ?_
        refine kt_norm ?_
        refine v_condT rfl ?_
        refine v_seq ?_
        refine v_region ?_
        refine l_val rfl (o_assign rfl) ?_
        refine l_val rfl (o_assign rfl) ?_
        refine l_nil ?_
        refine kt_norm ?_
        refine v_sel [2, 3] [] rfl rfl ?_
        refine v_ret ?_
        refine kt_ret ?_
        refine ⟨[_, _], .cons (.tmp rfl) (.cons (.tmp rfl) (ResAll.nil)), ?_⟩
        show Value.tuple #[.int .i64 _, .bool true] = _
        rw [show (x % 18446744073709551616 + 9223372036854775808) % 18446744073709551616 - 9223372036854775808 = x by omega])
  · simp only [List.map_cons, List.map_nil, List.cons.injEq, and_true, Decidable.not_not] at q1
    first
    | (exfalso; omega; done)
    | (
        refine d_nil (fun σ => ?_)
        refine l_nil ?_
        refine kt_norm ?_
        refine v_condF rfl ?_
        refine v_skip ?_
        refine kt_norm ?_
        refine v_seq ?_
        refine v_region ?_
        refine l_val rfl (o_move rfl) ?_
        refine l_val rfl (o_assign rfl) ?_
        refine l_val rfl (o_assign rfl) ?_
        refine l_nil ?_
        refine kt_norm ?_
        refine v_sel [2, 3] [] rfl rfl ?_
        refine v_ret ?_
        refine ⟨[_, _], .cons (.tmp rfl) (.cons (.tmp rfl) (ResAll.nil)), ?_⟩
        show Value.tuple #[.int .i64 _, .bool true] = _
        rw [show (x % 18446744073709551616 + 9223372036854775808) % 18446744073709551616 - 9223372036854775808 = x by omega])
end Go.Proofs.Ytpgjbalnipinoaa

/- Division; the scale of an edge; its row; a view. Conditions: none. -/
namespace Go.Proofs.Ytpgjbalnipinoaa
open Go.Proofs Go.RowKit Go.Shelf

theorem neg_div1 {x b : Int} (hb : 0 < b) (hx : x < 0) (hx2 : -18446744073709551616 < x) (hm : 0 < (0 - x) % 18446744073709551616 % b) :
    x / b = -((0 - x) % 18446744073709551616 / b) - 1 ∧ x % b = b - (0 - x) % 18446744073709551616 % b := by
  have e : (0 - x) % 18446744073709551616 = -x := by omega
  rw [e] at hm ⊢
  have h1 := Int.mul_ediv_add_emod (-x) b
  have h2 := Int.emod_lt_of_pos (-x) hb
  refine (Int.ediv_emod_unique hb).2 ⟨?_, by omega, by omega⟩
  rw [Int.mul_sub, Int.mul_neg, Int.mul_one]
  omega
theorem neg_div0 {x b : Int} (hb : 0 < b) (hx : x < 0) (hx2 : -18446744073709551616 < x) (hm : (0 - x) % 18446744073709551616 % b = 0) :
    x / b = -((0 - x) % 18446744073709551616 / b) ∧ x % b = 0 := by
  have e : (0 - x) % 18446744073709551616 = -x := by omega
  rw [e] at hm ⊢
  have h1 := Int.mul_ediv_add_emod (-x) b
  refine (Int.ediv_emod_unique hb).2 ⟨?_, by omega, by omega⟩
  rw [Int.mul_neg]
  omega
theorem tup3 {h l r h' l' r' : Int} (e1 : h = h') (e2 : l = l') (e3 : r = r') : packV [.agg #[.int .i64 h, .int .u64 l], .int .i64 r, .int .i64 0] = .tuple #[.agg #[.int .i64 h', .int .u64 l'], .int .i64 r', .int .i64 0] := by
  subst e1 e2 e3; rfl

theorem a_Div64 (h y z : Int) (hh : h = 0) (hy : 0 ≤ y ∧ y < 18446744073709551616) (hz : 0 < z ∧ z < 18446744073709551616) : Ans Try.prog 108 [.int .u64 h, .int .u64 y, .int .u64 z] (.tuple #[.int .u64 (y / z), .int .u64 (y % z)]) := by
  subst hh
  have h3 : 0 ≤ y / z := Int.ediv_nonneg hy.1 (by omega)
  have h4 : y / z ≤ y := Int.ediv_le_self _ hy.1
  refine ans_of Try.func108 rfl Try.ntmps108 Try.results108 rfl rfl fun w => ?_
  refine v_seq ?_
  refine v_region ?_
  refine l_val rfl (o_assign rfl) ?_
  refine l_val rfl (o_assign rfl) ?_
  refine l_nil ?_
  refine kt_norm ?_
  refine v_seq ?_
  refine v_seq ?_
  refine v_region ?_
  refine l_val rfl (o_move rfl) ?_
  refine l_split rfl (o_eql rfl rfl) (fun q1 => absurd q1 (by omega)) (fun q1 => ?_)
  refine l_nil ?_
  refine kt_norm ?_
  refine v_condF rfl ?_
  refine v_skip ?_
  refine kt_norm ?_
  refine v_seq ?_
  refine v_seq ?_
  refine v_region ?_
  refine l_val rfl (o_move rfl) ?_
  refine l_val rfl (o_move rfl) ?_
  refine l_split rfl (o_leq rfl rfl) (fun q2 => absurd q2 (by omega)) (fun q2 => ?_)
  refine l_nil ?_
  refine kt_norm ?_
  refine v_sel [0, 1, 2, 24] [] rfl rfl ?_
  refine v_condF rfl ?_
  refine v_skip ?_
  refine kt_norm ?_
  refine v_seq ?_
  refine v_seq ?_
  refine v_region ?_
  refine l_val rfl (o_move rfl) ?_
  refine l_split rfl (o_eql rfl rfl) (fun q3 => ?_) (fun q3 => absurd (show _ by omega) q3)
  refine l_nil ?_
  refine kt_norm ?_
  refine v_condT rfl ?_
  refine v_seq ?_
  refine v_drawZ [[], [], [], [], [], [], [], []] mixed ?_ (by kernel_rfl) (by kernel_rfl)
  refine d_val (fun _ => rfl) rfl rfl (fun _ => o_move rfl) ?_
  refine d_val (fun _ => rfl) rfl rfl (fun _ => o_move rfl) ?_
  refine d_val (fun _ => rfl) rfl rfl (fun _ => o_quon rfl rfl ?_ ?_) ?_
  · omega
  · exact wrap_u64 (by omega)
  refine d_val (fun _ => rfl) rfl rfl (fun _ => o_move rfl) ?_
  refine d_val (fun _ => rfl) rfl rfl (fun _ => o_move rfl) ?_
  refine d_val (fun _ => rfl) rfl rfl (fun _ => o_remn rfl rfl ?_) ?_
  · omega
  refine d_val (fun _ => rfl) rfl rfl (fun _ => o_assign rfl) ?_
  refine d_val (fun _ => rfl) rfl rfl (fun _ => o_assign rfl) ?_
  refine d_nil (fun σ => ?_)
  refine l_nil ?_
  refine kt_norm ?_
  refine v_sel [6, 7] [] rfl rfl ?_
  refine v_ret ?_
  refine kt_ret ?_
  refine ⟨[_, _], .cons (.tmp rfl) (.cons (.tmp rfl) (ResAll.nil)), ?_⟩
  rfl
theorem a_Div64e (h y z b : Int) (hh : h = 0) (hy : 0 ≤ y ∧ y < 18446744073709551616) (hzb : z = b) (hz : 0 < z ∧ z < 18446744073709551616) : Ans Try.prog 108 [.int .u64 h, .int .u64 y, .int .u64 z] (.tuple #[.int .u64 (y / b), .int .u64 (y % b)]) := by
  subst hzb; exact a_Div64 _ _ _ hh hy hz
theorem a_Div64z (h y z : Int) (hh : h = 0) (hy : y = 0) (hz : 0 < z ∧ z < 18446744073709551616) : Ans Try.prog 108 [.int .u64 h, .int .u64 y, .int .u64 z] (.tuple #[.int .u64 0, .int .u64 0]) := by
  subst hy
  have := a_Div64 h 0 z hh (by omega) hz
  rw [Int.zero_ediv, Int.zero_emod] at this
  exact this
theorem a_SubG (h l h' l' : Int) (hl : 0 ≤ l ∧ l < 18446744073709551616) (hm : 0 ≤ l' ∧ l' < 18446744073709551616) (hh : -4611686018427387904 ≤ h ∧ h < 4611686018427387904) (hk : -4611686018427387904 ≤ h' ∧ h' < 4611686018427387904) :
    Ans Try.prog 96 [.agg #[.int .i64 h, .int .u64 l], .agg #[.int .i64 h', .int .u64 l']] (wideV (h * 18446744073709551616 + l - (h' * 18446744073709551616 + l'))) := by
  rw [← wideV_eq hl.1 hl.2 rfl, ← wideV_eq hm.1 hm.2 rfl]
  exact a_Sub _ _ (by omega) (by omega)
set_option maxHeartbeats 1000000 in
theorem a_Div (x b : Int) (hx : -18446744073709551616 < x ∧ x < 18446744073709551616) (hb : 0 < b ∧ b < 9223372036854775808) : Ans Try.prog 110 [wideV x, .int .i64 b] (.tuple #[wideV (x / b), .int .i64 (x % b), .int .i64 0]) := by
  have f1 : 0 ≤ x % 18446744073709551616 / b := Int.ediv_nonneg (by omega) (by omega)
  have f2 : x % 18446744073709551616 / b ≤ x % 18446744073709551616 := Int.ediv_le_self _ (by omega)
  have f3 : 0 ≤ (0 - x) % 18446744073709551616 / b := Int.ediv_nonneg (by omega) (by omega)
  have f4 : (0 - x) % 18446744073709551616 / b ≤ (0 - x) % 18446744073709551616 := Int.ediv_le_self _ (by omega)
  have g1 := Int.emod_nonneg (x % 18446744073709551616) (show b ≠ 0 by omega)
  have g2 := Int.emod_lt_of_pos (x % 18446744073709551616) hb.1
  have g3 := Int.emod_nonneg ((0 - x) % 18446744073709551616) (show b ≠ 0 by omega)
  have g4 := Int.emod_lt_of_pos ((0 - x) % 18446744073709551616) hb.1
  have eb : b % 18446744073709551616 = b := Int.emod_eq_of_lt (by omega) (by omega)
  have sp := sg_spec x
  refine ans_of Try.func110 rfl Try.ntmps110 Try.results110 rfl rfl fun w => ?_
  refine v_seq ?_
  refine v_region ?_
  refine l_new rfl (o_box (cs := [_, _]) rfl rfl) fun b2 => ?_
  refine l_new rfl o_alloc fun b4 => ?_
  refine l_val rfl (o_assign rfl) ?_
  refine l_val rfl (o_assign rfl) ?_
  refine l_nil ?_
  refine kt_norm ?_
  refine v_seq ?_
  refine v_region ?_
  refine l_val rfl (o_loadW (key := 2) rfl rfl rfl) ?_
  refine l_ans (vs := [_]) rfl rfl (a_Sign _) ?_
  refine l_val rfl (o_assign rfl) ?_
  refine l_nil ?_
  refine kt_norm ?_
  refine v_seq ?_
  refine v_block ?_
  refine v_seq ?_
  refine v_block ?_
  refine v_seq ?_
  refine v_block ?_
  refine v_seq ?_
  refine v_block ?_
  refine v_seq ?_
  refine v_seq ?_
  refine v_seq ?_
  refine v_region ?_
  refine l_val rfl (o_move rfl) ?_
  refine l_split rfl (o_leq rfl rfl) (fun q1 => absurd q1 (by omega)) (fun q1 => ?_)
  refine l_val rfl (o_assign rfl) ?_
  refine l_nil ?_
  refine kt_norm ?_
  refine v_sel [1, 2, 4, 7, 14] [2, 4] rfl rfl ?_
  refine v_condF rfl ?_
  refine v_skip ?_
  refine kt_norm ?_
  refine v_seq ?_
  refine v_region ?_
  refine l_val rfl (o_move rfl) ?_
  refine l_split rfl (o_lss rfl rfl) (fun q2 => ?_) (fun q2 => ?_)
  · first
    | (exfalso; omega; done)
    | (
        refine l_val rfl (o_assign rfl) ?_
        refine l_nil ?_
        refine kt_norm ?_
        refine v_condT rfl ?_
        refine v_exit ?_
        refine kt_exit ?_
        refine kb_ne (by decide) ?_
        refine kt_exit ?_
        refine kb_eq ?_
        refine kt_norm ?_
        refine v_region ?_
        refine l_val rfl (o_build (vs := []) (cs := [_, _]) rfl rfl) ?_
        refine l_val rfl (o_loadW (key := 2) rfl rfl rfl) ?_
        refine l_ans (vs := [_, _]) rfl rfl (a_Sub 0 _ ?_ ?_) ?_
        · omega
        · omega
        refine l_store rfl (o_storeW (key := 2) (xs := [_, _]) rfl rfl rfl rfl rfl rfl rfl) ?_
        refine l_nil ?_
        refine kb_norm ?_
        refine kt_norm ?_
        refine v_sel [1, 2, 4, 7] [2, 4] rfl rfl ?_
        refine v_seq ?_
        refine v_seq ?_
        refine v_region ?_
        refine l_val rfl (o_fld rfl) ?_
        refine l_val rfl (o_load1 (key := 2) rfl rfl rfl) ?_
        refine l_val rfl (o_convu rfl) ?_
        refine l_val rfl (o_move rfl) ?_
        refine l_val rfl (o_convu rfl) ?_
        refine l_ans (vs := [_, _, _]) rfl rfl (a_Div64z _ _ _ ?_ ?_ ?_) ?_
        · omega
        · omega
        · omega
        refine l_val rfl (o_move rfl) ?_
        refine l_val rfl (o_extract rfl rfl) ?_
        refine l_val rfl (o_extract rfl rfl) ?_
        refine l_val rfl (o_assign rfl) ?_
        refine l_val rfl (o_assign rfl) ?_
        refine l_nil ?_
        refine kt_norm ?_
        refine v_sel [1, 2, 4, 7, 8, 9] [2, 4] rfl rfl ?_
        refine v_seq ?_
        refine v_region ?_
        refine l_val rfl (o_move rfl) ?_
        refine l_val rfl (o_fld rfl) ?_
        refine l_val rfl (o_load1 (key := 2) rfl rfl rfl) ?_
        refine l_val rfl (o_move rfl) ?_
        refine l_val rfl (o_convu rfl) ?_
        refine l_ans (vs := [_, _, _]) rfl rfl (a_Div64e _ _ _ b ?_ ?_ ?_ ?_) ?_
        · omega
        · omega
        · omega
        · omega
        refine l_val rfl (o_move rfl) ?_
        refine l_val rfl (o_extract rfl rfl) ?_
        refine l_val rfl (o_extract rfl rfl) ?_
        refine l_val rfl (o_assign rfl) ?_
        refine l_val rfl (o_assign rfl) ?_
        refine l_nil ?_
        refine kt_norm ?_
        refine v_sel [1, 4, 7, 8, 10, 11] [4] rfl rfl ?_
        refine v_region ?_
        refine l_val rfl (o_move rfl) ?_
        refine l_val rfl (o_convm rfl) ?_
        refine l_val rfl (o_move rfl) ?_
        refine l_val rfl (o_build (vs := [_, _]) (cs := [_, _]) rfl rfl) ?_
        refine l_val rfl (o_move rfl) ?_
        refine l_val rfl (o_convm rfl) ?_
        refine l_store rfl (o_storeW (key := 4) (xs := [_, _]) rfl rfl rfl rfl rfl rfl rfl) ?_
        refine l_val rfl (o_assign rfl) ?_
        refine l_nil ?_
        refine kt_norm ?_
        refine v_sel [1, 4, 7, 5] [4] rfl rfl ?_
        refine v_exit ?_
        refine kb_eq ?_
        refine kt_norm ?_
        refine v_seq ?_
        refine v_seq ?_
        refine v_region ?_
        refine l_val rfl (o_move rfl) ?_
        refine l_split rfl (o_lss rfl rfl) (fun q3 => ?_) (fun q3 => ?_)
        · first
          | (exfalso; omega; done)
          | (
              refine l_nil ?_
              refine kt_norm ?_
              refine v_condT rfl ?_
              refine v_seq ?_
              refine v_region ?_
              refine l_val rfl (o_build (vs := []) (cs := [_, _]) rfl rfl) ?_
              refine l_val rfl (o_loadW (key := 4) rfl rfl rfl) ?_
              refine l_ans (vs := [_, _]) rfl rfl (a_SubG _ _ _ _ ?_ ?_ ?_ ?_) ?_
              · omega
              · omega
              · omega
              · omega
              refine l_store rfl (o_storeW (key := 4) (xs := [_, _]) rfl rfl rfl rfl rfl rfl rfl) ?_
              refine l_nil ?_
              refine kt_norm ?_
              refine v_sel [1, 4, 5] [4] rfl rfl ?_
              refine v_seq ?_
              refine v_region ?_
              refine l_val rfl (o_move rfl) ?_
              refine l_split rfl (o_gtr rfl rfl) (fun q4 => ?_) (fun q4 => ?_)
              · first
                | (exfalso; omega; done)
                | (
                    refine l_nil ?_
                    refine kt_norm ?_
                    refine v_condT rfl ?_
                    refine v_drawZ [[4], [], [], [], [], [], [4], []] mixed ?_ (by kernel_rfl) (by kernel_rfl)
                    refine d_val (fun _ => rfl) rfl rfl (fun _ => o_loadW (key := 4) rfl rfl rfl) ?_
                    refine d_ans (vs := [_]) (fun _ => rfl) (fun _ => rfl) (a_Of _ ?_) ?_
                    · omega
                    refine d_ans (vs := [_, _]) (fun _ => rfl) (fun _ => rfl) (a_Sub _ _ ?_ ?_) ?_
                    · omega
                    · omega
                    refine d_val (fun _ => rfl) rfl rfl (fun _ => o_move rfl) ?_
                    refine d_val (fun _ => rfl) rfl rfl (fun _ => o_move rfl) ?_
                    refine d_val (fun _ => rfl) rfl rfl (fun _ => o_subi rfl rfl ?_) ?_
                    · omega
                    refine d_store (fun _ => rfl) rfl rfl (fun _ => o_storeW (key := 4) (xs := [_, _]) rfl rfl rfl rfl rfl rfl rfl) ?_
                    refine d_val (fun _ => rfl) rfl rfl (fun _ => o_assign rfl) ?_
                    refine d_nil (fun σ => ?_)
                    refine l_nil ?_
                    refine kt_norm ?_
                    refine v_sel [4, 5] [4] rfl rfl ?_
                    refine v_seq ?_
                    refine v_region ?_
                    refine l_val rfl (o_loadW (key := 4) rfl rfl rfl) ?_
                    refine l_val rfl (o_move rfl) ?_
                    refine l_store rfl (o_storeW (key := 4) (xs := [_, _]) rfl rfl rfl rfl rfl rfl rfl) ?_
                    refine l_val rfl (o_assign rfl) ?_
                    refine l_val rfl (o_assign rfl) ?_
                    refine l_nil ?_
                    refine kt_norm ?_
                    refine v_ret ?_
                    refine ⟨[_, _, _], .cons (.cellW (key := 4) rfl rfl rfl) (.cons (.tmp rfl) (.cons (.tmp rfl) (ResAll.nil))), ?_⟩
                    first
                      | (obtain ⟨n1, n2⟩ := neg_div1 hb.1 (show x < 0 by omega) hx.1 (by omega); refine tup3 ?_ ?_ ?_ <;> omega)
                      | (obtain ⟨n1, n2⟩ := neg_div0 hb.1 (show x < 0 by omega) hx.1 (by omega); refine tup3 ?_ ?_ ?_ <;> omega)
                      | (have e : x % 18446744073709551616 = x := Int.emod_eq_of_lt (by omega) (by omega)
                         have e3 : x % 18446744073709551616 / b = x / b := by rw [e]
                         have e4 : x % 18446744073709551616 % b = x % b := by rw [e]
                         refine tup3 ?_ ?_ ?_ <;> omega))
              · first
                | (exfalso; omega; done)
                | (
                    refine l_nil ?_
                    refine kt_norm ?_
                    refine v_condF rfl ?_
                    refine v_skip ?_
                    refine kt_norm ?_
                    refine v_seq ?_
                    refine v_region ?_
                    refine l_val rfl (o_loadW (key := 4) rfl rfl rfl) ?_
                    refine l_val rfl (o_move rfl) ?_
                    refine l_store rfl (o_storeW (key := 4) (xs := [_, _]) rfl rfl rfl rfl rfl rfl rfl) ?_
                    refine l_val rfl (o_assign rfl) ?_
                    refine l_val rfl (o_assign rfl) ?_
                    refine l_nil ?_
                    refine kt_norm ?_
                    refine v_ret ?_
                    refine ⟨[_, _, _], .cons (.cellW (key := 4) rfl rfl rfl) (.cons (.tmp rfl) (.cons (.tmp rfl) (ResAll.nil))), ?_⟩
                    first
                      | (obtain ⟨n1, n2⟩ := neg_div1 hb.1 (show x < 0 by omega) hx.1 (by omega); refine tup3 ?_ ?_ ?_ <;> omega)
                      | (obtain ⟨n1, n2⟩ := neg_div0 hb.1 (show x < 0 by omega) hx.1 (by omega); refine tup3 ?_ ?_ ?_ <;> omega)
                      | (have e : x % 18446744073709551616 = x := Int.emod_eq_of_lt (by omega) (by omega)
                         have e3 : x % 18446744073709551616 / b = x / b := by rw [e]
                         have e4 : x % 18446744073709551616 % b = x % b := by rw [e]
                         refine tup3 ?_ ?_ ?_ <;> omega)))
        · first
          | (exfalso; omega; done)
          | (
              refine l_nil ?_
              refine kt_norm ?_
              refine v_condF rfl ?_
              refine v_skip ?_
              refine kt_norm ?_
              refine v_seq ?_
              refine v_region ?_
              refine l_val rfl (o_loadW (key := 4) rfl rfl rfl) ?_
              refine l_val rfl (o_move rfl) ?_
              refine l_store rfl (o_storeW (key := 4) (xs := [_, _]) rfl rfl rfl rfl rfl rfl rfl) ?_
              refine l_val rfl (o_assign rfl) ?_
              refine l_val rfl (o_assign rfl) ?_
              refine l_nil ?_
              refine kt_norm ?_
              refine v_sel [4, 5, 6] [4] rfl rfl ?_
              refine v_ret ?_
              refine ⟨[_, _, _], .cons (.cellW (key := 4) rfl rfl rfl) (.cons (.tmp rfl) (.cons (.tmp rfl) (ResAll.nil))), ?_⟩
              first
                | (obtain ⟨n1, n2⟩ := neg_div1 hb.1 (show x < 0 by omega) hx.1 (by omega); refine tup3 ?_ ?_ ?_ <;> omega)
                | (obtain ⟨n1, n2⟩ := neg_div0 hb.1 (show x < 0 by omega) hx.1 (by omega); refine tup3 ?_ ?_ ?_ <;> omega)
                | (have e : x % 18446744073709551616 = x := Int.emod_eq_of_lt (by omega) (by omega)
                   have e3 : x % 18446744073709551616 / b = x / b := by rw [e]
                   have e4 : x % 18446744073709551616 % b = x % b := by rw [e]
                   refine tup3 ?_ ?_ ?_ <;> omega)))
  · first
    | (exfalso; omega; done)
    | (
        refine l_val rfl (o_assign rfl) ?_
        refine l_nil ?_
        refine kt_norm ?_
        refine v_condF rfl ?_
        refine v_skip ?_
        refine kt_norm ?_
        refine v_exit ?_
        refine kb_ne (by decide) ?_
        refine kt_exit ?_
        refine kb_ne (by decide) ?_
        refine kt_exit ?_
        refine kb_eq ?_
        refine kt_norm ?_
        refine v_seq ?_
        refine v_seq ?_
        refine v_region ?_
        refine l_val rfl (o_fld rfl) ?_
        refine l_val rfl (o_load1 (key := 2) rfl rfl rfl) ?_
        refine l_val rfl (o_convu rfl) ?_
        refine l_val rfl (o_move rfl) ?_
        refine l_val rfl (o_convu rfl) ?_
        refine l_ans (vs := [_, _, _]) rfl rfl (a_Div64z _ _ _ ?_ ?_ ?_) ?_
        · omega
        · omega
        · omega
        refine l_val rfl (o_move rfl) ?_
        refine l_val rfl (o_extract rfl rfl) ?_
        refine l_val rfl (o_extract rfl rfl) ?_
        refine l_val rfl (o_assign rfl) ?_
        refine l_val rfl (o_assign rfl) ?_
        refine l_nil ?_
        refine kt_norm ?_
        refine v_sel [1, 2, 4, 7, 8, 9] [2, 4] rfl rfl ?_
        refine v_seq ?_
        refine v_region ?_
        refine l_val rfl (o_move rfl) ?_
        refine l_val rfl (o_fld rfl) ?_
        refine l_val rfl (o_load1 (key := 2) rfl rfl rfl) ?_
        refine l_val rfl (o_move rfl) ?_
        refine l_val rfl (o_convu rfl) ?_
        refine l_ans (vs := [_, _, _]) rfl rfl (a_Div64e _ _ _ b ?_ ?_ ?_ ?_) ?_
        · omega
        · omega
        · omega
        · omega
        refine l_val rfl (o_move rfl) ?_
        refine l_val rfl (o_extract rfl rfl) ?_
        refine l_val rfl (o_extract rfl rfl) ?_
        refine l_val rfl (o_assign rfl) ?_
        refine l_val rfl (o_assign rfl) ?_
        refine l_nil ?_
        refine kt_norm ?_
        refine v_sel [1, 4, 7, 8, 10, 11] [4] rfl rfl ?_
        refine v_region ?_
        refine l_val rfl (o_move rfl) ?_
        refine l_val rfl (o_convm rfl) ?_
        refine l_val rfl (o_move rfl) ?_
        refine l_val rfl (o_build (vs := [_, _]) (cs := [_, _]) rfl rfl) ?_
        refine l_val rfl (o_move rfl) ?_
        refine l_val rfl (o_convm rfl) ?_
        refine l_store rfl (o_storeW (key := 4) (xs := [_, _]) rfl rfl rfl rfl rfl rfl rfl) ?_
        refine l_val rfl (o_assign rfl) ?_
        refine l_nil ?_
        refine kt_norm ?_
        refine v_sel [1, 4, 7, 5] [4] rfl rfl ?_
        refine v_exit ?_
        refine kb_eq ?_
        refine kt_norm ?_
        refine v_seq ?_
        refine v_seq ?_
        refine v_region ?_
        refine l_val rfl (o_move rfl) ?_
        refine l_split rfl (o_lss rfl rfl) (fun q5 => ?_) (fun q5 => ?_)
        · first
          | (exfalso; omega; done)
          | (
              refine l_nil ?_
              refine kt_norm ?_
              refine v_condT rfl ?_
              refine v_seq ?_
              refine v_region ?_
              refine l_val rfl (o_build (vs := []) (cs := [_, _]) rfl rfl) ?_
              refine l_val rfl (o_loadW (key := 4) rfl rfl rfl) ?_
              refine l_ans (vs := [_, _]) rfl rfl (a_SubG _ _ _ _ ?_ ?_ ?_ ?_) ?_
              · omega
              · omega
              · omega
              · omega
              refine l_store rfl (o_storeW (key := 4) (xs := [_, _]) rfl rfl rfl rfl rfl rfl rfl) ?_
              refine l_nil ?_
              refine kt_norm ?_
              refine v_sel [1, 4, 5] [4] rfl rfl ?_
              refine v_seq ?_
              refine v_region ?_
              refine l_val rfl (o_move rfl) ?_
              refine l_split rfl (o_gtr rfl rfl) (fun q6 => ?_) (fun q6 => ?_)
              · first
                | (exfalso; omega; done)
                | (
                    refine l_nil ?_
                    refine kt_norm ?_
                    refine v_condT rfl ?_
                    refine v_drawZ [[4], [], [], [], [], [], [4], []] mixed ?_ (by kernel_rfl) (by kernel_rfl)
                    refine d_val (fun _ => rfl) rfl rfl (fun _ => o_loadW (key := 4) rfl rfl rfl) ?_
                    refine d_ans (vs := [_]) (fun _ => rfl) (fun _ => rfl) (a_Of _ ?_) ?_
                    · omega
                    refine d_ans (vs := [_, _]) (fun _ => rfl) (fun _ => rfl) (a_Sub _ _ ?_ ?_) ?_
                    · omega
                    · omega
                    refine d_val (fun _ => rfl) rfl rfl (fun _ => o_move rfl) ?_
                    refine d_val (fun _ => rfl) rfl rfl (fun _ => o_move rfl) ?_
                    refine d_val (fun _ => rfl) rfl rfl (fun _ => o_subi rfl rfl ?_) ?_
                    · omega
                    refine d_store (fun _ => rfl) rfl rfl (fun _ => o_storeW (key := 4) (xs := [_, _]) rfl rfl rfl rfl rfl rfl rfl) ?_
                    refine d_val (fun _ => rfl) rfl rfl (fun _ => o_assign rfl) ?_
                    refine d_nil (fun σ => ?_)
                    refine l_nil ?_
                    refine kt_norm ?_
                    refine v_sel [4, 5] [4] rfl rfl ?_
                    refine v_seq ?_
                    refine v_region ?_
                    refine l_val rfl (o_loadW (key := 4) rfl rfl rfl) ?_
                    refine l_val rfl (o_move rfl) ?_
                    refine l_store rfl (o_storeW (key := 4) (xs := [_, _]) rfl rfl rfl rfl rfl rfl rfl) ?_
                    refine l_val rfl (o_assign rfl) ?_
                    refine l_val rfl (o_assign rfl) ?_
                    refine l_nil ?_
                    refine kt_norm ?_
                    refine v_ret ?_
                    refine ⟨[_, _, _], .cons (.cellW (key := 4) rfl rfl rfl) (.cons (.tmp rfl) (.cons (.tmp rfl) (ResAll.nil))), ?_⟩
                    first
                      | (obtain ⟨n1, n2⟩ := neg_div1 hb.1 (show x < 0 by omega) hx.1 (by omega); refine tup3 ?_ ?_ ?_ <;> omega)
                      | (obtain ⟨n1, n2⟩ := neg_div0 hb.1 (show x < 0 by omega) hx.1 (by omega); refine tup3 ?_ ?_ ?_ <;> omega)
                      | (have e : x % 18446744073709551616 = x := Int.emod_eq_of_lt (by omega) (by omega)
                         have e3 : x % 18446744073709551616 / b = x / b := by rw [e]
                         have e4 : x % 18446744073709551616 % b = x % b := by rw [e]
                         refine tup3 ?_ ?_ ?_ <;> omega))
              · first
                | (exfalso; omega; done)
                | (
                    refine l_nil ?_
                    refine kt_norm ?_
                    refine v_condF rfl ?_
                    refine v_skip ?_
                    refine kt_norm ?_
                    refine v_seq ?_
                    refine v_region ?_
                    refine l_val rfl (o_loadW (key := 4) rfl rfl rfl) ?_
                    refine l_val rfl (o_move rfl) ?_
                    refine l_store rfl (o_storeW (key := 4) (xs := [_, _]) rfl rfl rfl rfl rfl rfl rfl) ?_
                    refine l_val rfl (o_assign rfl) ?_
                    refine l_val rfl (o_assign rfl) ?_
                    refine l_nil ?_
                    refine kt_norm ?_
                    refine v_ret ?_
                    refine ⟨[_, _, _], .cons (.cellW (key := 4) rfl rfl rfl) (.cons (.tmp rfl) (.cons (.tmp rfl) (ResAll.nil))), ?_⟩
                    first
                      | (obtain ⟨n1, n2⟩ := neg_div1 hb.1 (show x < 0 by omega) hx.1 (by omega); refine tup3 ?_ ?_ ?_ <;> omega)
                      | (obtain ⟨n1, n2⟩ := neg_div0 hb.1 (show x < 0 by omega) hx.1 (by omega); refine tup3 ?_ ?_ ?_ <;> omega)
                      | (have e : x % 18446744073709551616 = x := Int.emod_eq_of_lt (by omega) (by omega)
                         have e3 : x % 18446744073709551616 / b = x / b := by rw [e]
                         have e4 : x % 18446744073709551616 % b = x % b := by rw [e]
                         refine tup3 ?_ ?_ ?_ <;> omega)))
        · first
          | (exfalso; omega; done)
          | (
              refine l_nil ?_
              refine kt_norm ?_
              refine v_condF rfl ?_
              refine v_skip ?_
              refine kt_norm ?_
              refine v_seq ?_
              refine v_region ?_
              refine l_val rfl (o_loadW (key := 4) rfl rfl rfl) ?_
              refine l_val rfl (o_move rfl) ?_
              refine l_store rfl (o_storeW (key := 4) (xs := [_, _]) rfl rfl rfl rfl rfl rfl rfl) ?_
              refine l_val rfl (o_assign rfl) ?_
              refine l_val rfl (o_assign rfl) ?_
              refine l_nil ?_
              refine kt_norm ?_
              refine v_sel [4, 5, 6] [4] rfl rfl ?_
              refine v_ret ?_
              refine ⟨[_, _, _], .cons (.cellW (key := 4) rfl rfl rfl) (.cons (.tmp rfl) (.cons (.tmp rfl) (ResAll.nil))), ?_⟩
              first
                | (obtain ⟨n1, n2⟩ := neg_div1 hb.1 (show x < 0 by omega) hx.1 (by omega); refine tup3 ?_ ?_ ?_ <;> omega)
                | (obtain ⟨n1, n2⟩ := neg_div0 hb.1 (show x < 0 by omega) hx.1 (by omega); refine tup3 ?_ ?_ ?_ <;> omega)
                | (have e : x % 18446744073709551616 = x := Int.emod_eq_of_lt (by omega) (by omega)
                   have e3 : x % 18446744073709551616 / b = x / b := by rw [e]
                   have e4 : x % 18446744073709551616 % b = x % b := by rw [e]
                   refine tup3 ?_ ?_ ?_ <;> omega)))
end Go.Proofs.Ytpgjbalnipinoaa

/- A quotient of products; where an edge crosses a row; edges of two points. Conditions: none. -/
namespace Go.Proofs.Ytpgjbalnipinoaa
open Go.Proofs Go.RowKit Go.Shelf

structure PtT where
  x : Int
  y : Int
structure EdgeT where
  x : Int
  y : Int
  dx : Int
  dy : Int
  wi : Int
  fr : Int
  to : Int
def eP (p : PtT) : List Value := [.int .i64 p.x, .int .i64 p.y]
def eE (e : EdgeT) : List Value := [.int .i64 e.x, .int .i64 e.y, .int .i64 e.dx, .int .i64 e.dy, .int .i64 e.wi, .int .i64 e.fr, .int .i64 e.to]
def dP : PtT := ⟨0, 0⟩
def dE : EdgeT := ⟨0, 0, 0, 0, 0, 0, 0⟩
theorem eP_len (p : PtT) : (eP p).length = 2 := rfl
theorem eE_len (e : EdgeT) : (eE e).length = 7 := rfl
def NearT (p : PtT) : Prop := (-1073741824 ≤ p.x ∧ p.x ≤ 1073741824) ∧ (-1073741824 ≤ p.y ∧ p.y ≤ 1073741824)
theorem ediv_bound {x c B : Int} (hB : 0 ≤ B) (h1 : -B ≤ x) (h2 : x ≤ B) (hc : 0 < c) : -B ≤ x / c ∧ x / c ≤ B := by
  refine ⟨(Int.le_ediv_iff_mul_le hc).2 ?_, Int.ediv_le_of_le_mul hc ?_⟩
  · have := Int.mul_le_mul_of_nonneg_left (show (1 : Int) ≤ c by omega) hB
    rw [Int.mul_one] at this
    rw [Int.neg_mul]; omega
  · have := Int.mul_le_mul_of_nonneg_left (show (1 : Int) ≤ c by omega) hB
    rw [Int.mul_one] at this
    omega
def rowOf (y : Int) : Int := (y + 7) / 16
theorem rowOf_def (y : Int) : rowOf y = (y + 7) / 16 := rfl
def atE (e : EdgeT) (r : Int) : Int := e.x + (16 * r + 8 - e.y) * e.dx / e.dy
/-- the edge from a point to another one -/
def edgeOf (a b : PtT) : EdgeT := if b.y < a.y then ⟨b.x, b.y, a.x - b.x, a.y - b.y, -1, rowOf b.y, rowOf a.y⟩ else ⟨a.x, a.y, b.x - a.x, b.y - a.y, 1, rowOf a.y, rowOf b.y⟩
theorem edgeOf_lt {a b : PtT} (h : b.y < a.y) : edgeOf a b = ⟨b.x, b.y, a.x - b.x, a.y - b.y, -1, rowOf b.y, rowOf a.y⟩ := if_pos h
theorem edgeOf_ge {a b : PtT} (h : ¬ b.y < a.y) : edgeOf a b = ⟨a.x, a.y, b.x - a.x, b.y - a.y, 1, rowOf a.y, rowOf b.y⟩ := if_neg h
theorem edge_fin {x y dx dy wi fr to : Int} {b : Bool} (h : b = decide (fr < to)) : packV [.agg #[.int .i64 x, .int .i64 y, .int .i64 dx, .int .i64 dy, .int .i64 wi, .int .i64 fr, .int .i64 to], .bool b] = .tuple #[.agg (eE ⟨x, y, dx, dy, wi, fr, to⟩).toArray, .bool (decide (fr < to))] := by
  subst h; rfl
def ViewOk (X Y W H : Int) : Prop := 1 ≤ W ∧ W ≤ 256 ∧ 1 ≤ H ∧ H ≤ 256 ∧ -1048576 ≤ X ∧ X ≤ 1048576 ∧ -1048576 ≤ Y ∧ Y ≤ 1048576
theorem viewOk_def (X Y W H : Int) : ViewOk X Y W H ↔ 1 ≤ W ∧ W ≤ 256 ∧ 1 ≤ H ∧ H ≤ 256 ∧ -1048576 ≤ X ∧ X ≤ 1048576 ∧ -1048576 ≤ Y ∧ Y ≤ 1048576 := Iff.rfl
instance (X Y W H : Int) : Decidable (ViewOk X Y W H) := by unfold ViewOk; infer_instance

theorem a_divided (a b c : Int) (ha : -9223372036854775808 ≤ a ∧ a < 9223372036854775808) (hb : -9223372036854775808 ≤ b ∧ b < 9223372036854775808) (hp : -4611686018427387904 ≤ a * b ∧ a * b ≤ 4611686018427387904) (hc : 0 < c ∧ c < 9223372036854775808) : Ans Try.prog 99 [.int .i64 a, .int .i64 b, .int .i64 c, .bool false] (.tuple #[.int .i64 (a * b / c), .int .i64 0]) := by
  have d1 := ediv_bound (B := 4611686018427387904) (x := a * b) (c := c) (by omega) hp.1 hp.2 hc.1
  refine ans_of Try.func99 rfl Try.ntmps99 Try.results99 rfl rfl fun w => ?_
  refine v_seq ?_
  refine v_region ?_
  refine l_val rfl (o_assign rfl) ?_
  refine l_val rfl (o_assign rfl) ?_
  refine l_nil ?_
  refine kt_norm ?_
  refine v_seq ?_
  refine v_region ?_
  refine l_val rfl (o_move rfl) ?_
  refine l_val rfl (o_move rfl) ?_
  refine l_ans (vs := [_, _]) rfl rfl (a_Mul _ _ ?_ ?_) ?_
  · omega
  · omega
  refine l_val rfl (o_move rfl) ?_
  refine l_ans (vs := [_, _]) rfl rfl (a_Div _ _ ?_ ?_) ?_
  · omega
  · omega
  refine l_val rfl (o_move rfl) ?_
  refine l_val rfl (o_extract rfl rfl) ?_
  refine l_val rfl (o_extract rfl rfl) ?_
  refine l_val rfl (o_extract rfl rfl) ?_
  refine l_new rfl o_alloc fun b10 => ?_
  refine l_store rfl (o_storeW (key := 10) (xs := [_, _]) rfl rfl rfl rfl rfl rfl rfl) ?_
  refine l_val rfl (o_assign rfl) ?_
  refine l_val rfl (o_assign rfl) ?_
  refine l_nil ?_
  refine kt_norm ?_
  refine v_sel [2, 3, 10, 11, 12] [10] rfl rfl ?_
  refine v_seq ?_
  refine v_seq ?_
  refine v_region ?_
  refine l_val rfl (o_move rfl) ?_
  refine l_split rfl (o_neq rfl rfl) (fun q1 => absurd q1 (by omega)) (fun q1 => ?_)
  refine l_nil ?_
  refine kt_norm ?_
  refine v_condF rfl ?_
  refine v_skip ?_
  refine kt_norm ?_
  refine v_seq ?_
  refine v_seq ?_
  refine v_region ?_
  refine l_val rfl (o_move rfl) ?_
  refine l_val rfl (o_move rfl) ?_
  refine l_no rfl ?_
  refine l_no rfl ?_
  refine l_no rfl ?_
  refine l_no rfl ?_
  refine l_no rfl ?_
  refine l_val rfl (o_pickF rfl rfl) ?_
  refine l_nil ?_
  refine kt_norm ?_
  refine v_sel [10, 34] [10] rfl rfl ?_
  refine v_condF rfl ?_
  refine v_skip ?_
  refine kt_norm ?_
  refine v_seq ?_
  refine v_region ?_
  refine l_val rfl (o_loadW (key := 10) rfl rfl rfl) ?_
  refine l_ans (vs := [_]) rfl rfl (a_Narrow _ ?_) ?_
  · omega
  refine l_val rfl (o_move rfl) ?_
  refine l_val rfl (o_extract rfl rfl) ?_
  refine l_val rfl (o_extract rfl rfl) ?_
  refine l_val rfl (o_assign rfl) ?_
  refine l_val rfl (o_assign rfl) ?_
  refine l_nil ?_
  refine kt_norm ?_
  refine v_sel [13, 14] [] rfl rfl ?_
  refine v_seq ?_
  refine v_seq ?_
  refine v_region ?_
  refine l_val rfl (o_move rfl) ?_
  refine l_val rfl (o_not rfl rfl) ?_
  refine l_nil ?_
  refine kt_norm ?_
  refine v_condF rfl ?_
  refine v_skip ?_
  refine kt_norm ?_
  refine v_seq ?_
  refine v_region ?_
  refine l_val rfl (o_move rfl) ?_
  refine l_val rfl (o_assign rfl) ?_
  refine l_val rfl (o_assign rfl) ?_
  refine l_nil ?_
  refine kt_norm ?_
  refine v_ret ?_
  refine ⟨[_, _], .cons (.tmp rfl) (.cons (.tmp rfl) (ResAll.nil)), ?_⟩
  rfl



theorem a_Neg (x y : Int) (hx : -1099511627776 ≤ x ∧ x ≤ 1099511627776) (hy : -1099511627776 ≤ y ∧ y ≤ 1099511627776) : Ans Try.prog 48 [.agg #[.int .i64 x, .int .i64 y]] (.agg #[.int .i64 (-x), .int .i64 (-y)]) := by
  refine ans_of Try.func48 rfl Try.ntmps48 Try.results48 rfl rfl fun w => ?_
  refine v_seq ?_
  refine v_region ?_
  refine l_new rfl (o_box (cs := [_, _]) rfl rfl) fun b1 => ?_
  refine l_new rfl o_alloc fun b2 => ?_
  refine l_nil ?_
  refine kt_norm ?_
  refine v_seq ?_
  refine v_region ?_
  refine l_val rfl (o_fld rfl) ?_
  refine l_val rfl (o_load1 (key := 1) rfl rfl rfl) ?_
  refine l_val rfl (o_negi rfl ?_) ?_
  · omega
  refine l_val rfl (o_fld rfl) ?_
  refine l_val rfl (o_load1 (key := 1) rfl rfl rfl) ?_
  refine l_val rfl (o_negi rfl ?_) ?_
  · omega
  refine l_val rfl (o_build (vs := [_, _]) (cs := [_, _]) rfl rfl) ?_
  refine l_store rfl (o_storeW (key := 2) (xs := [_, _]) rfl rfl rfl rfl rfl rfl rfl) ?_
  refine l_nil ?_
  refine kt_norm ?_
  refine v_sel [2] [2] rfl rfl ?_
  refine v_ret ?_
  refine ⟨[_], .cons (.cellW (key := 2) rfl rfl rfl) (ResAll.nil), ?_⟩
  rfl
theorem a_PAdd (x y u v : Int) (hx : -1099511627776 ≤ x ∧ x ≤ 1099511627776) (hy : -1099511627776 ≤ y ∧ y ≤ 1099511627776) (hu : -1099511627776 ≤ u ∧ u ≤ 1099511627776) (hv : -1099511627776 ≤ v ∧ v ≤ 1099511627776) : Ans Try.prog 60 [.agg #[.int .i64 x, .int .i64 y], .agg #[.int .i64 u, .int .i64 v]] (.agg #[.int .i64 (x + u), .int .i64 (y + v)]) := by
  refine ans_of Try.func60 rfl Try.ntmps60 Try.results60 rfl rfl fun w => ?_
  refine v_seq ?_
  refine v_region ?_
  refine l_new rfl (o_box (cs := [_, _]) rfl rfl) fun b2 => ?_
  refine l_new rfl (o_box (cs := [_, _]) rfl rfl) fun b3 => ?_
  refine l_new rfl o_alloc fun b4 => ?_
  refine l_nil ?_
  refine kt_norm ?_
  refine v_seq ?_
  refine v_region ?_
  refine l_val rfl (o_fld rfl) ?_
  refine l_val rfl (o_load1 (key := 2) rfl rfl rfl) ?_
  refine l_val rfl (o_fld rfl) ?_
  refine l_val rfl (o_load1 (key := 3) rfl rfl rfl) ?_
  refine l_val rfl (o_addi rfl rfl ?_) ?_
  · omega
  refine l_val rfl (o_fld rfl) ?_
  refine l_val rfl (o_load1 (key := 2) rfl rfl rfl) ?_
  refine l_val rfl (o_fld rfl) ?_
  refine l_val rfl (o_load1 (key := 3) rfl rfl rfl) ?_
  refine l_val rfl (o_addi rfl rfl ?_) ?_
  · omega
  refine l_val rfl (o_build (vs := [_, _]) (cs := [_, _]) rfl rfl) ?_
  refine l_store rfl (o_storeW (key := 4) (xs := [_, _]) rfl rfl rfl rfl rfl rfl rfl) ?_
  refine l_nil ?_
  refine kt_norm ?_
  refine v_sel [4] [4] rfl rfl ?_
  refine v_ret ?_
  refine ⟨[_], .cons (.cellW (key := 4) rfl rfl rfl) (ResAll.nil), ?_⟩
  rfl
theorem a_PSub (x y u v : Int) (hx : -1099511627776 ≤ x ∧ x ≤ 1099511627776) (hy : -1099511627776 ≤ y ∧ y ≤ 1099511627776) (hu : -1099511627776 ≤ u ∧ u ≤ 1099511627776) (hv : -1099511627776 ≤ v ∧ v ≤ 1099511627776) : Ans Try.prog 64 [.agg #[.int .i64 x, .int .i64 y], .agg #[.int .i64 u, .int .i64 v]] (.agg #[.int .i64 (x - u), .int .i64 (y - v)]) := by
  refine ans_of Try.func64 rfl Try.ntmps64 Try.results64 rfl rfl fun w => ?_
  refine v_seq ?_
  refine v_region ?_
  refine l_new rfl (o_box (cs := [_, _]) rfl rfl) fun b2 => ?_
  refine l_new rfl (o_box (cs := [_, _]) rfl rfl) fun b3 => ?_
  refine l_new rfl o_alloc fun b4 => ?_
  refine l_nil ?_
  refine kt_norm ?_
  refine v_seq ?_
  refine v_drawZ [[2], [3], [], [], [4]] mixed ?_ (by kernel_rfl) (by kernel_rfl)
  refine d_val (fun _ => rfl) rfl rfl (fun _ => o_loadW (key := 2) rfl rfl rfl) ?_
  refine d_val (fun _ => rfl) rfl rfl (fun _ => o_loadW (key := 3) rfl rfl rfl) ?_
  refine d_ans (vs := [_]) (fun _ => rfl) (fun _ => rfl) (a_Neg _ _ ?_ ?_) ?_
  · omega
  · omega
  refine d_ans (vs := [_, _]) (fun _ => rfl) (fun _ => rfl) (a_PAdd _ _ _ _ ?_ ?_ ?_ ?_) ?_
  · omega
  · omega
  · omega
  · omega
  refine d_store (fun _ => rfl) rfl rfl (fun _ => o_storeW (key := 4) (xs := [_, _]) rfl rfl rfl rfl rfl rfl rfl) ?_
  refine d_nil (fun σ => ?_)
  refine l_nil ?_
  refine kt_norm ?_
  refine v_sel [4] [4] rfl rfl ?_
  refine v_ret ?_
  refine ⟨[_], .cons (.cellW (key := 4) rfl rfl rfl) (ResAll.nil), ?_⟩
  show Value.agg #[.int .i64 (x + -u), .int .i64 (y + -v)] = _
  rw [show x + -u = x - u by omega, show y + -v = y - v by omega]




end Go.Proofs.Ytpgjbalnipinoaa

/- The edges of pieces, one by one; the edges of a piece. Conditions: none. -/
namespace Go.Proofs.Ytpgjbalnipinoaa
open Go.Proofs Go.RowKit Go.Shelf

/-- the edge that leaves the j-th point -/
def edgesAt (pc : List PtT) (j : Nat) : List EdgeT := if (edgeOf (pc.getD j dP) (pc.getD ((j + 1) % pc.length) dP)).fr < (edgeOf (pc.getD j dP) (pc.getD ((j + 1) % pc.length) dP)).to then [edgeOf (pc.getD j dP) (pc.getD ((j + 1) % pc.length) dP)] else []
def edgesTo (pc : List PtT) (j : Nat) : List EdgeT := (List.range j).flatMap (edgesAt pc)
def edgesOf (pc : List PtT) : List EdgeT := edgesTo pc pc.length
def edgesAll (ps : List (List PtT)) : List EdgeT := ps.flatMap edgesOf
theorem edgesTo_succ (pc : List PtT) (j : Nat) : edgesTo pc (j + 1) = edgesTo pc j ++ edgesAt pc j := by
  unfold edgesTo; rw [List.range_succ, List.flatMap_append]; simp
theorem edgesAt_yes {pc : List PtT} {j : Nat} (h : (edgeOf (pc.getD j dP) (pc.getD ((j + 1) % pc.length) dP)).fr < (edgeOf (pc.getD j dP) (pc.getD ((j + 1) % pc.length) dP)).to) : edgesAt pc j = [edgeOf (pc.getD j dP) (pc.getD ((j + 1) % pc.length) dP)] := if_pos h
theorem edgesAt_no {pc : List PtT} {j : Nat} (h : ¬ (edgeOf (pc.getD j dP) (pc.getD ((j + 1) % pc.length) dP)).fr < (edgeOf (pc.getD j dP) (pc.getD ((j + 1) % pc.length) dP)).to) : edgesAt pc j = [] := if_neg h
theorem edgesTo_split (pc : List PtT) {j n : Nat} (h : j ≤ n) : ∃ r, edgesTo pc n = edgesTo pc j ++ r := by
  induction n with
  | zero =>
    obtain rfl : j = 0 := by omega
    exact ⟨[], by simp⟩
  | succ n ih =>
    by_cases e : j = n + 1
    · exact ⟨[], by rw [e]; simp⟩
    · obtain ⟨r, hr⟩ := ih (by omega)
      exact ⟨r ++ edgesAt pc n, by rw [edgesTo_succ, hr, List.append_assoc]⟩
theorem edgesTo_len (pc : List PtT) (j : Nat) : (edgesTo pc j).length ≤ j := by
  induction j with
  | zero => exact Nat.le_refl 0
  | succ j ih =>
    rw [edgesTo_succ, List.length_append]
    have : (edgesAt pc j).length ≤ 1 := by unfold edgesAt; split <;> simp
    omega
theorem all_take_succ {ps : List (List PtT)} {i : Nat} (hi : i < ps.length) : edgesAll (ps.take (i + 1)) = edgesAll (ps.take i) ++ edgesOf (ps.getD i []) := by
  unfold edgesAll
  rw [List.take_add_one, List.getElem?_eq_getElem hi, List.flatMap_append, List.getD_eq_getElem?_getD, List.getElem?_eq_getElem hi]
  simp
/-- the edge that is handed on -/
theorem edgesAll_get {ps : List (List PtT)} {i j : Nat} {e : EdgeT} (hi : i < ps.length) (hj : j < (ps.getD i []).length) (he : edgesAt (ps.getD i []) j = [e]) : (edgesAll ps)[(edgesAll (ps.take i) ++ edgesTo (ps.getD i []) j).length]? = some e := by
  have h1 : edgesAll ps = edgesAll (ps.take (i + 1)) ++ edgesAll (ps.drop (i + 1)) := by
    unfold edgesAll; rw [← List.flatMap_append, List.take_append_drop]
  obtain ⟨r, hr⟩ := edgesTo_split (ps.getD i []) (j := j + 1) (n := (ps.getD i []).length) (by omega)
  rw [h1, all_take_succ hi, edgesOf, hr, edgesTo_succ, he]
  simp only [List.append_assoc]
  rw [← List.append_assoc (edgesAll _), List.getElem?_append_right (Nat.le_refl _), Nat.sub_self]
  rfl
theorem near_getD {pc : List PtT} (h : ∀ p ∈ pc, NearT p) {j : Nat} (hj : j < pc.length) : NearT (pc.getD j dP) := by
  rw [List.getD_eq_getElem?_getD, List.getElem?_eq_getElem hj]; exact h _ (List.getElem_mem hj)
/-- pieces that lie in memory: what is said of them whatever the world -/
structure PcsV (v : Value) (pvs : List Value) (ps : List (List PtT)) : Prop where
  V : RowV v ps.length
  lenv : pvs.length = ps.length
  len : ps.length ≤ 1099511627776
  pV : ∀ i, i < ps.length → RowV (pvs.getD i undef) (ps.getD i []).length
  short : ∀ i, i < ps.length → (ps.getD i []).length ≤ 1099511627776
  near : ∀ i, i < ps.length → ∀ p ∈ ps.getD i [], NearT p
structure PcsAt (w : World) (v : Value) (pvs : List Value) (ps : List (List PtT)) : Prop where
  row : RowAt w v 1 ps.length pvs
  pc : ∀ i, i < ps.length → RowAt w (pvs.getD i undef) 2 (ps.getD i []).length ((ps.getD i []).flatMap eP)
theorem PcsAt.keep {w w' : World} {v : Value} {pvs : List Value} {ps : List (List PtT)} (h : PcsAt w v pvs ps) (hc : Chg (fun _ => False) w w') : PcsAt w' v pvs ps := ⟨h.row.chg hc (fun h => h), fun i hi => (h.pc i hi).chg hc (fun h => h)⟩



theorem pcsV_one {v pv : Value} {pc : List PtT} (h : RowV v 1) (hV : RowV pv pc.length) (hs : pc.length ≤ 1000000) (hn : ∀ p ∈ pc, NearT p) : PcsV v [pv] [pc] :=
  ⟨h, rfl, (show 1 ≤ 1099511627776 by omega), fun i hi => by (obtain rfl : i = 0 := by simpa using hi); exact hV, fun i hi => by (obtain rfl : i = 0 := by simpa using hi); show pc.length ≤ _; omega, fun i hi => by (obtain rfl : i = 0 := by simpa using hi); exact hn⟩
theorem edgesAll_one (pc : List PtT) : edgesAll [pc] = edgesOf pc := by simp [edgesAll]
theorem edgesAll_one_len (pc : List PtT) : (edgesAll [pc]).length ≤ pc.length := by rw [edgesAll_one]; exact edgesTo_len pc _

end Go.Proofs.Ytpgjbalnipinoaa

/- Points that come in; pieces whose corners are near. Conditions: none. -/
namespace Go.Proofs.Ytpgjbalnipinoaa
open Go.Proofs Go.RowKit Go.Shelf

instance (p : PtT) : Decidable (NearT p) := by unfold NearT; infer_instance
theorem pts_of : ∀ (n : Nat) (xs : List Value), xs.length = n * 2 → (∀ u ∈ xs, IsInt u) → ∃ pc : List PtT, pc.length = n ∧ pc.flatMap eP = xs ∧ ∀ p ∈ pc, (Lit.int .i64 p.x).wf = true ∧ (Lit.int .i64 p.y).wf = true
  | 0, [], _, _ => ⟨[], rfl, rfl, fun p hp => by simp at hp⟩
  | n + 1, u :: v :: r, hl, h => by
    obtain ⟨a, rfl, ha⟩ := h u (by simp)
    obtain ⟨b, rfl, hb⟩ := h v (by simp)
    obtain ⟨pc, h1, h2, h3⟩ := pts_of n r (by simp at hl; omega) (fun w hw => h w (by simp [hw]))
    refine ⟨⟨a, b⟩ :: pc, by simp [h1], by rw [List.flatMap_cons, h2]; rfl, fun p hp => ?_⟩
    rcases List.mem_cons.1 hp with rfl | hp
    · exact ⟨ha, hb⟩
    · exact h3 p hp
  | 0, _ :: _, hl, _ => by simp at hl
  | n + 1, [], hl, _ => by simp at hl
  | n + 1, [_], hl, _ => by simp at hl; omega
/-- pieces in memory, of whatever length -/
structure PcsW (v : Value) (pvs : List Value) (ps : List (List PtT)) : Prop where
  V : RowV v ps.length
  lenv : pvs.length = ps.length
  len : ps.length ≤ 9223372036854775807
  pV : ∀ i, i < ps.length → RowV (pvs.getD i undef) (ps.getD i []).length
def BndP (pc : List PtT) : Prop := pc.length ≤ 16 ∧ ∀ j, j < pc.length → NearT (pc.getD j dP)
def Bnd (ps : List (List PtT)) : Prop := ps.length ≤ 20 ∧ ∀ i, i < ps.length → BndP (ps.getD i [])
instance (pc : List PtT) : Decidable (BndP pc) := by unfold BndP; infer_instance
instance (ps : List (List PtT)) : Decidable (Bnd ps) := by unfold Bnd; infer_instance
theorem BndP.near {pc : List PtT} (h : BndP pc) : ∀ p ∈ pc, NearT p := fun p hp => by
  obtain ⟨j, hj, rfl⟩ := List.getElem_of_mem hp
  have := h.2 j hj
  rwa [List.getD_eq_getElem?_getD, List.getElem?_eq_getElem hj] at this
theorem Bnd.pcsV {v : Value} {pvs : List Value} {ps : List (List PtT)} (h : Bnd ps) (hv : PcsW v pvs ps) : PcsV v pvs ps :=
  ⟨hv.V, hv.lenv, by have := h.1; omega, hv.pV, fun i hi => by have := (h.2 i hi).1; omega, fun i hi => (h.2 i hi).near⟩
theorem maxLen_le : maxLen = 9223372036854775807 := by decide
theorem decide_congr {p q : Prop} [Decidable p] [Decidable q] (h : p ↔ q) : decide p = decide q := by
  by_cases hp : p
  · rw [decide_eq_true hp, decide_eq_true (h.1 hp)]
  · rw [decide_eq_false hp, decide_eq_false (fun hq => hp (h.2 hq))]

end Go.Proofs.Ytpgjbalnipinoaa
