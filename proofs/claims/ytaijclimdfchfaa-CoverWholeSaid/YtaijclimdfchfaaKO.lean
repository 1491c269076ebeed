import Derived.Test.YtaijclimdfchfaaKJ
/- Regions that draw their order: calls that make rows, rows that grow, slices of rows. Conditions: none. -/
namespace Go.Proofs.Ytaijclimdfchfaa
open Go.Proofs Go.RowKit
variable {C : Cx} {K : Exit → St → Prop} {ops : Array Oper} {rest : List Oper} {l l' : List (Nat × Value)} {m m' : List (Nat × Hp)} {g : World → Prop} {gb : Nat → Prop} {dd : List Nat}
  {i : Nat} {d : Option Nat} {op : Op} {ty : TypeId} {pos : String} {aft : Array Edge} {gd : Option (Nat × Bool)} {ks : List Nat} {y : Value} {T T' E : TypeId} {s : St} {x z : Operand} {v u : Value} {n esz j : Nat} {xs : List Value}
  {a : Act} {w w' : World} {f : Nat} {cal : Operand} {as_ : Array Operand} {ts : Array TypeId} {vs : List Value}
  {wf : Nat → Value → Prop} {L : Pr wf → List (Nat × Value)} {M : Pr wf → List (Nat × Hp)} {os : List Oper} {κ : List Nat} {κs : List (List Nat)}
theorem RowV.to {v : Value} {n n' : Nat} (h : RowV v n) (e : n = n') : RowV v n' := e ▸ h
/-- rows that are drawn: how long each is -/
def rowsWf (l : List (Nat × Nat)) : Nat → Value → Prop := fun d v => match lk l d with | some n => RowV v n | none => True
def rowsPr (l : List (Nat × Nat)) : Pr (rowsWf l) := ⟨fun _ => 0, fun d => match lk l d with | some n => .slice (some ⟨0, 0, none⟩) n n | none => undef, fun d => by
  unfold rowsWf
  cases lk l d with
  | none => trivial
  | some n => exact .inl ⟨_, _, _, rfl⟩⟩
theorem v_drawW {id : Nat} (rl : List (Nat × Nat)) (κs : List (List Nat)) (hm : C.P.follows .mixedOrders = true) (h : VDZ C os.toArray os κs K (fun _ : Pr (rowsWf rl) => mk l m g gb dd)) (hle : (os.take κs.length).length = κs.length) (hok : drawOk os ((os.take κs.length).zip κs) = true) : V C (.region id os.toArray true) K (mk l m g gb dd) :=
  v_draw (rowsPr rl) κs hm hle hok h.vd
/-- a row by another name -/
theorem l_ren (key key' : Nat) (keep : List Nat) (hk : lk m key = some (.own v E esz n xs)) (hs : sel keep m = some m') (hkeep : keep.contains key = false) (next : VL C ops rest K (mk l ((key', .own v E esz n xs) :: m') g gb dd)) : VL C ops rest K (mk l m g gb dd) :=
  fun a w hr => next a w (rep_ownL hr hk (Chg.refl _ w) (hr.mo key _ hk).1 (fun b hb => .inl hb) key' keep hs hkeep)
/-- a call that makes a row -/
theorem d_gown (hw : ∀ σ, wantS C (mk (L σ) (M σ) g gb dd) ops ⟨some i, .call { callee := .value cal, args := as_, argTypes := ts }, ty, pos, aft, gd⟩ = some true) {caps : Array Value} (hcal : ∀ σ, ev C (mk (L σ) (M σ) g gb dd) cal = some (.func (.func f) #[] caps)) (hent : ∀ args w, (callFunc f args).run C.P w = .ok (.enter f args) w)
    {vs : Pr wf → List Value} (hargs : ∀ σ, evs C (mk (L σ) (M σ) g gb dd) as_.toList = some (vs σ)) (hwf : ∀ y, RowV y n → wf i y)
    (hc : ∀ σ w, g w → Held (mk (L σ) (M σ) g gb dd) κ w → Calls C.P f ((vs σ).toArray ++ caps) w fun e w' => ∃ y, e = .returned y ∧ Below w.heap.size w w' ∧ OwnAt w.heap.size w' y E esz n xs)
    (next : VDZ C ops os κs K (fun σ => mk ((i, σ.v i) :: L σ) ((i, .own (σ.v i) E esz n xs) :: M σ) g gb dd)) : VDZ C ops (⟨some i, .call { callee := .value cal, args := as_, argTypes := ts }, ty, pos, aft, gd⟩ :: os) (κ :: κs) K (fun σ => mk (L σ) (M σ) g gb dd) :=
  d_cons (.inl ⟨hw, .own i (fun y => RowV y n) (fun y => .own y E esz n xs) rfl rfl hwf fun σ => ⟨by simp, fun ρ w hr hg hh => ⟨f, _, by rw [run_callTo (rd1 hr callee_mem (hcal σ)) (args_of hr (hargs σ))]; exact hent _ w, (hc σ w hg hh).mono fun e w' ⟨y, h1, h2, h3⟩ => ⟨y, h1, h3.rowV, h2, h3.1, h3.2⟩⟩⟩⟩)
    (by simp only [appP, appS, mk_mem, mk_put]; exact next)
/-- a call that answers, and reads what is held -/
theorem d_gcall (hw : ∀ σ, wantS C (mk (L σ) (M σ) g gb dd) ops ⟨some i, .call { callee := .value cal, args := as_, argTypes := ts }, ty, pos, aft, gd⟩ = some true) {caps : Array Value} (hcal : ∀ σ, ev C (mk (L σ) (M σ) g gb dd) cal = some (.func (.func f) #[] caps)) (hent : ∀ args w, (callFunc f args).run C.P w = .ok (.enter f args) w)
    {vs : Pr wf → List Value} (hargs : ∀ σ, evs C (mk (L σ) (M σ) g gb dd) as_.toList = some (vs σ)) (hc : ∀ σ w, g w → Held (mk (L σ) (M σ) g gb dd) κ w → Calls C.P f ((vs σ).toArray ++ caps) w fun e w' => e = .returned y ∧ Below w.heap.size w w')
    (next : VDZ C ops os κs K (fun σ => mk ((i, y) :: L σ) (M σ) g gb dd)) : VDZ C ops (⟨some i, .call { callee := .value cal, args := as_, argTypes := ts }, ty, pos, aft, gd⟩ :: os) (κ :: κs) K (fun σ => mk (L σ) (M σ) g gb dd) :=
  d_call hw (fun σ => ⟨by simp, fun ρ w hr hg hh => ⟨f, _, by rw [run_callTo (rd1 hr callee_mem (hcal σ)) (args_of hr (hargs σ))]; exact hent _ w, hc σ w hg hh⟩⟩) next
/-- append -/
theorem d_app (key : Nat) {ts by_ mm : Nat} {zv : Value} {v u : Pr wf → Value} {xs ys : Pr wf → List Value} {X Y : Operand} [ht : TSl C.P ts E esz] [he : TElem C.P E zv esz by_] (hw : ∀ σ, wantS C (mk (L σ) (M σ) g gb dd) ops ⟨some i, .call { callee := .builtin .append, args := #[X, Y], argTypes := #[ts, ts] }, ty, pos, aft, gd⟩ = some true)
    (h : ∀ σ, ev C (mk (L σ) (M σ) g gb dd) X = some (v σ)) (hk : ∀ σ, lk (M σ) key = some (.own (v σ) E esz n (xs σ))) (h2 : ∀ σ, ev C (mk (L σ) (M σ) g gb dd) Y = some (u σ)) (hby : Nat.ble by_ 128 = true) (hu : ∀ σ, RowV (u σ) mm) (hrow : ∀ σ, RowIn (mk (L σ) (M σ) g gb dd) κ (u σ) esz mm (ys σ))
    (hlen : n + mm ≤ 1099511627776) (hwf : ∀ y, RowV y (n + mm) → wf i y)
    (next : VDZ C ops os κs K (fun σ => mk ((i, σ.v i) :: L σ) ((key, .own (σ.v i) E esz (n + mm) (xs σ ++ ys σ)) :: M σ) g gb dd)) : VDZ C ops (⟨some i, .call { callee := .builtin .append, args := #[X, Y], argTypes := #[ts, ts] }, ty, pos, aft, gd⟩ :: os) ((key :: κ) :: κs) K (fun σ => mk (L σ) (M σ) g gb dd) :=
  d_cons (.inl ⟨hw, .app i key (fun σ => .own (v σ) E esz n (xs σ)) (fun y => RowV y (n + mm)) (fun σ y => .own y E esz (n + mm) (xs σ ++ ys σ)) rfl rfl rfl hwf fun σ => ⟨by simp, hk σ, fun ρ w hr hg hh hok => by
      have hX : ρ X = v σ := rd1 hr (by simp [Op.operands, Call.operands]) (h σ)
      have hY : ρ Y = u σ := rd1 hr (by simp [Op.operands, Call.operands]) (h2 σ)
      have hrw := hrow σ w hg hh
      obtain ⟨v', w', h3, h4, h5, h6⟩ := append_run (P := C.P) (ts := ts) (ty := ty) hok (hu σ) hrw hlen hby
      have hone : ∀ u' ∈ xs σ ++ ys σ, u'.oneCell' = true := fun u' hu' => by
        rcases List.mem_append.1 hu' with h | h
        · exact hok.2 u' h
        · exact hrw.one u' h
      exact ⟨v', w', by simp [execOp, resolve, hX, hY, invoke, builtin, Sem.run_bind, Result.andThen, h3], rowV_own (w := w') ⟨h4, hone⟩, ⟨h4, hone⟩, h5, h6⟩⟩⟩)
    (by simp only [appP, appS, mk_mem, mk_put]; exact next)
/-- a slice that is written out, as a row of our own -/
theorem d_bsO {cs vs : Pr wf → List Value} {by_ : Nat} {zv : Value} {ps : Array (Nat × Operand)} [ht : TSl C.P T E esz] [he : TElem C.P E zv esz by_] (hw : ∀ σ, wantS C (mk (L σ) (M σ) g gb dd) ops ⟨some i, .buildSlice T n ps, ty, pos, aft, gd⟩ = some true)
    (h : ∀ σ, evs C (mk (L σ) (M σ) g gb dd) (ps.toList.map (·.2)) = some (vs σ)) (hf : ∀ σ, fillL ((List.range n).map fun i => (i * esz, esz)) (zerosOf zv.cells.toList n) ((ps.toList.map (·.1)).zip (vs σ)) = some (cs σ)) (hn : Nat.ble n 1000 = true) (hsz : Nat.ble esz 1000 = true) (hl : ∀ σ, (cs σ).length = n * esz) (h1 : ∀ σ, (cs σ).all (·.oneCell') = true)
    (next : VDZ C ops os κs K (fun σ => mk ((i, .slice (some ⟨σ.b i, 0, none⟩) n n) :: L σ) ((i, .own (.slice (some ⟨σ.b i, 0, none⟩) n n) E esz n (cs σ)) :: M σ) g gb dd)) : VDZ C ops (⟨some i, .buildSlice T n ps, ty, pos, aft, gd⟩ :: os) ([] :: κs) K (fun σ => mk (L σ) (M σ) g gb dd) :=
  d_cons (.inl ⟨hw, .newO i n E esz cs rfl rfl hl (by have := Nat.le_of_ble_eq_true hn; unfold maxLen; omega) (fun σ u hu => List.all_eq_true.1 (h1 σ) u hu) fun σ => o_bs (h σ) (hf σ) hn hsz⟩) (by simp only [appP, appS, mk_mem, mk_put]; exact next)

/-! ### slices of rows -/
theorem rowV_to (h : RowV v n) {hi : Nat} (hle : hi ≤ n) : RowV (subTo v hi) hi := by
  rcases h with ⟨b, o, c, rfl⟩ | ⟨rfl, rfl⟩ | ⟨a, c, rfl, rfl⟩
  · exact .inl ⟨_, _, _, rfl⟩
  · obtain rfl : hi = 0 := by omega
    exact .inr (.inl ⟨rfl, rfl⟩)
  · obtain rfl : hi = 0 := by omega
    exact .inr (.inr ⟨_, _, rfl, rfl⟩)
theorem rowV_from (h : RowV v n) {lo : Nat} (hle : lo ≤ n) : RowV (subFrom v esz lo) (n - lo) := by
  rcases h with ⟨b, o, c, rfl⟩ | ⟨rfl, rfl⟩ | ⟨a, c, rfl, rfl⟩
  · simp only [subFrom]
    by_cases e : c = lo
    · rw [if_pos e]; exact .inl ⟨_, _, _, rfl⟩
    · rw [if_neg e]; exact .inl ⟨b, o + lo * esz, c - lo, by simp [addAt]⟩
  · obtain rfl : lo = 0 := by omega
    exact .inr (.inl ⟨rfl, rfl⟩)
  · obtain rfl : lo = 0 := by omega
    simp only [subFrom]
    by_cases e : c = 0
    · rw [if_pos e]; exact .inr (.inr ⟨_, _, rfl, rfl⟩)
    · rw [if_neg e]; exact .inr (.inr ⟨_, _, rfl, rfl⟩)
theorem rowAt_to {w : World} (h : RowAt w v esz n xs) {hi : Nat} (hle : hi ≤ n) : RowAt w (subTo v hi) esz hi (xs.take (hi * esz)) := by
  have e1 : blkOf (subTo v hi) = blkOf v := by
    cases v with
    | slice a _ _ => cases a <;> rfl
    | _ => rfl
  have e2 : offOf (subTo v hi) = offOf v := by
    cases v with
    | slice a _ _ => cases a <;> rfl
    | _ => rfl
  refine ⟨by rw [List.length_take, h.len, Nat.min_eq_left (Nat.mul_le_mul_right _ hle)], fun j u hu => ?_, fun u hu => h.one u (List.mem_of_mem_take hu)⟩
  rw [e1, e2]
  rw [List.getElem?_take] at hu
  split at hu
  · exact h.at_ j u hu
  · cases hu
theorem rowAt_from {w : World} (hok : (Hp.own v E esz n xs).ok w) {lo : Nat} (hle : lo ≤ n) : RowAt w (subFrom v esz lo) esz (n - lo) (xs.drop (lo * esz)) := by
  have h := rowAt_own hok
  refine ⟨by rw [List.length_drop, h.len, Nat.sub_mul], fun j u hu => ?_, fun u hu => h.one u (List.mem_of_mem_drop hu)⟩
  rw [List.getElem?_drop] at hu
  have h1 := h.at_ _ u hu
  have hj : lo * esz + j < xs.length := (List.getElem?_eq_some_iff.1 hu).1
  rcases hok.1.2 with ⟨rfl, rfl⟩ | ⟨g', cap, cur, rfl, h0, hg, hnc, hcm, hcs, htake⟩
  · have := h.len; omega
  · by_cases e : cap = lo
    · have hnl : n = lo := by omega
      have := h.len
      subst hnl
      omega
    · simp only [subFrom, if_neg e, Option.map_some, addAt, blkOf, offOf] at h1 ⊢
      rw [Nat.add_assoc]; exact h1
theorem o_sliceTo {key : Nat} {k : IntKind} {q : Int} (hi : Nat) [ht : TSl C.P T E esz] (h : ev C s x = some v) (hm : s.m key = some (.own v E esz n xs)) (h2 : ev C s z = some (.int k q)) (hq : q = ((hi : Nat) : Int)) (hle : hi ≤ n) : OpV C s ⟨d, .slice T x none (some z) none, ty, pos, aft, gd⟩ [key] (subTo v hi) :=
  ⟨by simp, fun ρ w hr _ hh => by
    have hx := rd1 hr (x := x) (by simp [Op.operands]) h
    have hz := rd1 hr (x := z) (by simp [Op.operands]) h2
    subst hq
    have hok : (Hp.own v E esz n xs).ok w := hh key (by simp) _ hm
    have main : (Instr.sliceAt T v none (some (.int k hi)) none).run C.P w = .ok (subTo v hi) w := by
      rcases hok.1.2 with ⟨rfl, rfl⟩ | ⟨g', cap, cur, rfl, h0, hg, hnc, hcm, hcs, htake⟩
      · obtain rfl : hi = 0 := by omega
        exact run_sliceTo 0 (Nat.le_refl 0)
      · exact run_sliceTo n (by omega)
    simp [execOp, hx, hz, main, Sem.run_bind, Result.andThen]⟩
theorem row_to {key hi : Nat} (hm : s.m key = some (.own v E esz n xs)) (hle : hi ≤ n) : RowIn s [key] (subTo v hi) esz hi (xs.take (hi * esz)) := fun w _ hh => rowAt_to (rowAt_own (hh key (by simp) _ hm)) hle
theorem row_from {key lo : Nat} (hm : s.m key = some (.own v E esz n xs)) (hle : lo ≤ n) : RowIn s [key] (subFrom v esz lo) esz (n - lo) (xs.drop (lo * esz)) := fun w _ hh => rowAt_from (hh key (by simp) _ hm) hle
end Go.Proofs.Ytaijclimdfchfaa
