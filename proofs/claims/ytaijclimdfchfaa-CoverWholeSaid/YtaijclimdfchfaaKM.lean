import Derived.Test.YtaijclimdfchfaaKL
import Derived.Deep.Slices
import Derived.Deep.Fields
import Derived.Carry
/- What comes in, opened: integers, structs of integers, rows of these; and shut again. Conditions: none. -/
namespace Go.Proofs.Ytaijclimdfchfaa
open Go.Proofs Go.RowKit Go.ChangeShapes Go.WideShapes Go.ChangeAt Go.Deep
section
variable {H : Type} {enc : TypeId × Value → H} {P : Program} {w w' : World} {base : Nat} {spare : Nat → Bool} {held : Bool}
/-- what came in reads as it did -/
theorem trodAll_keep (hl : laidOutB P = true) (hb : Below w.heap.size w w') (sp : Nat → Bool) : ∀ (ts : List TypeId) (vs : List Value) (ds : List (DataW H)) (ps : List MemPlace), ts.all (fun t => P.readableRec t && decide (t < P.types.size)) = true → DataW.TrodAll enc P w 0 (fun _ => true) true ts vs ds ps →
    (∀ x ∈ ps, x.block < w.heap.size) → (∀ x ∈ ps, sp x.block = true) → DataW.TrodAll enc P w' 0 sp true ts vs ds ps
  | [], vs, ds, ps, _, h, _, _ => by
    obtain ⟨rfl, rfl, rfl⟩ := trodAll_nil h
    exact trodAll_mk0
  | t :: ts, vs, ds, ps, hr, h, hlt, hsp => by
    obtain ⟨v, vs', d, ds', p, q, rfl, rfl, rfl, h1, h2⟩ := trodAll_cons h
    simp only [List.all_cons, Bool.and_eq_true, decide_eq_true_eq] at hr
    exact ⟨p, q, WideElems.Trod_stays hl hr.1.1 hr.1.2 h1 (fun x hx => hb.same (hlt x (List.mem_append_left _ hx))) (fun x hx => hsp x (List.mem_append_left _ hx)),
      trodAll_keep hl hb sp ts vs' ds' q hr.2 h2 (fun x hx => hlt x (List.mem_append_right _ hx)) (fun x hx => hsp x (List.mem_append_right _ hx)), rfl⟩

/-- an integer of 64 bits -/
def IsInt (v : Value) : Prop := ∃ a, v = .int .i64 a ∧ (Lit.int .i64 a).wf = true
theorem open_ints {e T : TypeId} {fs : Array Field} {fuel : Nat} {cs : List Value} {x : DataW H × List MemPlace} (he : P.underlying e = some (.struct fs)) (hone : oneCellFields P fs = true) (hC : P.cellsOf e = fs.size) (hty : fs.all (fun f => f.type == T) = true)
    (hT : P.underlying T = some (.int .i64)) (h : DataW.trod enc P w base spare held fuel e cs = some x) : cs.length = fs.size ∧ ∀ u ∈ cs, IsInt u := by
  obtain ⟨ys, n, _, _, hlen, hyl, hf⟩ := DataW.trod_struct he h
  refine ⟨hlen.trans hC, fun u hu => ?_⟩
  obtain ⟨j, hj, rfl⟩ := List.getElem_of_mem hu
  have hjl : j < fs.size := by omega
  have hfj : fs[j]? = some fs[j] := Array.getElem?_eq_getElem hjl
  obtain ⟨ho, hk⟩ := hone_of hone j _ hfj
  have h1 := hf j _ hfj
  have ht : fs[j].type = T := by simpa using Array.all_eq_true.1 hty j hjl
  rw [ho, hk, ht, List.drop_eq_getElem_cons hj] at h1
  have hys : ys[j]? = some (ys[j]'(by omega)) := List.getElem?_eq_getElem (by omega)
  rw [hys] at h1
  obtain ⟨a, h2, _, h3⟩ := DataW.trod_int hT h1
  simp only [List.take_succ_cons, List.take_zero, List.cons.injEq, and_true] at h2
  exact ⟨a, h2, h3⟩
theorem ints2_of (cs : List Value) (hl : cs.length = 2) (h : ∀ u ∈ cs, IsInt u) : ∃ x y : Int, cs = [.int .i64 x, .int .i64 y] ∧ (Lit.int .i64 x).wf = true ∧ (Lit.int .i64 y).wf = true := by
  match cs, hl with
  | [u, v], _ =>
    obtain ⟨x, rfl, hx⟩ := h u (by simp)
    obtain ⟨y, rfl, hy⟩ := h v (by simp)
    exact ⟨x, y, rfl, hx, hy⟩
theorem ints4_of (cs : List Value) (hl : cs.length = 4) (h : ∀ u ∈ cs, IsInt u) : ∃ x y z t : Int, cs = [.int .i64 x, .int .i64 y, .int .i64 z, .int .i64 t] ∧ (Lit.int .i64 x).wf = true ∧ (Lit.int .i64 y).wf = true ∧ (Lit.int .i64 z).wf = true ∧ (Lit.int .i64 t).wf = true := by
  match cs, hl with
  | [u, v, u', v'], _ =>
    obtain ⟨x, rfl, hx⟩ := h u (by simp)
    obtain ⟨y, rfl, hy⟩ := h v (by simp)
    obtain ⟨z, rfl, hz⟩ := h u' (by simp)
    obtain ⟨t, rfl, ht⟩ := h v' (by simp)
    exact ⟨x, y, z, t, rfl, hx, hy, hz, ht⟩
/-- a struct of integers, by value -/
theorem open_aggI {r : Reach} {b0 : Nat} {t T : TypeId} {fs : Array Field} {v : Value} {d : DataW H} {p : List MemPlace} (hs : P.underlying t = some (.struct fs)) (hone : oneCellFields P fs = true) (hC : P.cellsOf t = fs.size) (hty : fs.all (fun f => f.type == T) = true)
    (hT : P.underlying T = some (.int .i64)) (hv : Value.okWide P w r b0 t v) (h : DataW.Trod enc P w base spare held t v d p) : ∃ cs : List Value, v = .agg cs.toArray ∧ cs.length = fs.size ∧ ∀ u ∈ cs, IsInt u := by
  obtain ⟨cs, rfl, _⟩ := okWide_struct hs hv
  obtain ⟨fuel, hf⟩ := h
  have := open_ints hs hone hC hty hT hf
  exact ⟨cs.toList, rfl, this⟩
/-- a row of structs of integers -/
theorem open_rowI {r : Reach} {b0 : Nat} {t e T : TypeId} {fs : Array Field} {v : Value} {d : DataW H} {p : List MemPlace} (ht : P.underlying t = some (.slice e)) (he : P.underlying e = some (.struct fs)) (hone : oneCellFields P fs = true) (hC : P.cellsOf e = fs.size) (hpos : 0 < fs.size) (hty : fs.all (fun f => f.type == T) = true)
    (hT : P.underlying T = some (.int .i64)) (hv : Value.okWide P w r b0 t v) (h : DataW.Trod enc P w base spare held t v d p) : ∃ (n : Nat) (xs : List Value), RowV v n ∧ n ≤ maxLen ∧ RowAt w v fs.size n xs ∧ ∀ u ∈ xs, IsInt u := by
  obtain ⟨a0, n0, c0, rfl⟩ := okWide_slice ht hv
  obtain ⟨fuel, hf⟩ := h
  rcases open_slice ht hf with ⟨h0, _⟩ | ⟨a, len, cap, m, n, D, Pl, hcs, hb, hl, hm, hmm, hx, hi⟩
  · simp only [Value.cells, List.cons.injEq, and_true] at h0
    rw [h0]
    exact ⟨0, [], .nil0, Nat.zero_le _, ⟨by simp, fun j u hu => by simp at hu, fun u hu => by simp at hu⟩, fun u hu => by simp at hu⟩
  · simp only [Value.cells, List.cons.injEq, and_true] at hcs
    rw [hcs]
    have hlm : len ≤ m := by rw [hmm]; split <;> omega
    have hel : ∀ i j, i < len → j < fs.size → ∃ u, w.cell? (a.add (i * fs.size + j)) = some u ∧ IsInt u := fun i j hil hj => by
      obtain ⟨cs', hc, htr⟩ := hi i (by omega)
      rw [hC] at hc
      obtain ⟨_, hcl, hat⟩ := World.cells?_some hc
      have := open_ints he hone hC hty hT htr
      have hjc : j < cs'.length := by omega
      refine ⟨cs'[j], ?_, this.2 _ (List.getElem_mem hjc)⟩
      rw [← add_add, hat j hj, List.getElem?_eq_getElem hjc]
    have hdm : ∀ q, q < len * fs.size → q / fs.size < len ∧ q % fs.size < fs.size ∧ q / fs.size * fs.size + q % fs.size = q := fun q hq => ⟨(Nat.div_lt_iff_lt_mul hpos).2 hq, Nat.mod_lt _ hpos, by rw [Nat.mul_comm]; exact Nat.div_add_mod q fs.size⟩
    have hspot : 0 < len → a = ⟨a.block, a.off, none⟩ := fun h => by
      obtain ⟨u, hu, _⟩ := hel 0 0 h hpos
      rw [show 0 * fs.size + 0 = 0 by omega, show a.add 0 = a from rfl] at hu
      obtain ⟨b, o, s⟩ := a
      cases s with
      | none => rfl
      | some s =>
        exfalso
        unfold World.cell? at hu
        split at hu <;> simp_all
    have hcell : ∀ q, q < len * fs.size → ∃ u, w.cell? ⟨a.block, a.off + q, none⟩ = some u ∧ IsInt u := fun q hq => by
      obtain ⟨h1, h2, h3⟩ := hdm q hq
      obtain ⟨u, hu, hI⟩ := hel _ _ h1 h2
      rw [h3, hspot (Nat.lt_of_le_of_lt (Nat.zero_le _) h1), addAt] at hu
      exact ⟨u, hu, hI⟩
    refine ⟨len, (List.range (len * fs.size)).map fun q => (w.cell? ⟨a.block, a.off + q, none⟩).getD undef, ?_, by omega, ⟨by simp, fun j u hu => ?_, fun u hu => ?_⟩, fun u hu => ?_⟩
    · by_cases h : 0 < len
      · rw [hspot h]; exact .inl ⟨_, _, _, rfl⟩
      · obtain rfl : len = 0 := by omega
        exact .inr (.inr ⟨a, cap, rfl, rfl⟩)
    · rw [List.getElem?_map] at hu
      by_cases hj : j < len * fs.size
      · rw [List.getElem?_range hj] at hu
        obtain ⟨u', hu', _⟩ := hcell j hj
        simp only [Option.map_some, hu', Option.getD_some, Option.some.injEq] at hu
        subst hu
        exact hu'
      · rw [List.getElem?_eq_none (by simpa using hj)] at hu; cases hu
    · obtain ⟨q, hq, rfl⟩ := List.mem_map.1 hu
      obtain ⟨u', hu', a', rfl, _⟩ := hcell q (List.mem_range.1 hq)
      rw [hu']; rfl
    · obtain ⟨q, hq, rfl⟩ := List.mem_map.1 hu
      obtain ⟨u', hu', hI⟩ := hcell q (List.mem_range.1 hq)
      rw [hu']; exact hI
end
end Go.Proofs.Ytaijclimdfchfaa
