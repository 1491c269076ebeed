import Derived.Test.YtaijclimdfchfaaKM
/- What comes in, opened: rows of rows of structs of integers. Conditions: none. -/
namespace Go.Proofs.Ytaijclimdfchfaa
open Go.Proofs Go.RowKit Go.ChangeShapes Go.WideShapes Go.ChangeAt Go.Deep
section
variable {H : Type} {enc : TypeId × Value → H} {P : Program} {w w' : World} {base : Nat} {spare : Nat → Bool} {held : Bool}
/-- a row of structs of integers, by its one cell -/
theorem open_rowF {t e T : TypeId} {fs : Array Field} {v : Value} {fuel : Nat} {x : DataW H × List MemPlace} (ht : P.underlying t = some (.slice e)) (he : P.underlying e = some (.struct fs)) (hone : oneCellFields P fs = true) (hC : P.cellsOf e = fs.size) (hpos : 0 < fs.size) (hty : fs.all (fun f => f.type == T) = true)
    (hT : P.underlying T = some (.int .i64)) (h : DataW.trod enc P w base spare held fuel t [v] = some x) : ∃ (n : Nat) (xs : List Value), RowV v n ∧ n ≤ maxLen ∧ RowAt w v fs.size n xs ∧ ∀ u ∈ xs, IsInt u := by
  rcases open_slice ht h with ⟨h0, _⟩ | ⟨a, len, cap, m, n, D, Pl, hcs, hb, hl, hm, hmm, hx, hi⟩
  · simp only [List.cons.injEq, and_true] at h0
    rw [h0]
    exact ⟨0, [], .nil0, Nat.zero_le _, ⟨by simp, fun j u hu => by simp at hu, fun u hu => by simp at hu⟩, fun u hu => by simp at hu⟩
  · simp only [List.cons.injEq, and_true] at hcs
    rw [hcs]
    have hlm : len ≤ m := by rw [hmm]; split <;> omega
    have hel : ∀ i j, i < len → j < fs.size → ∃ u, w.cell? (a.add (i * fs.size + j)) = some u ∧ IsInt u := fun i j hil hj => by
      obtain ⟨cs', hc, htr⟩ := hi i (by omega)
      rw [hC] at hc
      obtain ⟨_, hcl, hat⟩ := World.cells?_some hc
      have := open_ints he hone hC hty hT htr
      have hjc : j < cs'.length := by omega
      refine ⟨cs'[j], ?_, this.2 _ (List.getElem_mem hjc)⟩
      rw [← add_add, hat j hj, List.getElem?_eq_getElem hjc]
    have hdm : ∀ q, q < len * fs.size → q / fs.size < len ∧ q % fs.size < fs.size ∧ q / fs.size * fs.size + q % fs.size = q := fun q hq => ⟨(Nat.div_lt_iff_lt_mul hpos).2 hq, Nat.mod_lt _ hpos, by rw [Nat.mul_comm]; exact Nat.div_add_mod q fs.size⟩
    have hspot : 0 < len → a = ⟨a.block, a.off, none⟩ := fun h => by
      obtain ⟨u, hu, _⟩ := hel 0 0 h hpos
      rw [show 0 * fs.size + 0 = 0 by omega, show a.add 0 = a from rfl] at hu
      obtain ⟨b, o, s⟩ := a
      cases s with
      | none => rfl
      | some s =>
        exfalso
        unfold World.cell? at hu
        split at hu <;> simp_all
    have hcell : ∀ q, q < len * fs.size → ∃ u, w.cell? ⟨a.block, a.off + q, none⟩ = some u ∧ IsInt u := fun q hq => by
      obtain ⟨h1, h2, h3⟩ := hdm q hq
      obtain ⟨u, hu, hI⟩ := hel _ _ h1 h2
      rw [h3, hspot (Nat.lt_of_le_of_lt (Nat.zero_le _) h1), addAt] at hu
      exact ⟨u, hu, hI⟩
    refine ⟨len, (List.range (len * fs.size)).map fun q => (w.cell? ⟨a.block, a.off + q, none⟩).getD undef, ?_, by omega, ⟨by simp, fun j u hu => ?_, fun u hu => ?_⟩, fun u hu => ?_⟩
    · by_cases h : 0 < len
      · rw [hspot h]; exact .inl ⟨_, _, _, rfl⟩
      · obtain rfl : len = 0 := by omega
        exact .inr (.inr ⟨a, cap, rfl, rfl⟩)
    · rw [List.getElem?_map] at hu
      by_cases hj : j < len * fs.size
      · rw [List.getElem?_range hj] at hu
        obtain ⟨u', hu', _⟩ := hcell j hj
        simp only [Option.map_some, hu', Option.getD_some, Option.some.injEq] at hu
        subst hu
        exact hu'
      · rw [List.getElem?_eq_none (by simpa using hj)] at hu; cases hu
    · obtain ⟨q, hq, rfl⟩ := List.mem_map.1 hu
      obtain ⟨u', hu', a', rfl, _⟩ := hcell q (List.mem_range.1 hq)
      rw [hu']; rfl
    · obtain ⟨q, hq, rfl⟩ := List.mem_map.1 hu
      obtain ⟨u', hu', hI⟩ := hcell q (List.mem_range.1 hq)
      rw [hu']; exact hI
/-- a row of such rows -/
theorem open_rows {r : Reach} {b0 : Nat} {t s e T : TypeId} {fs : Array Field} {v : Value} {d : DataW H} {p : List MemPlace} (ht : P.underlying t = some (.slice s)) (hs : P.underlying s = some (.slice e)) (hsc : P.cellsOf s = 1) (he : P.underlying e = some (.struct fs)) (hone : oneCellFields P fs = true) (hC : P.cellsOf e = fs.size) (hpos : 0 < fs.size) (hty : fs.all (fun f => f.type == T) = true)
    (hT : P.underlying T = some (.int .i64)) (hv : Value.okWide P w r b0 t v) (h : DataW.Trod enc P w base spare held t v d p) : ∃ (n : Nat) (pvs : List Value) (q : Nat → Nat × List Value), RowV v n ∧ n ≤ maxLen ∧ pvs.length = n ∧ RowAt w v 1 n pvs ∧ ∀ i, i < n → RowV (pvs.getD i undef) (q i).1 ∧ RowAt w (pvs.getD i undef) fs.size (q i).1 (q i).2 ∧ ∀ u ∈ (q i).2, IsInt u := by
  obtain ⟨a0, n0, c0, rfl⟩ := okWide_slice ht hv
  obtain ⟨fuel, hf⟩ := h
  rcases open_slice1 ht hsc hf with ⟨h0, _⟩ | ⟨a, len, cap, m, n, V, D, Pl, hcs, hb, hl, hm, hmm, hx, hi⟩
  · simp only [Value.cells, List.cons.injEq, and_true] at h0
    rw [h0]
    exact ⟨0, [], fun _ => (0, []), .nil0, Nat.zero_le _, rfl, ⟨by simp, fun j u hu => by simp at hu, fun u hu => by simp at hu⟩, fun i hi => by omega⟩
  · simp only [Value.cells, List.cons.injEq, and_true] at hcs
    rw [hcs]
    have hlm : len ≤ m := by rw [hmm]; split <;> omega
    have hspot : 0 < len → a = ⟨a.block, a.off, none⟩ := fun h => by
      have hu := (hi 0 (by omega)).1
      rw [show a.add 0 = a from rfl] at hu
      obtain ⟨b, o, s⟩ := a
      cases s with
      | none => rfl
      | some s =>
        exfalso
        unfold World.cell? at hu
        split at hu <;> simp_all
    have hrow : ∀ i, i < len → ∃ q : Nat × List Value, RowV (V i) q.1 ∧ RowAt w (V i) fs.size q.1 q.2 ∧ ∀ u ∈ q.2, IsInt u := fun i h => by
      obtain ⟨n', xs, h1, _, h2, h3⟩ := open_rowF hs he hone hC hpos hty hT (hi i (by omega)).2
      exact ⟨(n', xs), h1, h2, h3⟩
    obtain ⟨q, hq⟩ := choose_lt hrow
    have hget : ∀ i, i < len → ((List.range len).map V).getD i undef = V i := fun i h => by
      rw [List.getD_eq_getElem?_getD, List.getElem?_map, List.getElem?_range h]; rfl
    refine ⟨len, (List.range len).map V, q, ?_, by omega, by simp, ⟨by simp, fun j u hu => ?_, fun u hu => ?_⟩, fun i h => by rw [hget i h]; exact hq i h⟩
    · by_cases h : 0 < len
      · rw [hspot h]; exact .inl ⟨_, _, _, rfl⟩
      · obtain rfl : len = 0 := by omega
        exact .inr (.inr ⟨a, cap, rfl, rfl⟩)
    · rw [List.getElem?_map] at hu
      by_cases hj : j < len
      · rw [List.getElem?_range hj] at hu
        simp only [Option.map_some, Option.some.injEq] at hu
        subst hu
        have h1 := (hi j (by omega)).1
        rw [hspot (by omega), addAt] at h1
        exact h1
      · rw [List.getElem?_eq_none (by simpa using hj)] at hu; cases hu
    · obtain ⟨j, hj, rfl⟩ := List.mem_map.1 hu
      exact rowV_one (hrow j (List.mem_range.1 hj)).choose_spec.1
end
end Go.Proofs.Ytaijclimdfchfaa
