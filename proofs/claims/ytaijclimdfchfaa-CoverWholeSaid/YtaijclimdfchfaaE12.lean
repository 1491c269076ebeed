import Derived.Test.YtaijclimdfchfaaE11
/- Where an edge crosses any of its rows is as the document has it, and lies between its ends. Conditions: none. -/
namespace Go.Proofs.Ytaijclimdfchfaa
open Go.Proofs Go.RowKit Go.Shelf

theorem edgesOf3 (a b : PtT) : edgesOf [a, b, a] = onE a b ++ onE b a ++ onE a a := by
  simp [edgesOf, edgesTo, List.range_succ, edgesAt_on]
theorem onE_self (a : PtT) : onE a a = [] := by
  unfold onE
  rw [edgeOf_ge (show ¬ a.y < a.y by omega)]
  exact if_neg (by dsimp only; omega)
theorem at_len (a b : PtT) : (edgesOf [a, b, a]).length = 0 ∨ (edgesOf [a, b, a]).length = 2 := by
  have h := congrArg List.length (turned_edge a b)
  rw [List.length_map] at h
  rw [edgesOf3, onE_self, List.append_nil, List.length_append, h]
  unfold onE
  split
  · exact .inr rfl
  · exact .inl rfl
def EndsIn (a b : PtT) (e : EdgeT) : Prop := (e.x = a.x ∧ e.x + e.dx = b.x) ∨ (e.x = b.x ∧ e.x + e.dx = a.x)
theorem endsIn_edge (a b : PtT) : EndsIn a b (edgeOf a b) := by
  unfold EndsIn
  by_cases h : b.y < a.y
  · rw [edgeOf_lt h]; dsimp only; omega
  · rw [edgeOf_ge h]; dsimp only; omega
theorem ends_getD {a b : PtT} {i : Nat} (hi : i < (edgesOf [a, b, a]).length) : EndsIn a b ((edgesOf [a, b, a]).getD i dE) := by
  rw [List.getD_eq_getElem?_getD, List.getElem?_eq_getElem hi]
  have hm := List.getElem_mem hi
  generalize (edgesOf [a, b, a])[i] = e at hm
  rw [edgesOf3, onE_self, List.append_nil] at hm
  show EndsIn a b e
  unfold onE at hm
  rcases List.mem_append.1 hm with h | h
  · split at h
    · rw [List.mem_singleton.1 h]; exact endsIn_edge a b
    · cases h
  · split at h
    · rw [List.mem_singleton.1 h]
      have := endsIn_edge b a
      unfold EndsIn at this ⊢
      omega
    · cases h


end Go.Proofs.Ytaijclimdfchfaa
