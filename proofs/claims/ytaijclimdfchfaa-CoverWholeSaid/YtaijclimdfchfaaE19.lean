import Derived.Test.YtaijclimdfchfaaE18
import Derived.Test.YtaijclimdfchfaaKN
/- Edges of a view have just the rows of it; they rise by their first rows. Conditions: none. -/
namespace Go.Proofs.Ytaijclimdfchfaa
open Go.Proofs Go.RowKit Go.Shelf

theorem table_el {f t : Int} {ps : List (List PtT)} {es : List EdgeT} (hb : Bnd ps) (hft : f ≤ t) (h : SrtQ (viewEs f t (edgesAll ps)) 0 (viewEs f t (edgesAll ps)).length es) : es.length = (viewEs f t (edgesAll ps)).length ∧ ∀ i, i < es.length → ∃ e0, EdgeOk e0 ∧ Unit e0 ∧ es.getD i dE = cutE f t e0 ∧ (cutE f t e0).fr < (cutE f t e0).to := by
  refine ⟨h.mut_.st.len, fun i hi => ?_⟩
  have hm : es.getD i dE ∈ es := by rw [List.getD_eq_getElem?_getD, List.getElem?_eq_getElem hi]; exact List.getElem_mem hi
  obtain ⟨e0, h0, h1, h2⟩ := viewEs_mem (h.mut_.st.mem hm)
  have h3 := edgesAll_ok hb e0 h0
  exact ⟨e0, h3.1, h3.2, h1, by rw [← h1]; exact h2⟩
structure CutOk (f t : Int) (e : EdgeT) : Prop where
  fr : f ≤ e.fr
  to : e.to ≤ t
  lt : e.fr < e.to
  dy : 0 < e.dy
  wi : e.wi = 1 ∨ e.wi = -1
theorem table_cut {f t : Int} {ps : List (List PtT)} {es : List EdgeT} (hb : Bnd ps) (hft : f ≤ t) (h : SrtQ (viewEs f t (edgesAll ps)) 0 (viewEs f t (edgesAll ps)).length es) {i : Nat} (hi : i < es.length) : CutOk f t (es.getD i dE) := by
  obtain ⟨e0, h1, h2, h3, h4⟩ := (table_el hb hft h).2 i hi
  rw [h3]
  refine ⟨?_, ?_, h4, h1.dy, h2⟩
  · rw [cutE_fr]; split <;> omega
  · rw [cutE_to]; split <;> omega
theorem pieces_of {w : World} {v : Value} {n : Nat} {pvs : List Value} {q : Nat → Nat × List Value} (hV : RowV v n) (hn : n ≤ maxLen) (hl : pvs.length = n) (hrow : RowAt w v 1 n pvs) (h : ∀ i, i < n → RowV (pvs.getD i undef) (q i).1 ∧ RowAt w (pvs.getD i undef) 2 (q i).1 (q i).2 ∧ ∀ u ∈ (q i).2, IsInt u) :
    ∃ ps : List (List PtT), PcsW v pvs ps ∧ PcsAt w v pvs ps ∧ ∀ i, i < ps.length → ∀ p ∈ ps.getD i [], (Lit.int .i64 p.x).wf = true ∧ (Lit.int .i64 p.y).wf = true := by
  obtain ⟨f, hf⟩ := Go.Deep.choose_lt (n := n) (p := fun i (pc : List PtT) => pc.length = (q i).1 ∧ pc.flatMap eP = (q i).2 ∧ ∀ p ∈ pc, (Lit.int .i64 p.x).wf = true ∧ (Lit.int .i64 p.y).wf = true) (fun i hi => pts_of (q i).1 (q i).2 (h i hi).2.1.len (h i hi).2.2)
  have hg : ∀ i, i < n → ((List.range n).map f).getD i [] = f i := fun i hi => by
    rw [List.getD_eq_getElem?_getD, List.getElem?_map, List.getElem?_range hi]; rfl
  have hlen : ((List.range n).map f).length = n := by simp
  refine ⟨(List.range n).map f, ⟨by rw [hlen]; exact hV, by rw [hlen]; exact hl, by rw [hlen, ← maxLen_le]; exact hn, fun i hi => ?_⟩, ⟨by rw [hlen]; exact hrow, fun i hi => ?_⟩, fun i hi => ?_⟩
  all_goals rw [hlen] at hi; rw [hg i hi]
  · rw [(hf i hi).1]; exact (h i hi).1
  · rw [(hf i hi).1, (hf i hi).2.1]; exact (h i hi).2.1
  · exact (hf i hi).2.2



end Go.Proofs.Ytaijclimdfchfaa
