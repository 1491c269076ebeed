import Derived.Test.YtaijclimdfchfaaE20
/- The edges of a piece, and the table of a view, as the document has them. Conditions: none. -/
namespace Go.Proofs.Ytaijclimdfchfaa
open Go.Proofs Go.RowKit Go.Shelf


def tabT (X Y W H : Int) (ps : List (List PtT)) : List EdgeT := if ViewOk X Y W H then stSort (viewEs (16 * Y) (16 * (Y + H)) (edgesAll ps)) else []
theorem tabT_len {X Y W H : Int} {ps : List (List PtT)} (hb : Bnd ps) : (tabT X Y W H ps).length ≤ 320 := by
  unfold tabT
  split
  · rw [stSort_len]; exact Nat.le_trans (viewEs_len _ _ _) (edgesAll_len hb)
  · exact Nat.zero_le _
theorem a_TableT (w : World) (v : Value) (pvs : List Value) (ps : List (List PtT)) (X Y W H : Int) (hb : Bnd ps) (hv : PcsV v pvs ps) (hat : PcsAt w v pvs ps) :
    Calls Try.prog 43 #[v, .agg #[.int .i64 X, .int .i64 Y, .int .i64 W, .int .i64 H]] w fun e w' => ∃ y, e = .returned y ∧ Below w.heap.size w w' ∧ OwnAt w.heap.size w' y 90 7 (tabT X Y W H ps).length ((tabT X Y W H ps).flatMap eE) := by
  unfold tabT
  by_cases hvw : ViewOk X Y W H
  · rw [if_pos hvw]
    obtain ⟨a0, c0, rfl⟩ := hv.V.sl
    refine (a_Table w a0 ps.length c0 pvs ps X Y W H hb hv hat hvw).mono ?_
    rintro e w' ⟨y, es, rfl, hS, h1, h2⟩
    have := srtQ_stSort hS
    subst this
    exact ⟨y, rfl, h1, by rw [stSort_len]; exact h2⟩
  · rw [if_neg hvw]
    exact a_TableN w v X Y W H hvw
/-- what the document's loop holds: of the first edges -/
def docT (X Y W H : Int) (es : List EdgeT) : List EdgeT := stSort (viewEs (16 * Y) (16 * (Y + H)) es)
theorem docT_yes {X Y W H : Int} {es : List EdgeT} {e : EdgeT} (h : (cutE (16 * Y) (16 * (Y + H)) e).fr < (cutE (16 * Y) (16 * (Y + H)) e).to) : docT X Y W H (es ++ [e]) = insS (cutE (16 * Y) (16 * (Y + H)) e) (docT X Y W H es) := by
  unfold docT; rw [viewEs_snoc, if_pos h, stSort_snoc]
theorem docT_no {X Y W H : Int} {es : List EdgeT} {e : EdgeT} (h : ¬ (cutE (16 * Y) (16 * (Y + H)) e).fr < (cutE (16 * Y) (16 * (Y + H)) e).to) : docT X Y W H (es ++ [e]) = docT X Y W H es := by
  unfold docT; rw [viewEs_snoc, if_neg h, List.append_nil]
theorem docT_len {X Y W H : Int} {es : List EdgeT} : (docT X Y W H es).length ≤ es.length := by
  unfold docT; rw [stSort_len]; exact viewEs_len _ _ _
theorem all_split {ps : List (List PtT)} {i : Nat} (hi : i < ps.length) (k : Nat) : (edgesAll (ps.take i) ++ (edgesOf (ps.getD i [])).take k).length ≤ (edgesAll ps).length := by
  have h1 : edgesAll ps = edgesAll (ps.take (i + 1)) ++ edgesAll (ps.drop (i + 1)) := by
    unfold edgesAll; rw [← List.flatMap_append, List.take_append_drop]
  rw [h1, all_take_succ hi]
  simp only [List.length_append, List.length_take]
  omega



end Go.Proofs.Ytaijclimdfchfaa
