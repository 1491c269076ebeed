import Derived.Test.YtaijclimdfchfaaF4
import Derived.Test.YtaijclimdfchfaaKQ
/- The spans as the document has them. Conditions: none. -/
namespace Go.Proofs.Ytaijclimdfchfaa
open Go.Proofs Go.RowKit Go.Shelf

def eC (c : Int × Int) : List Value := [.int .i64 c.1, .int .i64 c.2]
def dC : Int × Int := (0, 0)
theorem eC_len (c : Int × Int) : (eC c).length = 2 := rfl
theorem takeSnoc {α : Type} {l : List α} {i : Nat} (d : α) (h : i < l.length) : l.take (i + 1) = l.take i ++ [l.getD i d] := by
  rw [List.take_add_one, List.getElem?_eq_getElem h, List.getD_eq_getElem?_getD, List.getElem?_eq_getElem h]; rfl
theorem sumTo_snoc (cs : List (Int × Int)) (c : Int × Int) (x : Int) : sumTo (cs ++ [c]) x = sumTo cs x + if c.1 ≤ x then c.2 else 0 := by
  unfold sumTo; rw [sumF_append]; simp [sumF]
theorem sumTo_bound {cs : List (Int × Int)} (h : WiOk cs) (x : Int) : -(cs.length : Int) ≤ sumTo cs x ∧ sumTo cs x ≤ cs.length :=
  sumF_bound cs fun c hc => by have := h c hc; split <;> omega
theorem wiOk_getD {cs : List (Int × Int)} (h : WiOk cs) {i : Nat} (hi : i < cs.length) : (cs.getD i dC).2 = 1 ∨ (cs.getD i dC).2 = -1 := by
  rw [List.getD_eq_getElem?_getD, List.getElem?_eq_getElem hi]; exact h _ (List.getElem_mem hi)
theorem crs_get {r : Int} {es : List EdgeT} {i : Nat} (h : i < es.length) : (crs r es).getD i dC = (atE (es.getD i dE) r, (es.getD i dE).wi) := by
  rw [List.getD_eq_getElem?_getD, crs_getD h]; rfl
/-- a place is put in its order -/
theorem keys_put {cs : List (Int × Int)} {c : Int × Int} {j : Nat} (h1 : j ≤ (keysOf cs).length) (h2 : ∀ k, k < j → (keysOf cs).getD k 0 < c.1) (h3 : j < (keysOf cs).length → ¬ (keysOf cs).getD j 0 < c.1) (h4 : j < (keysOf cs).length → (keysOf cs).getD j 0 ≠ c.1) : keysOf (cs ++ [c]) = (keysOf cs).take j ++ c.1 :: (keysOf cs).drop j := by
  rw [keysOf_snoc, insU_at _ j h1 h2 h3, if_neg fun h => h4 h.1 h.2]
theorem keys_has {cs : List (Int × Int)} {c : Int × Int} {j : Nat} (h1 : j < (keysOf cs).length) (h2 : ∀ k, k < j → (keysOf cs).getD k 0 < c.1) (h4 : (keysOf cs).getD j 0 = c.1) : keysOf (cs ++ [c]) = keysOf cs := by
  rw [keysOf_snoc, insU_at _ j (Nat.le_of_lt h1) h2 (fun _ => by omega), if_pos ⟨h1, h4⟩]
theorem keys_flat {l l' : List Int} {x : Int} {j : Nat} (h : l' = l.take j ++ x :: l.drop j) : [] ++ (l.map (Value.int .i64)).take (j * 1) ++ [.int .i64 x] ++ (l.map (Value.int .i64)).drop (j * 1) = l'.map (Value.int .i64) := by
  subst h; simp [List.map_take, List.map_drop]
theorem keys_len {l l' : List Int} {x : Int} {j : Nat} (h : l' = l.take j ++ x :: l.drop j) (hj : j ≤ l.length) : 0 + j + 1 + (l.length - j) = l'.length := by
  subst h; simp [List.length_take, List.length_drop]; omega
theorem doc0 {cs : List (Int × Int)} {k : Nat} (h : sumTo cs ((keysOf cs).getD k 0) = 0) : docTo cs (k + 1) = docTo cs k := by
  rw [docTo_succ, docStep, if_pos h]
theorem last_getD {o : List SpanT} (h : 0 < o.length) : o.getLast? = some (o.getD (o.length - 1) dS) := by
  rw [List.getLast?_eq_getElem?, List.getD_eq_getElem?_getD, List.getElem?_eq_getElem (show o.length - 1 < o.length by omega)]; rfl
theorem doc1 {cs : List (Int × Int)} {k : Nat} (h : ¬ sumTo cs ((keysOf cs).getD k 0) = 0) (h0 : 0 < (docTo cs k).length) (h1 : ((docTo cs k).getD ((docTo cs k).length - 1) dS).to = (keysOf cs).getD k 0) :
    docTo cs (k + 1) = (docTo cs k).dropLast ++ [⟨((docTo cs k).getD ((docTo cs k).length - 1) dS).fr, (keysOf cs).getD (k + 1) 0⟩] := by
  rw [docTo_succ, docStep, if_neg h, last_getD h0]; simp only; rw [if_pos h1]
theorem doc2 {cs : List (Int × Int)} {k : Nat} (h : ¬ sumTo cs ((keysOf cs).getD k 0) = 0) (h1 : 0 < (docTo cs k).length → ¬ ((docTo cs k).getD ((docTo cs k).length - 1) dS).to = (keysOf cs).getD k 0) :
    docTo cs (k + 1) = docTo cs k ++ [⟨(keysOf cs).getD k 0, (keysOf cs).getD (k + 1) 0⟩] := by
  rw [docTo_succ, docStep, if_neg h]
  rcases Nat.eq_zero_or_pos (docTo cs k).length with h0 | h0
  · rw [List.eq_nil_of_length_eq_zero h0]; rfl
  · rw [last_getD h0]; simp only; rw [if_neg (h1 h0)]
theorem docTo_len (cs : List (Int × Int)) : ∀ k, (docTo cs k).length ≤ k
  | 0 => Nat.le_refl _
  | k + 1 => by
    have ih := docTo_len cs k
    by_cases h : sumTo cs ((keysOf cs).getD k 0) = 0
    · rw [doc0 h]; omega
    · by_cases h1 : 0 < (docTo cs k).length ∧ ((docTo cs k).getD ((docTo cs k).length - 1) dS).to = (keysOf cs).getD k 0
      · rw [doc1 h h1.1 h1.2, List.length_append, List.length_dropLast]; simp; omega
      · rw [doc2 h fun h0 h2 => h1 ⟨h0, h2⟩, List.length_append]; simp; omega
theorem flat_last : ∀ {o : List SpanT} {y : Int}, 0 < o.length → (o.flatMap eS).take ((o.length - 1) * 2 + 1) ++ [.int .i64 y] ++ (o.flatMap eS).drop ((o.length - 1) * 2 + 1 + 1) = (o.dropLast ++ [(⟨(o.getD (o.length - 1) dS).fr, y⟩ : SpanT)]).flatMap eS
  | [], _, h => by simp at h
  | [s], y, _ => rfl
  | s :: t :: r, y, _ => by
    have ih := flat_last (o := t :: r) (y := y) (by simp)
    have e : ((s :: t :: r).length - 1) * 2 = ((t :: r).length - 1) * 2 + 2 := by simp [List.length_cons]; omega
    have e2 : (s :: t :: r).getD ((s :: t :: r).length - 1) dS = (t :: r).getD ((t :: r).length - 1) dS := by simp [List.length_cons]
    rw [e, e2, List.dropLast_cons_cons, List.cons_append]
    conv => rhs; rw [List.flatMap_cons, ← ih]
    have e3 : ((t :: r).length - 1) * 2 + 2 + 1 = (((t :: r).length - 1) * 2 + 1) + 1 + 1 := by omega
    rw [e3]
    rfl
theorem dropLast_len {o : List SpanT} {s : SpanT} (h : 0 < o.length) : o.length = (o.dropLast ++ [s]).length := by rw [List.length_append, List.length_dropLast]; simp; omega
theorem crs_flat_snoc {cs : List (Int × Int)} {c : Int × Int} : cs.flatMap eC ++ eC c = (cs ++ [c]).flatMap eC := by simp
theorem zeroSum_crs (r : Int) (es : List EdgeT) : sumF (fun c => c.2) (crs r es) = windSum es := by
  unfold crs
  rw [sumF_map]
  induction es with
  | nil => rfl
  | cons e es ih => simp only [sumF, windSum, List.map_cons, List.sum_cons] at *; rw [ih]
theorem wind_all (r : Int) : ∀ ps : List (List PtT), windSum (liveT r (edgesAll ps)) = 0
  | [] => rfl
  | pc :: ps => by
    have ih := wind_all r ps
    unfold edgesAll at ih ⊢
    rw [List.flatMap_cons, live_append, windSum_append, wind_zero, ih]; rfl
theorem docRow_all (r : Int) (ps : List (List PtT)) : docRow (crs r (liveT r (edgesAll ps))) = rowS (crs r (liveT r (edgesAll ps))) := docRow_eq (by rw [zeroSum_crs, wind_all])


end Go.Proofs.Ytaijclimdfchfaa
