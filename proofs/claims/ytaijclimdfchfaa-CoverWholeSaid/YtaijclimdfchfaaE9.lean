import Derived.Test.YtaijclimdfchfaaE8
/- Corners that are told backwards have the same edges, but that they wind the other way. Conditions: none. -/
namespace Go.Proofs.Ytaijclimdfchfaa
open Go.Proofs Go.RowKit Go.Shelf

/-! ### corners that are told backwards -/
def negE (e : EdgeT) : EdgeT := ⟨e.x, e.y, e.dx, e.dy, -e.wi, e.fr, e.to⟩
theorem edge_ext {e f : EdgeT} (h : e.x = f.x ∧ e.y = f.y ∧ e.dx = f.dx ∧ e.dy = f.dy ∧ e.wi = f.wi ∧ e.fr = f.fr ∧ e.to = f.to) : e = f := by
  obtain ⟨a, b, c, d, w, r, t⟩ := e
  obtain ⟨a', b', c', d', w', r', t'⟩ := f
  obtain ⟨rfl, rfl, rfl, rfl, rfl, rfl, rfl⟩ := h
  rfl
instance : DecidableEq EdgeT := fun e f =>
  if h : e.x = f.x ∧ e.y = f.y ∧ e.dx = f.dx ∧ e.dy = f.dy ∧ e.wi = f.wi ∧ e.fr = f.fr ∧ e.to = f.to then isTrue (edge_ext h) else isFalse fun k => h (by subst k; exact ⟨rfl, rfl, rfl, rfl, rfl, rfl, rfl⟩)
def onE (a b : PtT) : List EdgeT := if (edgeOf a b).fr < (edgeOf a b).to then [edgeOf a b] else []
theorem turned_edge (a b : PtT) : (onE b a).map negE = onE a b := by
  unfold onE
  by_cases h : b.y < a.y
  · have h' : ¬ a.y < b.y := by omega
    rw [edgeOf_lt h, edgeOf_ge h']
    dsimp only
    split <;> rfl
  · by_cases h' : a.y < b.y
    · rw [edgeOf_ge h, edgeOf_lt h']
      dsimp only
      split <;> rfl
    · have e : a.y = b.y := by omega
      rw [edgeOf_ge h, edgeOf_ge h']
      dsimp only
      rw [e, if_neg (by omega), if_neg (by omega)]; rfl
theorem edgesAt_on (pc : List PtT) (j : Nat) : edgesAt pc j = onE (pc.getD j dP) (pc.getD ((j + 1) % pc.length) dP) := rfl
theorem getD_rev {pc : List PtT} {j : Nat} (h : j < pc.length) : pc.reverse.getD j dP = pc.getD (pc.length - 1 - j) dP := by
  rw [List.getD_eq_getElem?_getD, List.getD_eq_getElem?_getD, List.getElem?_reverse h]
theorem turned_at {pc : List PtT} {j : Nat} (h : j < pc.length) : (edgesAt pc.reverse j).map negE = edgesAt pc (if j + 1 = pc.length then j else pc.length - 2 - j) := by
  rw [edgesAt_on, edgesAt_on, List.length_reverse, turned_edge, getD_rev h]
  split
  · rename_i e
    rw [e, Nat.mod_self, getD_rev (by omega), Nat.sub_zero, show pc.length - 1 - j = 0 by omega, show pc.length - 1 = j by omega]
  · rw [Nat.mod_eq_of_lt (by omega), getD_rev (by omega), show pc.length - 1 - (j + 1) = pc.length - 2 - j by omega, show pc.length - 1 - j = pc.length - 2 - j + 1 by omega, Nat.mod_eq_of_lt (show pc.length - 2 - j + 1 < pc.length by omega)]
theorem flatMap_congr' {α β : Type} {l : List α} {f g : α → List β} (h : ∀ a ∈ l, f a = g a) : l.flatMap f = l.flatMap g := by
  induction l with
  | nil => rfl
  | cons a r ih => rw [List.flatMap_cons, List.flatMap_cons, h a List.mem_cons_self, ih fun b hb => h b (List.mem_cons_of_mem _ hb)]
theorem turned_perm (pc : List PtT) : ((edgesOf pc.reverse).map negE).Perm (edgesOf pc) := by
  unfold edgesOf edgesTo
  rw [List.length_reverse, List.map_flatMap]
  obtain ⟨k, hk⟩ : ∃ k, pc.length = k := ⟨_, rfl⟩
  rw [hk]
  cases k with
  | zero => exact List.Perm.refl _
  | succ k =>
    rw [List.range_succ, List.flatMap_append, List.flatMap_append]
    refine List.Perm.append ?_ ?_
    · have e : (List.range k).flatMap (fun a => (edgesAt pc.reverse a).map negE) = ((List.range k).map fun j => k - 1 - j).flatMap (edgesAt pc) := by
        rw [List.flatMap_map]
        refine flatMap_congr' fun j hj => ?_
        have hjk := List.mem_range.1 hj
        rw [turned_at (by omega), if_neg (by omega), show pc.length - 2 - j = k - 1 - j by omega]
      rw [e]
      refine List.Perm.flatMap_right _ ?_
      have e2 : ((List.range k).map fun j => k - 1 - j) = (List.range k).reverse := by
        apply List.ext_getElem
        · simp
        · intro i h1 h2
          simp
      rw [e2]
      exact List.reverse_perm _
    · rw [List.flatMap_cons, List.flatMap_nil, List.flatMap_cons, List.flatMap_nil, turned_at (by omega), if_pos hk.symm]
theorem turned_len (pc : List PtT) : (edgesOf pc.reverse).length = (edgesOf pc).length := by rw [← (turned_perm pc).length_eq, List.length_map]
def cntE (l : List EdgeT) (e : EdgeT) (k : Nat) : Nat := (l.take k).countP fun f => decide (f = e)
def cntN (l : List EdgeT) (e : EdgeT) (k : Nat) : Nat := (l.take k).countP fun f => decide (negE f = e)
theorem cntE_le (l : List EdgeT) (e : EdgeT) (k : Nat) : cntE l e k ≤ k := Nat.le_trans List.countP_le_length (by rw [List.length_take]; omega)
theorem cntN_le (l : List EdgeT) (e : EdgeT) (k : Nat) : cntN l e k ≤ k := Nat.le_trans List.countP_le_length (by rw [List.length_take]; omega)
theorem cntE_yes {l : List EdgeT} {e : EdgeT} {k : Nat} (hk : k < l.length) (h : l.getD k dE = e) : ((cntE l e k : Nat) : Int) + 1 = ((cntE l e (k + 1) : Nat) : Int) := by
  unfold cntE; rw [take_succ' hk, List.countP_append, h]; simp
theorem cntE_no {l : List EdgeT} {e : EdgeT} {k : Nat} (hk : k < l.length) (h : ¬ l.getD k dE = e) : ((cntE l e k : Nat) : Int) = ((cntE l e (k + 1) : Nat) : Int) := by
  unfold cntE; rw [take_succ' hk, List.countP_append, List.countP_singleton, decide_eq_false h]; simp
theorem cntN_yes {l : List EdgeT} {e : EdgeT} {k : Nat} (hk : k < l.length) (h : negE (l.getD k dE) = e) : ((cntN l e k : Nat) : Int) + 1 = ((cntN l e (k + 1) : Nat) : Int) := by
  unfold cntN; rw [take_succ' hk, List.countP_append, List.countP_singleton, decide_eq_true h]; simp
theorem cntN_no {l : List EdgeT} {e : EdgeT} {k : Nat} (hk : k < l.length) (h : ¬ negE (l.getD k dE) = e) : ((cntN l e k : Nat) : Int) = ((cntN l e (k + 1) : Nat) : Int) := by
  unfold cntN; rw [take_succ' hk, List.countP_append, List.countP_singleton, decide_eq_false h]; simp
theorem turned_cnt (pc : List PtT) (e : EdgeT) {k : Nat} (hk : (edgesOf pc).length ≤ k) : cntE (edgesOf pc) e k = cntN (edgesOf pc.reverse) e k := by
  unfold cntE cntN
  rw [List.take_of_length_le hk, List.take_of_length_le (by rw [turned_len]; exact hk), ← (turned_perm pc).countP_eq, List.countP_map]
  rfl
theorem rev_snoc {pc : List PtT} {i : Nat} (hi : i < pc.length) : (pc.reverse.take i).flatMap eP ++ [.int .i64 (pc.getD (pc.length - 1 - i) dP).x, .int .i64 (pc.getD (pc.length - 1 - i) dP).y] = (pc.reverse.take (i + 1)).flatMap eP := by
  rw [List.take_add_one, List.flatMap_append, List.getElem?_eq_getElem (by simpa using hi), ← getD_rev hi, List.getD_eq_getElem?_getD, List.getElem?_eq_getElem (by simpa using hi)]
  rfl
theorem row_rev {w : World} {v : Value} {pc : List PtT} (h : RowAt w v 2 pc.length ((pc.reverse.take pc.length).flatMap eP)) : RowAt w v 2 pc.reverse.length (pc.reverse.flatMap eP) := by
  rw [List.take_of_length_le (by simp)] at h
  rw [List.length_reverse]
  exact h
theorem near_rev {pc : List PtT} (h : BndP pc) : ∀ p ∈ pc.reverse, NearT p := fun p hp => h.near p (List.mem_reverse.1 hp)
theorem unit_getD {pc : List PtT} {k : Nat} (h : k < (edgesOf pc).length) : -1 ≤ ((edgesOf pc).getD k dE).wi ∧ ((edgesOf pc).getD k dE).wi ≤ 1 := by
  have : Unit ((edgesOf pc).getD k dE) := by
    rw [List.getD_eq_getElem?_getD, List.getElem?_eq_getElem h]; exact unit_edgesTo pc _ _ (List.getElem_mem h)
  unfold Unit at this
  omega


end Go.Proofs.Ytaijclimdfchfaa
