import Derived.Test.YtaijclimdfchfaaE9
/- Where an edge crosses its rows; pieces that are shifted by whole pixels have shifted edges. Conditions: none. -/
namespace Go.Proofs.Ytaijclimdfchfaa
open Go.Proofs Go.RowKit Go.Shelf

/-! ### where an edge crosses its rows -/
structure EdgeOk (e : EdgeT) : Prop where
  fr : e.fr = rowOf e.y
  to : e.to = rowOf (e.y + e.dy)
  lt : e.fr < e.to
  x : -1073741824 ≤ e.x ∧ e.x ≤ 1073741824
  x2 : -1073741824 ≤ e.x + e.dx ∧ e.x + e.dx ≤ 1073741824
  y : -1073741824 ≤ e.y ∧ e.y ≤ 1073741824
  y2 : -1073741824 ≤ e.y + e.dy ∧ e.y + e.dy ≤ 1073741824
theorem edgeOk_edge {a b : PtT} (ha : NearT a) (hb : NearT b) (h : (edgeOf a b).fr < (edgeOf a b).to) : EdgeOk (edgeOf a b) := by
  unfold NearT at ha hb
  by_cases hy : b.y < a.y
  · rw [edgeOf_lt hy] at h ⊢
    exact ⟨rfl, congrArg rowOf (show a.y = b.y + (a.y - b.y) by omega), h, by dsimp only; omega, by dsimp only; omega, by dsimp only; omega, by dsimp only; omega⟩
  · rw [edgeOf_ge hy] at h ⊢
    exact ⟨rfl, congrArg rowOf (show b.y = a.y + (b.y - a.y) by omega), h, by dsimp only; omega, by dsimp only; omega, by dsimp only; omega, by dsimp only; omega⟩
theorem edgeOk_to {pc : List PtT} (hn : ∀ p ∈ pc, NearT p) (j : Nat) (hj : j ≤ pc.length) : ∀ e ∈ edgesTo pc j, EdgeOk e := fun e he => by
  obtain ⟨k, hk, h⟩ := List.mem_flatMap.1 he
  have hkj := List.mem_range.1 hk
  unfold edgesAt at h
  split at h
  · rename_i hlt
    rw [List.mem_singleton.1 h]
    exact edgeOk_edge (near_getD hn (by omega)) (near_getD hn (Nat.mod_lt _ (by omega))) hlt
  · cases h
theorem edgeOk_getD {pc : List PtT} (hn : ∀ p ∈ pc, NearT p) {i : Nat} (hi : i < (edgesOf pc).length) : EdgeOk ((edgesOf pc).getD i dE) := by
  rw [List.getD_eq_getElem?_getD, List.getElem?_eq_getElem hi]
  exact edgeOk_to hn _ (Nat.le_refl _) _ (List.getElem_mem hi)
theorem EdgeOk.dy {e : EdgeT} (h : EdgeOk e) : 0 < e.dy := by
  have h1 := rowOf_def e.y; have h2 := rowOf_def (e.y + e.dy); have := h.fr; have := h.to; have := h.lt; omega
theorem EdgeOk.mid {e : EdgeT} (h : EdgeOk e) {r : Int} (h1 : e.fr ≤ r) (h2 : r < e.to) : 0 ≤ 16 * r + 8 - e.y ∧ 16 * r + 8 - e.y < e.dy := by
  have h3 := rowOf_def e.y; have h4 := rowOf_def (e.y + e.dy); have := h.fr; have := h.to; omega
theorem EdgeOk.rows {e : EdgeT} (h : EdgeOk e) : -67108865 ≤ e.fr ∧ e.to ≤ 67108865 := by
  have h3 := rowOf_def e.y; have h4 := rowOf_def (e.y + e.dy); have := h.fr; have := h.to; have := h.y; have := h.y2; omega
theorem cross_bound {t dx dy : Int} (h0 : 0 ≤ t) (h1 : t < dy) : (0 ≤ dx → 0 ≤ t * dx ∧ t * dx ≤ dy * dx) ∧ (dx ≤ 0 → dy * dx ≤ t * dx ∧ t * dx ≤ 0) := by
  refine ⟨fun h => ⟨Int.mul_nonneg h0 h, Int.mul_le_mul_of_nonneg_right (by omega) h⟩, fun h => ?_⟩
  have a1 := Int.mul_nonneg h0 (show 0 ≤ -dx by omega)
  have a2 := Int.mul_le_mul_of_nonneg_right (show t ≤ dy by omega) (show 0 ≤ -dx by omega)
  rw [Int.mul_neg] at a1
  rw [Int.mul_neg, Int.mul_neg] at a2
  omega
theorem EdgeOk.cross {e : EdgeT} (h : EdgeOk e) {r : Int} (h1 : e.fr ≤ r) (h2 : r < e.to) : (0 ≤ e.dx → e.x ≤ atE e r ∧ atE e r ≤ e.x + e.dx) ∧ (e.dx ≤ 0 → e.x + e.dx ≤ atE e r ∧ atE e r ≤ e.x) := by
  have hm := h.mid h1 h2
  have hd := h.dy
  have hc := cross_bound (dx := e.dx) hm.1 hm.2
  unfold atE
  refine ⟨fun hx => ?_, fun hx => ?_⟩
  · have h3 := hc.1 hx
    have h4 := Int.ediv_nonneg h3.1 (show 0 ≤ e.dy by omega)
    have h5 := Int.ediv_le_of_le_mul hd (show (16 * r + 8 - e.y) * e.dx ≤ e.dx * e.dy by rw [Int.mul_comm e.dx]; exact h3.2)
    omega
  · have h3 := hc.2 hx
    have h4 := Int.ediv_nonpos_of_nonpos_of_neg h3.2 hd
    have h5 := (Int.le_ediv_iff_mul_le hd).2 (show e.dx * e.dy ≤ (16 * r + 8 - e.y) * e.dx by rw [Int.mul_comm e.dx]; exact h3.1)
    omega
theorem EdgeOk.prod {e : EdgeT} (h : EdgeOk e) {r : Int} (h1 : e.fr ≤ r) (h2 : r < e.to) : -4611686018427387904 ≤ (16 * r + 8 - e.y) * e.dx ∧ (16 * r + 8 - e.y) * e.dx ≤ 4611686018427387904 := by
  have hm := h.mid h1 h2
  have := h.x; have := h.x2; have := h.y; have := h.y2
  have := mul_bound (A := 2147483648) (B := 2147483648) (x := 16 * r + 8 - e.y) (y := e.dx) (by omega) (by omega) (by omega) (by omega)
  omega
theorem EdgeOk.at_ {e : EdgeT} (h : EdgeOk e) {r : Int} (h1 : e.fr ≤ r) (h2 : r < e.to) : -1073741824 ≤ atE e r ∧ atE e r ≤ 1073741824 := by
  have hc := h.cross h1 h2
  have := h.x; have := h.x2
  by_cases hx : 0 ≤ e.dx
  · have := hc.1 hx; omega
  · have := hc.2 (by omega); omega
/-- the answer of At, of an edge and one of its rows -/
theorem a_AtOk {e : EdgeT} (h : EdgeOk e) {r : Int} (h1 : e.fr ≤ r) (h2 : r < e.to) : Ans Try.prog 65 [.agg #[.int .i64 e.x, .int .i64 e.y, .int .i64 e.dx, .int .i64 e.dy, .int .i64 e.wi, .int .i64 e.fr, .int .i64 e.to], .int .i64 r] (.int .i64 (atE e r)) := by
  have := h.x; have := h.x2; have := h.y; have := h.y2; have := h.rows; have := h.dy
  exact a_At e r (by omega) (by omega) (by omega) (by omega) (by omega) (h.prod h1 h2)
/-- one of its rows -/
theorem row_in {e : EdgeT} {a : Int} (h : EdgeOk e) (ha : 0 ≤ a) : 0 ≤ a % (e.to - e.fr) ∧ a % (e.to - e.fr) < e.to - e.fr := ⟨Int.emod_nonneg _ (by have := h.lt; omega), Int.emod_lt_of_pos _ (by have := h.lt; omega)⟩

/-! ### what is shifted -/
def w64 (a : Int) : Int := (a + 9223372036854775808) % 18446744073709551616 - 9223372036854775808
def shW (bx by_ : Int) (p : PtT) : PtT := ⟨w64 (p.x + bx), w64 (p.y + by_)⟩
def shP (bx by_ : Int) (p : PtT) : PtT := ⟨p.x + bx, p.y + by_⟩
def shE (bx d : Int) (e : EdgeT) : EdgeT := ⟨e.x + bx, e.y + 256 * d, e.dx, e.dy, e.wi, e.fr + 16 * d, e.to + 16 * d⟩
theorem rowOf_shift (y d : Int) : rowOf (y + 256 * d) = rowOf y + 16 * d := by have h1 := rowOf_def y; have h2 := rowOf_def (y + 256 * d); omega
theorem edgeOf_shift (bx d : Int) (a b : PtT) : edgeOf (shP bx (256 * d) a) (shP bx (256 * d) b) = shE bx d (edgeOf a b) := by
  by_cases h : b.y < a.y
  · rw [edgeOf_lt h, edgeOf_lt (show (shP bx (256 * d) b).y < (shP bx (256 * d) a).y by simp only [shP]; omega)]
    simp only [shP, shE, rowOf_shift]
    exact edge_ext ⟨rfl, rfl, by dsimp only; omega, by dsimp only; omega, rfl, rfl, rfl⟩
  · rw [edgeOf_ge h, edgeOf_ge (show ¬ (shP bx (256 * d) b).y < (shP bx (256 * d) a).y by simp only [shP]; omega)]
    simp only [shP, shE, rowOf_shift]
    exact edge_ext ⟨rfl, rfl, by dsimp only; omega, by dsimp only; omega, rfl, rfl, rfl⟩
theorem onE_shift (bx d : Int) (a b : PtT) : onE (shP bx (256 * d) a) (shP bx (256 * d) b) = (onE a b).map (shE bx d) := by
  unfold onE
  rw [edgeOf_shift]
  by_cases h : (edgeOf a b).fr < (edgeOf a b).to
  · rw [if_pos h, if_pos (show (shE bx d (edgeOf a b)).fr < (shE bx d (edgeOf a b)).to by simp only [shE]; omega)]; rfl
  · rw [if_neg h, if_neg (show ¬ (shE bx d (edgeOf a b)).fr < (shE bx d (edgeOf a b)).to by simp only [shE]; omega)]; rfl
theorem getD_map {pc : List PtT} {f : PtT → PtT} {j : Nat} (h : j < pc.length) : (pc.map f).getD j dP = f (pc.getD j dP) := by
  rw [List.getD_eq_getElem?_getD, List.getD_eq_getElem?_getD, List.getElem?_map, List.getElem?_eq_getElem h]; rfl
theorem edgesTo_shift (bx d : Int) (pc : List PtT) : ∀ j, j ≤ pc.length → edgesTo (pc.map (shP bx (256 * d))) j = (edgesTo pc j).map (shE bx d)
  | 0, _ => rfl
  | j + 1, h => by
    rw [edgesTo_succ, edgesTo_succ, List.map_append, edgesTo_shift bx d pc j (by omega), edgesAt_on, edgesAt_on, List.length_map, getD_map (by omega), getD_map (Nat.mod_lt _ (by omega)), onE_shift]
theorem edgesOf_shift (bx d : Int) (pc : List PtT) : edgesOf (pc.map (shP bx (256 * d))) = (edgesOf pc).map (shE bx d) := by
  unfold edgesOf; rw [List.length_map]; exact edgesTo_shift bx d pc _ (Nat.le_refl _)
theorem shW_near {bx by_ : Int} {p : PtT} (h : NearT p) (hx : -8388608 ≤ bx ∧ bx ≤ 8388608) (hy : -8388608 ≤ by_ ∧ by_ ≤ 8388608) : shW bx by_ p = shP bx by_ p := by
  unfold NearT at h
  simp only [shW, shP, w64]
  congr 1 <;> omega
theorem map_near {bx by_ : Int} {pc : List PtT} (h : ∀ p ∈ pc, NearT p) (hx : -8388608 ≤ bx ∧ bx ≤ 8388608) (hy : -8388608 ≤ by_ ∧ by_ ≤ 8388608) : pc.map (shW bx by_) = pc.map (shP bx by_) :=
  List.map_congr_left fun p hp => shW_near (h p hp) hx hy
theorem sh_snoc {bx by_ : Int} {pc : List PtT} {i : Nat} (hi : i < pc.length) : ((pc.take i).map (shW bx by_)).flatMap eP ++ [.int .i64 (((pc.getD i dP).x + bx + 9223372036854775808) % 18446744073709551616 - 9223372036854775808), .int .i64 (((pc.getD i dP).y + by_ + 9223372036854775808) % 18446744073709551616 - 9223372036854775808)] = ((pc.take (i + 1)).map (shW bx by_)).flatMap eP := by
  rw [List.take_add_one, List.map_append, List.flatMap_append, List.getElem?_eq_getElem hi, List.getD_eq_getElem?_getD, List.getElem?_eq_getElem hi]
  rfl
theorem shE_getD {bx d : Int} {pc : List PtT} {i : Nat} (hi : i < (edgesOf pc).length) : (edgesOf (pc.map (shP bx (256 * d)))).getD i dE = shE bx d ((edgesOf pc).getD i dE) := by
  rw [edgesOf_shift, List.getD_eq_getElem?_getD, List.getD_eq_getElem?_getD, List.getElem?_map, List.getElem?_eq_getElem hi]; rfl
theorem at_shift (bx d : Int) (e : EdgeT) (r : Int) : atE (shE bx d e) (r + 16 * d) = atE e r + bx := by
  simp only [atE, shE]
  rw [show 16 * (r + 16 * d) + 8 - (e.y + 256 * d) = 16 * r + 8 - e.y by omega]
  omega


end Go.Proofs.Ytaijclimdfchfaa
