import Derived.Test.YtllhohbenniaaaaGreatM1
import Derived.Test.YtllhohbenniaaaaGreatM2
/- Where an edge crosses its rows; pieces that are shifted by whole pixels have shifted edges. Conditions: none. -/
namespace Go.Proofs.YtllhohbenniaaaaGreat
open Go.Proofs Go.RowKit Go.Shelf

/-! ### where an edge crosses its rows -/
structure EdgeOk (e : EdgeT) : Prop where
  fr : e.fr = rowOf e.y
  to : e.to = rowOf (e.y + e.dy)
  lt : e.fr < e.to
  x : -1073741824 ≤ e.x ∧ e.x ≤ 1073741824
  x2 : -1073741824 ≤ e.x + e.dx ∧ e.x + e.dx ≤ 1073741824
  y : -1073741824 ≤ e.y ∧ e.y ≤ 1073741824
  y2 : -1073741824 ≤ e.y + e.dy ∧ e.y + e.dy ≤ 1073741824
theorem edgeOk_edge {a b : PtT} (ha : NearT a) (hb : NearT b) (h : (edgeOf a b).fr < (edgeOf a b).to) : EdgeOk (edgeOf a b) := by
  unfold NearT at ha hb
  by_cases hy : b.y < a.y
  · rw [edgeOf_lt hy] at h ⊢
    exact ⟨rfl, congrArg rowOf (show a.y = b.y + (a.y - b.y) by omega), h, by dsimp only; omega, by dsimp only; omega, by dsimp only; omega, by dsimp only; omega⟩
  · rw [edgeOf_ge hy] at h ⊢
    exact ⟨rfl, congrArg rowOf (show b.y = a.y + (b.y - a.y) by omega), h, by dsimp only; omega, by dsimp only; omega, by dsimp only; omega, by dsimp only; omega⟩
theorem edgeOk_to {pc : List PtT} (hn : ∀ p ∈ pc, NearT p) (j : Nat) (hj : j ≤ pc.length) : ∀ e ∈ edgesTo pc j, EdgeOk e := fun e he => by
  obtain ⟨k, hk, h⟩ := List.mem_flatMap.1 he
  have hkj := List.mem_range.1 hk
  unfold edgesAt at h
  split at h
  · rename_i hlt
    rw [List.mem_singleton.1 h]
    exact edgeOk_edge (near_getD hn (by omega)) (near_getD hn (Nat.mod_lt _ (by omega))) hlt
  · cases h
theorem edgeOk_getD {pc : List PtT} (hn : ∀ p ∈ pc, NearT p) {i : Nat} (hi : i < (edgesOf pc).length) : EdgeOk ((edgesOf pc).getD i dE) := by
  rw [List.getD_eq_getElem?_getD, List.getElem?_eq_getElem hi]
  exact edgeOk_to hn _ (Nat.le_refl _) _ (List.getElem_mem hi)
theorem EdgeOk.dy {e : EdgeT} (h : EdgeOk e) : 0 < e.dy := by
  have h1 := rowOf_def e.y; have h2 := rowOf_def (e.y + e.dy); have := h.fr; have := h.to; have := h.lt; omega
theorem EdgeOk.mid {e : EdgeT} (h : EdgeOk e) {r : Int} (h1 : e.fr ≤ r) (h2 : r < e.to) : 0 ≤ 16 * r + 8 - e.y ∧ 16 * r + 8 - e.y < e.dy := by
  have h3 := rowOf_def e.y; have h4 := rowOf_def (e.y + e.dy); have := h.fr; have := h.to; omega
theorem EdgeOk.rows {e : EdgeT} (h : EdgeOk e) : -67108865 ≤ e.fr ∧ e.to ≤ 67108865 := by
  have h3 := rowOf_def e.y; have h4 := rowOf_def (e.y + e.dy); have := h.fr; have := h.to; have := h.y; have := h.y2; omega
theorem cross_bound {t dx dy : Int} (h0 : 0 ≤ t) (h1 : t < dy) : (0 ≤ dx → 0 ≤ t * dx ∧ t * dx ≤ dy * dx) ∧ (dx ≤ 0 → dy * dx ≤ t * dx ∧ t * dx ≤ 0) := by
  refine ⟨fun h => ⟨Int.mul_nonneg h0 h, Int.mul_le_mul_of_nonneg_right (by omega) h⟩, fun h => ?_⟩
  have a1 := Int.mul_nonneg h0 (show 0 ≤ -dx by omega)
  have a2 := Int.mul_le_mul_of_nonneg_right (show t ≤ dy by omega) (show 0 ≤ -dx by omega)
  rw [Int.mul_neg] at a1
  rw [Int.mul_neg, Int.mul_neg] at a2
  omega
theorem EdgeOk.cross {e : EdgeT} (h : EdgeOk e) {r : Int} (h1 : e.fr ≤ r) (h2 : r < e.to) : (0 ≤ e.dx → e.x ≤ atE e r ∧ atE e r ≤ e.x + e.dx) ∧ (e.dx ≤ 0 → e.x + e.dx ≤ atE e r ∧ atE e r ≤ e.x) := by
  have hm := h.mid h1 h2
  have hd := h.dy
  have hc := cross_bound (dx := e.dx) hm.1 hm.2
  unfold atE
  refine ⟨fun hx => ?_, fun hx => ?_⟩
  · have h3 := hc.1 hx
    have h4 := Int.ediv_nonneg h3.1 (show 0 ≤ e.dy by omega)
    have h5 := Int.ediv_le_of_le_mul hd (show (16 * r + 8 - e.y) * e.dx ≤ e.dx * e.dy by rw [Int.mul_comm e.dx]; exact h3.2)
    omega
  · have h3 := hc.2 hx
    have h4 := Int.ediv_nonpos_of_nonpos_of_neg h3.2 hd
    have h5 := (Int.le_ediv_iff_mul_le hd).2 (show e.dx * e.dy ≤ (16 * r + 8 - e.y) * e.dx by rw [Int.mul_comm e.dx]; exact h3.1)
    omega
theorem EdgeOk.prod {e : EdgeT} (h : EdgeOk e) {r : Int} (h1 : e.fr ≤ r) (h2 : r < e.to) : -4611686018427387904 ≤ (16 * r + 8 - e.y) * e.dx ∧ (16 * r + 8 - e.y) * e.dx ≤ 4611686018427387904 := by
  have hm := h.mid h1 h2
  have := h.x; have := h.x2; have := h.y; have := h.y2
  have := mul_bound (A := 2147483648) (B := 2147483648) (x := 16 * r + 8 - e.y) (y := e.dx) (by omega) (by omega) (by omega) (by omega)
  omega
theorem EdgeOk.at_ {e : EdgeT} (h : EdgeOk e) {r : Int} (h1 : e.fr ≤ r) (h2 : r < e.to) : -1073741824 ≤ atE e r ∧ atE e r ≤ 1073741824 := by
  have hc := h.cross h1 h2
  have := h.x; have := h.x2
  by_cases hx : 0 ≤ e.dx
  · have := hc.1 hx; omega
  · have := hc.2 (by omega); omega
/-- the answer of At, of an edge and one of its rows -/
theorem a_AtOk {e : EdgeT} (h : EdgeOk e) {r : Int} (h1 : e.fr ≤ r) (h2 : r < e.to) : Ans Tryz.prog 66 [.agg #[.int .i64 e.x, .int .i64 e.y, .int .i64 e.dx, .int .i64 e.dy, .int .i64 e.wi, .int .i64 e.fr, .int .i64 e.to], .int .i64 r] (.int .i64 (atE e r)) := by
  have := h.x; have := h.x2; have := h.y; have := h.y2; have := h.rows; have := h.dy
  exact a_At e r (by omega) (by omega) (by omega) (by omega) (by omega) (h.prod h1 h2)
/-- one of its rows -/
theorem row_in {e : EdgeT} {a : Int} (h : EdgeOk e) (ha : 0 ≤ a) : 0 ≤ a % (e.to - e.fr) ∧ a % (e.to - e.fr) < e.to - e.fr := ⟨Int.emod_nonneg _ (by have := h.lt; omega), Int.emod_lt_of_pos _ (by have := h.lt; omega)⟩

/-! ### what is shifted -/
def w64 (a : Int) : Int := (a + 9223372036854775808) % 18446744073709551616 - 9223372036854775808
def shW (bx by_ : Int) (p : PtT) : PtT := ⟨w64 (p.x + bx), w64 (p.y + by_)⟩
def shP (bx by_ : Int) (p : PtT) : PtT := ⟨p.x + bx, p.y + by_⟩
def shE (bx d : Int) (e : EdgeT) : EdgeT := ⟨e.x + bx, e.y + 256 * d, e.dx, e.dy, e.wi, e.fr + 16 * d, e.to + 16 * d⟩
theorem rowOf_shift (y d : Int) : rowOf (y + 256 * d) = rowOf y + 16 * d := by have h1 := rowOf_def y; have h2 := rowOf_def (y + 256 * d); omega
theorem edgeOf_shift (bx d : Int) (a b : PtT) : edgeOf (shP bx (256 * d) a) (shP bx (256 * d) b) = shE bx d (edgeOf a b) := by
  by_cases h : b.y < a.y
  · rw [edgeOf_lt h, edgeOf_lt (show (shP bx (256 * d) b).y < (shP bx (256 * d) a).y by simp only [shP]; omega)]
    simp only [shP, shE, rowOf_shift]
    exact edge_ext ⟨rfl, rfl, by dsimp only; omega, by dsimp only; omega, rfl, rfl, rfl⟩
  · rw [edgeOf_ge h, edgeOf_ge (show ¬ (shP bx (256 * d) b).y < (shP bx (256 * d) a).y by simp only [shP]; omega)]
    simp only [shP, shE, rowOf_shift]
    exact edge_ext ⟨rfl, rfl, by dsimp only; omega, by dsimp only; omega, rfl, rfl, rfl⟩
theorem onE_shift (bx d : Int) (a b : PtT) : onE (shP bx (256 * d) a) (shP bx (256 * d) b) = (onE a b).map (shE bx d) := by
  unfold onE
  rw [edgeOf_shift]
  by_cases h : (edgeOf a b).fr < (edgeOf a b).to
  · rw [if_pos h, if_pos (show (shE bx d (edgeOf a b)).fr < (shE bx d (edgeOf a b)).to by simp only [shE]; omega)]; rfl
  · rw [if_neg h, if_neg (show ¬ (shE bx d (edgeOf a b)).fr < (shE bx d (edgeOf a b)).to by simp only [shE]; omega)]; rfl
theorem getD_map {pc : List PtT} {f : PtT → PtT} {j : Nat} (h : j < pc.length) : (pc.map f).getD j dP = f (pc.getD j dP) := by
  rw [List.getD_eq_getElem?_getD, List.getD_eq_getElem?_getD, List.getElem?_map, List.getElem?_eq_getElem h]; rfl
theorem edgesTo_shift (bx d : Int) (pc : List PtT) : ∀ j, j ≤ pc.length → edgesTo (pc.map (shP bx (256 * d))) j = (edgesTo pc j).map (shE bx d)
  | 0, _ => rfl
  | j + 1, h => by
    rw [edgesTo_succ, edgesTo_succ, List.map_append, edgesTo_shift bx d pc j (by omega), edgesAt_on, edgesAt_on, List.length_map, getD_map (by omega), getD_map (Nat.mod_lt _ (by omega)), onE_shift]
theorem edgesOf_shift (bx d : Int) (pc : List PtT) : edgesOf (pc.map (shP bx (256 * d))) = (edgesOf pc).map (shE bx d) := by
  unfold edgesOf; rw [List.length_map]; exact edgesTo_shift bx d pc _ (Nat.le_refl _)
theorem shW_near {bx by_ : Int} {p : PtT} (h : NearT p) (hx : -8388608 ≤ bx ∧ bx ≤ 8388608) (hy : -8388608 ≤ by_ ∧ by_ ≤ 8388608) : shW bx by_ p = shP bx by_ p := by
  unfold NearT at h
  simp only [shW, shP, w64]
  congr 1 <;> omega
theorem map_near {bx by_ : Int} {pc : List PtT} (h : ∀ p ∈ pc, NearT p) (hx : -8388608 ≤ bx ∧ bx ≤ 8388608) (hy : -8388608 ≤ by_ ∧ by_ ≤ 8388608) : pc.map (shW bx by_) = pc.map (shP bx by_) :=
  List.map_congr_left fun p hp => shW_near (h p hp) hx hy
theorem sh_snoc {bx by_ : Int} {pc : List PtT} {i : Nat} (hi : i < pc.length) : ((pc.take i).map (shW bx by_)).flatMap eP ++ [.int .i64 (((pc.getD i dP).x + bx + 9223372036854775808) % 18446744073709551616 - 9223372036854775808), .int .i64 (((pc.getD i dP).y + by_ + 9223372036854775808) % 18446744073709551616 - 9223372036854775808)] = ((pc.take (i + 1)).map (shW bx by_)).flatMap eP := by
  rw [List.take_add_one, List.map_append, List.flatMap_append, List.getElem?_eq_getElem hi, List.getD_eq_getElem?_getD, List.getElem?_eq_getElem hi]
  rfl
theorem shE_getD {bx d : Int} {pc : List PtT} {i : Nat} (hi : i < (edgesOf pc).length) : (edgesOf (pc.map (shP bx (256 * d)))).getD i dE = shE bx d ((edgesOf pc).getD i dE) := by
  rw [edgesOf_shift, List.getD_eq_getElem?_getD, List.getD_eq_getElem?_getD, List.getElem?_map, List.getElem?_eq_getElem hi]; rfl
theorem at_shift (bx d : Int) (e : EdgeT) (r : Int) : atE (shE bx d e) (r + 16 * d) = atE e r + bx := by
  simp only [atE, shE]
  rw [show 16 * (r + 16 * d) + 8 - (e.y + 256 * d) = 16 * r + 8 - e.y by omega]
  omega


end Go.Proofs.YtllhohbenniaaaaGreat

/- The numbers of 128 bits of the document, and where an edge crosses a row by it. Conditions: none. -/
namespace Go.Proofs.YtllhohbenniaaaaGreat
open Go.Proofs Go.RowKit Go.Shelf

theorem mulNN {x y A B : Int} (hx : 0 ≤ x ∧ x ≤ A) (hy : 0 ≤ y ∧ y ≤ B) : 0 ≤ x * y ∧ x * y ≤ A * B :=
  ⟨Int.mul_nonneg hx.1 hy.1, Int.mul_le_mul hx.2 hy.2 hy.1 (by omega)⟩
theorem mul_split (u v : Int) : u * v = u / 4294967296 * (v / 4294967296) * 18446744073709551616 + u / 4294967296 * (v % 4294967296) * 4294967296 + u % 4294967296 * (v / 4294967296) * 4294967296 + u % 4294967296 * (v % 4294967296) := by
  have h1 : u = u / 4294967296 * 4294967296 + u % 4294967296 := by omega
  have h2 : v = v / 4294967296 * 4294967296 + v % 4294967296 := by omega
  generalize u / 4294967296 = p at *
  generalize u % 4294967296 = q at *
  generalize v / 4294967296 = r at *
  generalize v % 4294967296 = s at *
  subst h1 h2
  simp only [Int.add_mul, Int.mul_add]
  rw [show p * 4294967296 * (r * 4294967296) = p * r * 18446744073709551616 by rw [Int.mul_assoc, Int.mul_left_comm 4294967296 r, ← Int.mul_assoc, show (4294967296 : Int) * 4294967296 = 18446744073709551616 from rfl],
    show p * 4294967296 * s = p * s * 4294967296 by rw [Int.mul_assoc, Int.mul_comm 4294967296 s, ← Int.mul_assoc], show q * (r * 4294967296) = q * r * 4294967296 by rw [← Int.mul_assoc]]
  omega
/-- a long division, under way: i digits of X are taken -/
structure DivQ (X b : Int) (i : Nat) (left hi lo q : Int) : Prop where
  hb : 0 < b ∧ b < 9223372036854775808
  hX : 0 ≤ X ∧ X ≤ 4611686018427387904
  le : i ≤ 128
  hl : 0 ≤ left ∧ left < b
  hh : 0 ≤ hi ∧ hi < 18446744073709551616
  hlo : 0 ≤ lo ∧ lo < 18446744073709551616
  hq : 0 ≤ q
  eq : X * 2 ^ i = (q * b + left) * 340282366920938463463374607431768211456 + hi * 18446744073709551616 + lo
theorem DivQ.qX {X b left hi lo q : Int} {i : Nat} (h : DivQ X b i left hi lo q) : 0 ≤ q * b ∧ q ≤ q * b ∧ q * b + left ≤ X := by
  have h1 := h.eq; have h2 := h.hl; have h3 := h.hh; have h4 := h.hlo; have h5 := h.hX; have hb := h.hb
  have h6 : q * 1 ≤ q * b := Int.mul_le_mul_of_nonneg_left (by omega) h.hq
  have h0 : 0 ≤ q * b := Int.mul_nonneg h.hq (by omega)
  have h7 : (2 : Int) ^ i ≤ 2 ^ 128 := by
    have : (2 : Nat) ^ i ≤ 2 ^ 128 := Nat.pow_le_pow_right (by omega) h.le
    exact_mod_cast this
  have h8 : X * 2 ^ i ≤ X * 2 ^ 128 := Int.mul_le_mul_of_nonneg_left h7 h5.1
  rw [show (2 : Int) ^ 128 = 340282366920938463463374607431768211456 from rfl] at h8
  refine ⟨h0, by omega, ?_⟩
  omega
theorem DivQ.start {X b : Int} (hb : 0 < b ∧ b < 9223372036854775808) (hX : 0 ≤ X ∧ X ≤ 4611686018427387904) : DivQ X b 0 0 (X / 18446744073709551616) (X % 18446744073709551616) 0 :=
  ⟨hb, hX, by omega, by omega, by omega, by omega, by omega, by rw [Int.pow_zero, Int.mul_one, Int.zero_mul]; omega⟩
theorem DivQ.big {X b left hi lo q : Int} {i : Nat} (h : DivQ X b i left hi lo q) (hi' : i < 128) (hc : b ≤ left * 2 + hi / 9223372036854775808) :
    DivQ X b (i + 1) (left * 2 + hi / 9223372036854775808 - b) (hi * 2 % 18446744073709551616 + lo / 9223372036854775808) (lo * 2 % 18446744073709551616) (q + q + 1) := by
  have h1 := h.eq; have h2 := h.hl; have h3 := h.hh; have h4 := h.hlo; have hb := h.hb; have hq := h.hq
  refine ⟨hb, h.hX, by omega, by omega, by omega, by omega, by omega, ?_⟩
  rw [Int.pow_succ, ← Int.mul_assoc, h1, show (q + q + 1) * b = q * b + q * b + b by rw [Int.add_mul, Int.add_mul, Int.one_mul]]
  omega
theorem DivQ.small {X b left hi lo q : Int} {i : Nat} (h : DivQ X b i left hi lo q) (hi' : i < 128) (hc : left * 2 + hi / 9223372036854775808 < b) :
    DivQ X b (i + 1) (left * 2 + hi / 9223372036854775808) (hi * 2 % 18446744073709551616 + lo / 9223372036854775808) (lo * 2 % 18446744073709551616) (q + q) := by
  have h1 := h.eq; have h2 := h.hl; have h3 := h.hh; have h4 := h.hlo; have hb := h.hb; have hq := h.hq
  refine ⟨hb, h.hX, by omega, by omega, by omega, by omega, by omega, ?_⟩
  rw [Int.pow_succ, ← Int.mul_assoc, h1, show (q + q) * b = q * b + q * b by rw [Int.add_mul]]
  omega
theorem DivQ.done {X b left hi lo q : Int} {i : Nat} (h : DivQ X b i left hi lo q) (hi' : ¬ (i : Int) < 128) : X = q * b + left := by
  have h1 := h.eq; have h2 := h.hl; have h3 := h.hh; have h4 := h.hlo; have := h.le
  obtain rfl : i = 128 := by omega
  rw [show (2 : Int) ^ 128 = 340282366920938463463374607431768211456 from rfl] at h1
  omega
theorem div_pos {x b q left : Int} (hb : 0 < b) (h : x = q * b + left) (hl : 0 ≤ left ∧ left < b) : x / b = q ∧ x % b = left :=
  (Int.ediv_emod_unique hb).2 ⟨by rw [Int.mul_comm]; omega, hl.1, hl.2⟩
theorem div_neg1 {x b q left : Int} (hb : 0 < b) (h : -x = q * b + left) (hl : 0 < left ∧ left < b) : x / b = -q - 1 ∧ x % b = b - left := by
  refine (Int.ediv_emod_unique hb).2 ⟨?_, by omega, by omega⟩
  rw [show b * (-q - 1) = -(q * b) - b by rw [Int.mul_sub, Int.mul_neg, Int.mul_comm, Int.mul_one]]
  omega
theorem div_neg0 {x b q left : Int} (hb : 0 < b) (h : -x = q * b + left) (hl : left = 0) : x / b = -q ∧ x % b = 0 := by
  refine (Int.ediv_emod_unique hb).2 ⟨?_, by omega, by omega⟩
  rw [show b * (-q) = -(q * b) by rw [Int.mul_neg, Int.mul_comm]]
  omega

theorem r_Of (y : Int) (hy : -9223372036854775808 ≤ y ∧ y < 9223372036854775808) : Ans Tryz.prog 104 [.int .i64 y] (wideV y) := by
  refine ans_of Tryz.func104 rfl Tryz.ntmps104 Tryz.results104 rfl rfl fun w => ?_
  refine v_seq ?_
  refine v_region ?_
  refine l_new rfl o_alloc fun b2 => ?_
  refine l_nil ?_
  refine kt_norm ?_
  refine v_seq ?_
  refine v_seq ?_
  refine v_region ?_
  refine l_val rfl (o_move rfl) ?_
  refine l_split rfl (o_lss rfl rfl) (fun q1 => ?_) (fun q1 => ?_)
  · first
    | (exfalso; omega; done)
    | (
        refine l_nil ?_
        refine kt_norm ?_
        refine v_condT rfl ?_
        refine v_seq ?_
        refine v_region ?_
        refine l_val rfl (o_move rfl) ?_
        refine l_val rfl (o_convu rfl) ?_
        refine l_val rfl (o_build (vs := [_, _]) (cs := [_, _]) rfl rfl) ?_
        refine l_store rfl (o_storeW (key := 2) (xs := [_, _]) rfl rfl rfl rfl rfl rfl rfl) ?_
        refine l_nil ?_
        refine kt_norm ?_
        refine v_sel [2] [2] rfl rfl ?_
        refine v_ret ?_
        refine kt_ret ?_
        refine ⟨[_], .cons (.cellW (key := 2) rfl rfl rfl) (ResAll.nil), ?_⟩
        exact (wideV_eq (by omega) (by omega) (by omega)).symm)
  · first
    | (exfalso; omega; done)
    | (
        refine l_nil ?_
        refine kt_norm ?_
        refine v_condF rfl ?_
        refine v_skip ?_
        refine kt_norm ?_
        refine v_seq ?_
        refine v_region ?_
        refine l_val rfl (o_move rfl) ?_
        refine l_val rfl (o_convu rfl) ?_
        refine l_val rfl (o_build (vs := [_, _]) (cs := [_, _]) rfl rfl) ?_
        refine l_store rfl (o_storeW (key := 2) (xs := [_, _]) rfl rfl rfl rfl rfl rfl rfl) ?_
        refine l_nil ?_
        refine kt_norm ?_
        refine v_sel [2] [2] rfl rfl ?_
        refine v_ret ?_
        refine ⟨[_], .cons (.cellW (key := 2) rfl rfl rfl) (ResAll.nil), ?_⟩
        exact (wideV_eq (by omega) (by omega) (by omega)).symm)
theorem r_Add (x y : Int) (hx : -170141183460469231731687303715884105728 ≤ x ∧ x < 170141183460469231731687303715884105728) (hy : -170141183460469231731687303715884105728 ≤ y ∧ y < 170141183460469231731687303715884105728) (hs : -170141183460469231731687303715884105728 ≤ x + y ∧ x + y < 170141183460469231731687303715884105728) : Ans Tryz.prog 103 [wideV x, wideV y] (wideV (x + y)) := by
  refine ans_of Tryz.func103 rfl Tryz.ntmps103 Tryz.results103 rfl rfl fun w => ?_
  refine v_seq ?_
  refine v_region ?_
  refine l_new rfl (o_box (cs := [_, _]) rfl rfl) fun b2 => ?_
  refine l_new rfl (o_box (cs := [_, _]) rfl rfl) fun b3 => ?_
  refine l_new rfl o_alloc fun b4 => ?_
  refine l_nil ?_
  refine kt_norm ?_
  refine v_seq ?_
  refine v_region ?_
  refine l_val rfl (o_fld rfl) ?_
  refine l_val rfl (o_load1 (key := 2) rfl rfl rfl) ?_
  refine l_val rfl (o_fld rfl) ?_
  refine l_val rfl (o_load1 (key := 3) rfl rfl rfl) ?_
  refine l_val rfl (o_addu rfl rfl) ?_
  refine l_val rfl (o_assign rfl) ?_
  refine l_nil ?_
  refine kt_norm ?_
  refine v_sel [2, 3, 4, 5] [2, 3, 4] rfl rfl ?_
  refine v_seq ?_
  refine v_region ?_
  refine l_val rfl (o_fld rfl) ?_
  refine l_val rfl (o_load1 (key := 2) rfl rfl rfl) ?_
  refine l_val rfl (o_convu rfl) ?_
  refine l_val rfl (o_fld rfl) ?_
  refine l_val rfl (o_load1 (key := 3) rfl rfl rfl) ?_
  refine l_val rfl (o_convu rfl) ?_
  refine l_val rfl (o_addu rfl rfl) ?_
  refine l_val rfl (o_assign rfl) ?_
  refine l_nil ?_
  refine kt_norm ?_
  refine v_sel [2, 4, 5, 6] [2, 4] rfl rfl ?_
  refine v_seq ?_
  refine v_seq ?_
  refine v_region ?_
  refine l_val rfl (o_move rfl) ?_
  refine l_val rfl (o_fld rfl) ?_
  refine l_val rfl (o_load1 (key := 2) rfl rfl rfl) ?_
  refine l_split rfl (o_lss rfl rfl) (fun q1 => ?_) (fun q1 => ?_)
  · first
    | (exfalso; omega; done)
    | (
        refine l_nil ?_
        refine kt_norm ?_
        refine v_condT rfl ?_
        refine v_region ?_
        refine l_val rfl (o_move rfl) ?_
        refine l_val rfl (o_addu rfl rfl) ?_
        refine l_val rfl (o_assign rfl) ?_
        refine l_nil ?_
        refine kt_norm ?_
        refine v_sel [4, 5, 6] [4] rfl rfl ?_
        refine v_seq ?_
        refine v_region ?_
        refine l_val rfl (o_move rfl) ?_
        refine l_val rfl (o_convm rfl) ?_
        refine l_val rfl (o_move rfl) ?_
        refine l_val rfl (o_build (vs := [_, _]) (cs := [_, _]) rfl rfl) ?_
        refine l_store rfl (o_storeW (key := 4) (xs := [_, _]) rfl rfl rfl rfl rfl rfl rfl) ?_
        refine l_nil ?_
        refine kt_norm ?_
        refine v_sel [4] [4] rfl rfl ?_
        refine v_ret ?_
        refine ⟨[_], .cons (.cellW (key := 4) rfl rfl rfl) (ResAll.nil), ?_⟩
        exact (wideV_eq (by omega) (by omega) (by omega)).symm)
  · first
    | (exfalso; omega; done)
    | (
        refine l_nil ?_
        refine kt_norm ?_
        refine v_condF rfl ?_
        refine v_skip ?_
        refine kt_norm ?_
        refine v_seq ?_
        refine v_region ?_
        refine l_val rfl (o_move rfl) ?_
        refine l_val rfl (o_convm rfl) ?_
        refine l_val rfl (o_move rfl) ?_
        refine l_val rfl (o_build (vs := [_, _]) (cs := [_, _]) rfl rfl) ?_
        refine l_store rfl (o_storeW (key := 4) (xs := [_, _]) rfl rfl rfl rfl rfl rfl rfl) ?_
        refine l_nil ?_
        refine kt_norm ?_
        refine v_sel [4] [4] rfl rfl ?_
        refine v_ret ?_
        refine ⟨[_], .cons (.cellW (key := 4) rfl rfl rfl) (ResAll.nil), ?_⟩
        exact (wideV_eq (by omega) (by omega) (by omega)).symm)
theorem r_AddE (h l h' l' z : Int) (hl : 0 ≤ l ∧ l < 18446744073709551616) (hm : 0 ≤ l' ∧ l' < 18446744073709551616) (hh : -9223372036854775808 ≤ h ∧ h < 9223372036854775808) (hk : -9223372036854775808 ≤ h' ∧ h' < 9223372036854775808) (hs : -170141183460469231731687303715884105728 ≤ z ∧ z < 170141183460469231731687303715884105728) (hz : h * 18446744073709551616 + l + (h' * 18446744073709551616 + l') = z) :
    Ans Tryz.prog 103 [.agg #[.int .i64 h, .int .u64 l], .agg #[.int .i64 h', .int .u64 l']] (wideV z) := by
  subst hz
  rw [← wideV_eq hl.1 hl.2 rfl, ← wideV_eq hm.1 hm.2 rfl]
  exact r_Add _ _ (by omega) (by omega) hs
theorem r_raised (n : Int) (hn : 0 ≤ n ∧ n < 18446744073709551616) : Ans Tryz.prog 106 [.int .u64 n] (wideV (n * 4294967296)) := by
  refine ans_of Tryz.func106 rfl Tryz.ntmps106 Tryz.results106 rfl rfl fun w => ?_
  refine v_seq ?_
  refine v_region ?_
  refine l_new rfl o_alloc fun b2 => ?_
  refine l_nil ?_
  refine kt_norm ?_
  refine v_seq ?_
  refine v_region ?_
  refine l_val rfl (o_move rfl) ?_
  refine l_val rfl (o_quon rfl rfl ?_ ?_) ?_
  · omega
  · exact wrap_u64 (by omega)
  refine l_val rfl (o_convi rfl ?_) ?_
  · omega
  refine l_val rfl (o_move rfl) ?_
  refine l_val rfl (o_remn rfl rfl ?_) ?_
  · omega
  refine l_val rfl (o_mulu rfl rfl) ?_
  refine l_val rfl (o_build (vs := [_, _]) (cs := [_, _]) rfl rfl) ?_
  refine l_store rfl (o_storeW (key := 2) (xs := [_, _]) rfl rfl rfl rfl rfl rfl rfl) ?_
  refine l_nil ?_
  refine kt_norm ?_
  refine v_sel [2] [2] rfl rfl ?_
  refine v_ret ?_
  refine ⟨[_], .cons (.cellW (key := 2) rfl rfl rfl) (ResAll.nil), ?_⟩
  exact (wideV_eq (by omega) (by omega) (by omega)).symm
theorem r_neg (x : Int) (hx : -170141183460469231731687303715884105727 ≤ x ∧ x < 170141183460469231731687303715884105728) : Ans Tryz.prog 102 [wideV x] (wideV (-x)) := by
  refine ans_of Tryz.func102 rfl Tryz.ntmps102 Tryz.results102 rfl rfl fun w => ?_
  refine v_seq ?_
  refine v_region ?_
  refine l_new rfl (o_box (cs := [_, _]) rfl rfl) fun b1 => ?_
  refine l_new rfl o_alloc fun b2 => ?_
  refine l_nil ?_
  refine kt_norm ?_
  refine v_seq ?_
  refine v_drawZ [[], [1], [], [], [1], [], [], [], [], [2]] mixed ?_ (by kernel_rfl) (by kernel_rfl)
  refine d_val (fun _ => rfl) rfl rfl (fun _ => o_fld rfl) ?_
  refine d_val (fun _ => rfl) rfl rfl (fun _ => o_load1 (key := 1) rfl rfl rfl) ?_
  refine d_val (fun _ => rfl) rfl rfl (fun _ => o_subi rfl rfl ?_) ?_
  · omega
  refine d_val (fun _ => rfl) rfl rfl (fun _ => o_fld rfl) ?_
  refine d_val (fun _ => rfl) rfl rfl (fun _ => o_load1 (key := 1) rfl rfl rfl) ?_
  refine d_val (fun _ => rfl) rfl rfl (fun _ => o_subu rfl rfl) ?_
  refine d_val (fun _ => rfl) rfl rfl (fun _ => o_build (vs := [_, _]) (cs := [_, _]) rfl rfl) ?_
  refine d_ans (vs := [_]) (fun _ => rfl) (fun _ => rfl) (r_Of _ ?_) ?_
  · omega
  refine d_ans (vs := [_, _]) (fun _ => rfl) (fun _ => rfl) (r_AddE _ _ _ _ (-x) ?_ ?_ ?_ ?_ ?_ ?_) ?_
  · omega
  · omega
  · omega
  · omega
  · omega
  · omega
  refine d_store (fun _ => rfl) rfl rfl (fun _ => o_storeW (key := 2) (xs := [_, _]) rfl rfl rfl rfl rfl rfl rfl) ?_
  refine d_nil (fun σ => ?_)
  refine l_nil ?_
  refine kt_norm ?_
  refine v_sel [2] [2] rfl rfl ?_
  refine v_ret ?_
  refine ⟨[_], .cons (.cellW (key := 2) rfl rfl rfl) (ResAll.nil), ?_⟩
  rfl
theorem r_Sub (x y : Int) (hx : -42535295865117307932921825928971026432 ≤ x ∧ x < 42535295865117307932921825928971026432) (hy : -42535295865117307932921825928971026432 ≤ y ∧ y < 42535295865117307932921825928971026432) : Ans Tryz.prog 105 [wideV x, wideV y] (wideV (x - y)) := by
  refine ans_of Tryz.func105 rfl Tryz.ntmps105 Tryz.results105 rfl rfl fun w => ?_
  refine v_seq ?_
  refine v_region ?_
  refine l_new rfl (o_box (cs := [_, _]) rfl rfl) fun b2 => ?_
  refine l_new rfl (o_box (cs := [_, _]) rfl rfl) fun b3 => ?_
  refine l_new rfl o_alloc fun b4 => ?_
  refine l_nil ?_
  refine kt_norm ?_
  refine v_seq ?_
  refine v_drawZ [[2], [3], [], [], [4]] mixed ?_ (by kernel_rfl) (by kernel_rfl)
  refine d_val (fun _ => rfl) rfl rfl (fun _ => o_loadW (key := 2) rfl rfl rfl) ?_
  refine d_val (fun _ => rfl) rfl rfl (fun _ => o_loadW (key := 3) rfl rfl rfl) ?_
  refine d_ans (vs := [_]) (fun _ => rfl) (fun _ => rfl) (r_neg _ ?_) ?_
  · omega
  refine d_ans (vs := [_, _]) (fun _ => rfl) (fun _ => rfl) (r_Add _ _ ?_ ?_ ?_) ?_
  · omega
  · omega
  · omega
  refine d_store (fun _ => rfl) rfl rfl (fun _ => o_storeW (key := 4) (xs := [_, _]) rfl rfl rfl rfl rfl rfl rfl) ?_
  refine d_nil (fun σ => ?_)
  refine l_nil ?_
  refine kt_norm ?_
  refine v_sel [4] [4] rfl rfl ?_
  refine v_ret ?_
  refine ⟨[_], .cons (.cellW (key := 4) rfl rfl rfl) (ResAll.nil), ?_⟩
  exact congrArg wideV (by omega)
set_option maxHeartbeats 1000000 in
theorem r_Mul (x y : Int) (hx : -9223372036854775808 ≤ x ∧ x < 9223372036854775808) (hy : -9223372036854775808 ≤ y ∧ y < 9223372036854775808) : Ans Tryz.prog 91 [.int .i64 x, .int .i64 y] (wideV (x * y)) := by
  obtain ⟨u, hu1, hu2⟩ : ∃ u : Int, (x < 0 → u = -x) ∧ (¬ x < 0 → u = x) := ⟨if x < 0 then -x else x, fun h => if_pos h, fun h => if_neg h⟩
  obtain ⟨v, hv1, hv2⟩ : ∃ v : Int, (y < 0 → v = -y) ∧ (¬ y < 0 → v = y) := ⟨if y < 0 then -y else y, fun h => if_pos h, fun h => if_neg h⟩
  have hu : 0 ≤ u ∧ u ≤ 9223372036854775808 := by omega
  have hv : 0 ≤ v ∧ v ≤ 9223372036854775808 := by omega
  have m1 := mulNN (x := u / 4294967296) (y := v / 4294967296) (A := 2147483648) (B := 2147483648) (by omega) (by omega)
  have m2 := mulNN (x := u % 4294967296) (y := v % 4294967296) (A := 4294967295) (B := 4294967295) (by omega) (by omega)
  have m3 := mulNN (x := u / 4294967296) (y := v % 4294967296) (A := 2147483648) (B := 4294967295) (by omega) (by omega)
  have m4 := mulNN (x := u % 4294967296) (y := v / 4294967296) (A := 4294967295) (B := 2147483648) (by omega) (by omega)
  have m5 := mul_split u v
  have s1 : x < 0 → y < 0 → x * y = u * v := fun h k => by rw [hu1 h, hv1 k, Int.neg_mul_neg]
  have s2 : x < 0 → ¬ y < 0 → x * y = -(u * v) := fun h k => by rw [hu1 h, hv2 k, Int.neg_mul, Int.neg_neg]
  have s3 : ¬ x < 0 → y < 0 → x * y = -(u * v) := fun h k => by rw [hu2 h, hv1 k, Int.mul_neg, Int.neg_neg]
  have s4 : ¬ x < 0 → ¬ y < 0 → x * y = u * v := fun h k => by rw [hu2 h, hv2 k]
  refine ans_of Tryz.func91 rfl Tryz.ntmps91 Tryz.results91 rfl rfl fun w => ?_
  refine v_seq ?_
  refine v_region ?_
  refine l_new rfl o_alloc fun b4 => ?_
  refine l_nil ?_
  refine kt_norm ?_
  refine v_seq ?_
  refine v_region ?_
  refine l_val rfl (o_move rfl) ?_
  refine l_val rfl (o_convu rfl) ?_
  refine l_val rfl (o_assign rfl) ?_
  refine l_nil ?_
  refine kt_norm ?_
  refine v_seq ?_
  refine v_region ?_
  refine l_val rfl (o_move rfl) ?_
  refine l_val rfl (o_convu rfl) ?_
  refine l_val rfl (o_assign rfl) ?_
  refine l_nil ?_
  refine kt_norm ?_
  refine v_seq ?_
  refine v_seq ?_
  refine v_region ?_
  refine l_val rfl (o_move rfl) ?_
  refine l_split rfl (o_lss rfl rfl) (fun q1 => ?_) (fun q1 => ?_)
  · first
    | (exfalso; omega; done)
    | (
        refine l_nil ?_
        refine kt_norm ?_
        refine v_condT rfl ?_
        refine v_region ?_
        refine l_val rfl (o_move rfl) ?_
        refine l_val rfl (o_negu rfl) ?_
        refine l_val rfl (o_assign rfl) ?_
        refine l_nil ?_
        refine kt_norm ?_
        refine v_sel [0, 1, 4, 5, 6] [4] rfl rfl ?_
        refine v_seq ?_
        refine v_seq ?_
        refine v_region ?_
        refine l_val rfl (o_move rfl) ?_
        refine l_split rfl (o_lss rfl rfl) (fun q2 => ?_) (fun q2 => ?_)
        · first
          | (exfalso; omega; done)
          | (
              refine l_nil ?_
              refine kt_norm ?_
              refine v_condT rfl ?_
              refine v_region ?_
              refine l_val rfl (o_move rfl) ?_
              refine l_val rfl (o_negu rfl) ?_
              refine l_val rfl (o_assign rfl) ?_
              refine l_nil ?_
              refine kt_norm ?_
              refine v_seq ?_
              refine v_region ?_
              refine l_val rfl (o_moveE (q' := u) rfl (by omega)) ?_
              refine l_val rfl (o_quon rfl rfl ?_ ?_) ?_
              · omega
              · exact wrap_u64 (by omega)
              refine l_val rfl (o_assign rfl) ?_
              refine l_nil ?_
              refine kt_norm ?_
              refine v_sel [0, 1, 4, 5, 6, 7] [4] rfl rfl ?_
              refine v_seq ?_
              refine v_region ?_
              refine l_val rfl (o_moveE (q' := u) rfl (by omega)) ?_
              refine l_val rfl (o_remn rfl rfl ?_) ?_
              · omega
              refine l_val rfl (o_assign rfl) ?_
              refine l_nil ?_
              refine kt_norm ?_
              refine v_seq ?_
              refine v_region ?_
              refine l_val rfl (o_moveE (q' := v) rfl (by omega)) ?_
              refine l_val rfl (o_quon rfl rfl ?_ ?_) ?_
              · omega
              · exact wrap_u64 (by omega)
              refine l_val rfl (o_assign rfl) ?_
              refine l_nil ?_
              refine kt_norm ?_
              refine v_seq ?_
              refine v_region ?_
              refine l_val rfl (o_moveE (q' := v) rfl (by omega)) ?_
              refine l_val rfl (o_remn rfl rfl ?_) ?_
              · omega
              refine l_val rfl (o_assign rfl) ?_
              refine l_nil ?_
              refine kt_norm ?_
              refine v_sel [0, 1, 4, 7, 8, 9, 10] [4] rfl rfl ?_
              refine v_seq ?_
              refine v_region ?_
              refine l_val rfl (o_move rfl) ?_
              refine l_val rfl (o_move rfl) ?_
              refine l_val rfl (o_mulu rfl rfl) ?_
              refine l_val rfl (o_convi rfl ?_) ?_
              · omega
              refine l_val rfl (o_build (vs := [_, _]) (cs := [_, _]) rfl rfl) ?_
              refine l_val rfl (o_move rfl) ?_
              refine l_val rfl (o_move rfl) ?_
              refine l_val rfl (o_mulu rfl rfl) ?_
              refine l_val rfl (o_build (vs := [_, _]) (cs := [_, _]) rfl rfl) ?_
              refine l_ans (vs := [_, _]) rfl rfl (r_AddE _ _ _ _ (u / 4294967296 * (v / 4294967296) * 18446744073709551616 + u % 4294967296 * (v % 4294967296)) ?_ ?_ ?_ ?_ ?_ ?_) ?_
              · omega
              · omega
              · omega
              · omega
              · omega
              · omega
              refine l_new rfl o_alloc fun b11 => ?_
              refine l_store rfl (o_storeW (key := 11) (xs := [_, _]) rfl rfl rfl rfl rfl rfl rfl) ?_
              refine l_nil ?_
              refine kt_norm ?_
              refine v_sel [0, 1, 4, 7, 8, 9, 10, 11] [4, 11] rfl rfl ?_
              refine v_seq ?_
              refine v_drawZ [[11], [], [], [], [], [], [], [], [], [], [], [11]] mixed ?_ (by kernel_rfl) (by kernel_rfl)
              refine d_val (fun _ => rfl) rfl rfl (fun _ => o_loadW (key := 11) rfl rfl rfl) ?_
              refine d_val (fun _ => rfl) rfl rfl (fun _ => o_move rfl) ?_
              refine d_val (fun _ => rfl) rfl rfl (fun _ => o_move rfl) ?_
              refine d_val (fun _ => rfl) rfl rfl (fun _ => o_mulu rfl rfl) ?_
              refine d_ans (vs := [_]) (fun _ => rfl) (fun _ => rfl) (r_raised _ ?_) ?_
              · omega
              refine d_ans (vs := [_, _]) (fun _ => rfl) (fun _ => rfl) (r_Add _ _ ?_ ?_ ?_) ?_
              · omega
              · omega
              · omega
              refine d_val (fun _ => rfl) rfl rfl (fun _ => o_move rfl) ?_
              refine d_val (fun _ => rfl) rfl rfl (fun _ => o_move rfl) ?_
              refine d_val (fun _ => rfl) rfl rfl (fun _ => o_mulu rfl rfl) ?_
              refine d_ans (vs := [_]) (fun _ => rfl) (fun _ => rfl) (r_raised _ ?_) ?_
              · omega
              refine d_ans (vs := [_, _]) (fun _ => rfl) (fun _ => rfl) (r_Add _ _ ?_ ?_ ?_) ?_
              · omega
              · omega
              · omega
              refine d_store (fun _ => rfl) rfl rfl (fun _ => o_storeW (key := 11) (xs := [_, _]) rfl rfl rfl rfl rfl rfl rfl) ?_
              refine d_nil (fun σ => ?_)
              refine l_nil ?_
              refine kt_norm ?_
              refine v_sel [0, 1, 4, 11] [4, 11] rfl rfl ?_
              refine v_seq ?_
              refine v_seq ?_
              refine v_region ?_
              refine l_val rfl (o_move rfl) ?_
              refine l_split rfl (o_lss rfl rfl) (fun q3 => ?_) (fun q3 => ?_)
              · first
                | (exfalso; omega; done)
                | (
                    refine l_val rfl (o_move rfl) ?_
                    refine l_split rfl (o_lss rfl rfl) (fun q4 => ?_) (fun q4 => ?_)
                    · first
                      | (exfalso; omega; done)
                      | (
                          refine l_val rfl (o_neqb rfl rfl rfl) ?_
                          refine l_nil ?_
                          refine kt_norm ?_
                          refine v_sel [4, 11, 57] [4, 11] rfl rfl ?_
                          refine v_condF rfl ?_
                          refine v_skip ?_
                          refine kt_norm ?_
                          refine v_seq ?_
                          refine v_region ?_
                          refine l_val rfl (o_loadW (key := 11) rfl rfl rfl) ?_
                          refine l_store rfl (o_storeW (key := 4) (xs := [_, _]) rfl rfl rfl rfl rfl rfl rfl) ?_
                          refine l_nil ?_
                          refine kt_norm ?_
                          refine v_ret ?_
                          refine ⟨[_], .cons (.cellW (key := 4) rfl rfl rfl) (ResAll.nil), ?_⟩
                          exact congrArg wideV (by omega))
                    · first
                      | (exfalso; omega; done)
                      | (
                          refine l_val rfl (o_neqb rfl rfl rfl) ?_
                          refine l_nil ?_
                          refine kt_norm ?_
                          refine v_sel [4, 11, 57] [4, 11] rfl rfl ?_
                          refine v_condT rfl ?_
                          refine v_seq ?_
                          refine v_region ?_
                          refine l_val rfl (o_loadW (key := 11) rfl rfl rfl) ?_
                          refine l_ans (vs := [_]) rfl rfl (r_neg _ ?_) ?_
                          · omega
                          refine l_store rfl (o_storeW (key := 4) (xs := [_, _]) rfl rfl rfl rfl rfl rfl rfl) ?_
                          refine l_nil ?_
                          refine kt_norm ?_
                          refine v_ret ?_
                          refine kt_ret ?_
                          refine ⟨[_], .cons (.cellW (key := 4) rfl rfl rfl) (ResAll.nil), ?_⟩
                          exact congrArg wideV (by omega)))
              · first
                | (exfalso; omega; done)
                | (
                    refine l_val rfl (o_move rfl) ?_
                    refine l_split rfl (o_lss rfl rfl) (fun q5 => ?_) (fun q5 => ?_)
                    · first
                      | (exfalso; omega; done)
                      | (
                          refine l_val rfl (o_neqb rfl rfl rfl) ?_
                          refine l_nil ?_
                          refine kt_norm ?_
                          refine v_sel [4, 11, 57] [4, 11] rfl rfl ?_
                          refine v_condT rfl ?_
                          refine v_seq ?_
                          refine v_region ?_
                          refine l_val rfl (o_loadW (key := 11) rfl rfl rfl) ?_
                          refine l_ans (vs := [_]) rfl rfl (r_neg _ ?_) ?_
                          · omega
                          refine l_store rfl (o_storeW (key := 4) (xs := [_, _]) rfl rfl rfl rfl rfl rfl rfl) ?_
                          refine l_nil ?_
                          refine kt_norm ?_
                          refine v_ret ?_
                          refine kt_ret ?_
                          refine ⟨[_], .cons (.cellW (key := 4) rfl rfl rfl) (ResAll.nil), ?_⟩
                          exact congrArg wideV (by omega))
                    · first
                      | (exfalso; omega; done)
                      | (
                          refine l_val rfl (o_neqb rfl rfl rfl) ?_
                          refine l_nil ?_
                          refine kt_norm ?_
                          refine v_sel [4, 11, 57] [4, 11] rfl rfl ?_
                          refine v_condF rfl ?_
                          refine v_skip ?_
                          refine kt_norm ?_
                          refine v_seq ?_
                          refine v_region ?_
                          refine l_val rfl (o_loadW (key := 11) rfl rfl rfl) ?_
                          refine l_store rfl (o_storeW (key := 4) (xs := [_, _]) rfl rfl rfl rfl rfl rfl rfl) ?_
                          refine l_nil ?_
                          refine kt_norm ?_
                          refine v_ret ?_
                          refine ⟨[_], .cons (.cellW (key := 4) rfl rfl rfl) (ResAll.nil), ?_⟩
                          exact congrArg wideV (by omega))))
        · first
          | (exfalso; omega; done)
          | (
              refine l_nil ?_
              refine kt_norm ?_
              refine v_condF rfl ?_
              refine v_skip ?_
              refine kt_norm ?_
              refine v_seq ?_
              refine v_region ?_
              refine l_val rfl (o_moveE (q' := u) rfl (by omega)) ?_
              refine l_val rfl (o_quon rfl rfl ?_ ?_) ?_
              · omega
              · exact wrap_u64 (by omega)
              refine l_val rfl (o_assign rfl) ?_
              refine l_nil ?_
              refine kt_norm ?_
              refine v_seq ?_
              refine v_region ?_
              refine l_val rfl (o_moveE (q' := u) rfl (by omega)) ?_
              refine l_val rfl (o_remn rfl rfl ?_) ?_
              · omega
              refine l_val rfl (o_assign rfl) ?_
              refine l_nil ?_
              refine kt_norm ?_
              refine v_sel [0, 1, 4, 6, 7, 8] [4] rfl rfl ?_
              refine v_seq ?_
              refine v_region ?_
              refine l_val rfl (o_moveE (q' := v) rfl (by omega)) ?_
              refine l_val rfl (o_quon rfl rfl ?_ ?_) ?_
              · omega
              · exact wrap_u64 (by omega)
              refine l_val rfl (o_assign rfl) ?_
              refine l_nil ?_
              refine kt_norm ?_
              refine v_seq ?_
              refine v_region ?_
              refine l_val rfl (o_moveE (q' := v) rfl (by omega)) ?_
              refine l_val rfl (o_remn rfl rfl ?_) ?_
              · omega
              refine l_val rfl (o_assign rfl) ?_
              refine l_nil ?_
              refine kt_norm ?_
              refine v_seq ?_
              refine v_region ?_
              refine l_val rfl (o_move rfl) ?_
              refine l_val rfl (o_move rfl) ?_
              refine l_val rfl (o_mulu rfl rfl) ?_
              refine l_val rfl (o_convi rfl ?_) ?_
              · omega
              refine l_val rfl (o_build (vs := [_, _]) (cs := [_, _]) rfl rfl) ?_
              refine l_val rfl (o_move rfl) ?_
              refine l_val rfl (o_move rfl) ?_
              refine l_val rfl (o_mulu rfl rfl) ?_
              refine l_val rfl (o_build (vs := [_, _]) (cs := [_, _]) rfl rfl) ?_
              refine l_ans (vs := [_, _]) rfl rfl (r_AddE _ _ _ _ (u / 4294967296 * (v / 4294967296) * 18446744073709551616 + u % 4294967296 * (v % 4294967296)) ?_ ?_ ?_ ?_ ?_ ?_) ?_
              · omega
              · omega
              · omega
              · omega
              · omega
              · omega
              refine l_new rfl o_alloc fun b11 => ?_
              refine l_store rfl (o_storeW (key := 11) (xs := [_, _]) rfl rfl rfl rfl rfl rfl rfl) ?_
              refine l_nil ?_
              refine kt_norm ?_
              refine v_sel [0, 1, 4, 7, 8, 9, 10, 11] [4, 11] rfl rfl ?_
              refine v_seq ?_
              refine v_drawZ [[11], [], [], [], [], [], [], [], [], [], [], [11]] mixed ?_ (by kernel_rfl) (by kernel_rfl)
              refine d_val (fun _ => rfl) rfl rfl (fun _ => o_loadW (key := 11) rfl rfl rfl) ?_
              refine d_val (fun _ => rfl) rfl rfl (fun _ => o_move rfl) ?_
              refine d_val (fun _ => rfl) rfl rfl (fun _ => o_move rfl) ?_
              refine d_val (fun _ => rfl) rfl rfl (fun _ => o_mulu rfl rfl) ?_
              refine d_ans (vs := [_]) (fun _ => rfl) (fun _ => rfl) (r_raised _ ?_) ?_
              · omega
              refine d_ans (vs := [_, _]) (fun _ => rfl) (fun _ => rfl) (r_Add _ _ ?_ ?_ ?_) ?_
              · omega
              · omega
              · omega
              refine d_val (fun _ => rfl) rfl rfl (fun _ => o_move rfl) ?_
              refine d_val (fun _ => rfl) rfl rfl (fun _ => o_move rfl) ?_
              refine d_val (fun _ => rfl) rfl rfl (fun _ => o_mulu rfl rfl) ?_
              refine d_ans (vs := [_]) (fun _ => rfl) (fun _ => rfl) (r_raised _ ?_) ?_
              · omega
              refine d_ans (vs := [_, _]) (fun _ => rfl) (fun _ => rfl) (r_Add _ _ ?_ ?_ ?_) ?_
              · omega
              · omega
              · omega
              refine d_store (fun _ => rfl) rfl rfl (fun _ => o_storeW (key := 11) (xs := [_, _]) rfl rfl rfl rfl rfl rfl rfl) ?_
              refine d_nil (fun σ => ?_)
              refine l_nil ?_
              refine kt_norm ?_
              refine v_sel [0, 1, 4, 11] [4, 11] rfl rfl ?_
              refine v_seq ?_
              refine v_seq ?_
              refine v_region ?_
              refine l_val rfl (o_move rfl) ?_
              refine l_split rfl (o_lss rfl rfl) (fun q6 => ?_) (fun q6 => ?_)
              · first
                | (exfalso; omega; done)
                | (
                    refine l_val rfl (o_move rfl) ?_
                    refine l_split rfl (o_lss rfl rfl) (fun q7 => ?_) (fun q7 => ?_)
                    · first
                      | (exfalso; omega; done)
                      | (
                          refine l_val rfl (o_neqb rfl rfl rfl) ?_
                          refine l_nil ?_
                          refine kt_norm ?_
                          refine v_sel [4, 11, 57] [4, 11] rfl rfl ?_
                          refine v_condF rfl ?_
                          refine v_skip ?_
                          refine kt_norm ?_
                          refine v_seq ?_
                          refine v_region ?_
                          refine l_val rfl (o_loadW (key := 11) rfl rfl rfl) ?_
                          refine l_store rfl (o_storeW (key := 4) (xs := [_, _]) rfl rfl rfl rfl rfl rfl rfl) ?_
                          refine l_nil ?_
                          refine kt_norm ?_
                          refine v_ret ?_
                          refine ⟨[_], .cons (.cellW (key := 4) rfl rfl rfl) (ResAll.nil), ?_⟩
                          exact congrArg wideV (by omega))
                    · first
                      | (exfalso; omega; done)
                      | (
                          refine l_val rfl (o_neqb rfl rfl rfl) ?_
                          refine l_nil ?_
                          refine kt_norm ?_
                          refine v_sel [4, 11, 57] [4, 11] rfl rfl ?_
                          refine v_condT rfl ?_
                          refine v_seq ?_
                          refine v_region ?_
                          refine l_val rfl (o_loadW (key := 11) rfl rfl rfl) ?_
                          refine l_ans (vs := [_]) rfl rfl (r_neg _ ?_) ?_
                          · omega
                          refine l_store rfl (o_storeW (key := 4) (xs := [_, _]) rfl rfl rfl rfl rfl rfl rfl) ?_
                          refine l_nil ?_
                          refine kt_norm ?_
                          refine v_ret ?_
                          refine kt_ret ?_
                          refine ⟨[_], .cons (.cellW (key := 4) rfl rfl rfl) (ResAll.nil), ?_⟩
                          exact congrArg wideV (by omega)))
              · first
                | (exfalso; omega; done)
                | (
                    refine l_val rfl (o_move rfl) ?_
                    refine l_split rfl (o_lss rfl rfl) (fun q8 => ?_) (fun q8 => ?_)
                    · first
                      | (exfalso; omega; done)
                      | (
                          refine l_val rfl (o_neqb rfl rfl rfl) ?_
                          refine l_nil ?_
                          refine kt_norm ?_
                          refine v_sel [4, 11, 57] [4, 11] rfl rfl ?_
                          refine v_condT rfl ?_
                          refine v_seq ?_
                          refine v_region ?_
                          refine l_val rfl (o_loadW (key := 11) rfl rfl rfl) ?_
                          refine l_ans (vs := [_]) rfl rfl (r_neg _ ?_) ?_
                          · omega
                          refine l_store rfl (o_storeW (key := 4) (xs := [_, _]) rfl rfl rfl rfl rfl rfl rfl) ?_
                          refine l_nil ?_
                          refine kt_norm ?_
                          refine v_ret ?_
                          refine kt_ret ?_
                          refine ⟨[_], .cons (.cellW (key := 4) rfl rfl rfl) (ResAll.nil), ?_⟩
                          exact congrArg wideV (by omega))
                    · first
                      | (exfalso; omega; done)
                      | (
                          refine l_val rfl (o_neqb rfl rfl rfl) ?_
                          refine l_nil ?_
                          refine kt_norm ?_
                          refine v_sel [4, 11, 57] [4, 11] rfl rfl ?_
                          refine v_condF rfl ?_
                          refine v_skip ?_
                          refine kt_norm ?_
                          refine v_seq ?_
                          refine v_region ?_
                          refine l_val rfl (o_loadW (key := 11) rfl rfl rfl) ?_
                          refine l_store rfl (o_storeW (key := 4) (xs := [_, _]) rfl rfl rfl rfl rfl rfl rfl) ?_
                          refine l_nil ?_
                          refine kt_norm ?_
                          refine v_ret ?_
                          refine ⟨[_], .cons (.cellW (key := 4) rfl rfl rfl) (ResAll.nil), ?_⟩
                          exact congrArg wideV (by omega)))))
  · first
    | (exfalso; omega; done)
    | (
        refine l_nil ?_
        refine kt_norm ?_
        refine v_condF rfl ?_
        refine v_skip ?_
        refine kt_norm ?_
        refine v_sel [0, 1, 4, 5, 6] [4] rfl rfl ?_
        refine v_seq ?_
        refine v_seq ?_
        refine v_region ?_
        refine l_val rfl (o_move rfl) ?_
        refine l_split rfl (o_lss rfl rfl) (fun q9 => ?_) (fun q9 => ?_)
        · first
          | (exfalso; omega; done)
          | (
              refine l_nil ?_
              refine kt_norm ?_
              refine v_condT rfl ?_
              refine v_region ?_
              refine l_val rfl (o_move rfl) ?_
              refine l_val rfl (o_negu rfl) ?_
              refine l_val rfl (o_assign rfl) ?_
              refine l_nil ?_
              refine kt_norm ?_
              refine v_seq ?_
              refine v_region ?_
              refine l_val rfl (o_moveE (q' := u) rfl (by omega)) ?_
              refine l_val rfl (o_quon rfl rfl ?_ ?_) ?_
              · omega
              · exact wrap_u64 (by omega)
              refine l_val rfl (o_assign rfl) ?_
              refine l_nil ?_
              refine kt_norm ?_
              refine v_sel [0, 1, 4, 5, 6, 7] [4] rfl rfl ?_
              refine v_seq ?_
              refine v_region ?_
              refine l_val rfl (o_moveE (q' := u) rfl (by omega)) ?_
              refine l_val rfl (o_remn rfl rfl ?_) ?_
              · omega
              refine l_val rfl (o_assign rfl) ?_
              refine l_nil ?_
              refine kt_norm ?_
              refine v_seq ?_
              refine v_region ?_
              refine l_val rfl (o_moveE (q' := v) rfl (by omega)) ?_
              refine l_val rfl (o_quon rfl rfl ?_ ?_) ?_
              · omega
              · exact wrap_u64 (by omega)
              refine l_val rfl (o_assign rfl) ?_
              refine l_nil ?_
              refine kt_norm ?_
              refine v_seq ?_
              refine v_region ?_
              refine l_val rfl (o_moveE (q' := v) rfl (by omega)) ?_
              refine l_val rfl (o_remn rfl rfl ?_) ?_
              · omega
              refine l_val rfl (o_assign rfl) ?_
              refine l_nil ?_
              refine kt_norm ?_
              refine v_sel [0, 1, 4, 7, 8, 9, 10] [4] rfl rfl ?_
              refine v_seq ?_
              refine v_region ?_
              refine l_val rfl (o_move rfl) ?_
              refine l_val rfl (o_move rfl) ?_
              refine l_val rfl (o_mulu rfl rfl) ?_
              refine l_val rfl (o_convi rfl ?_) ?_
              · omega
              refine l_val rfl (o_build (vs := [_, _]) (cs := [_, _]) rfl rfl) ?_
              refine l_val rfl (o_move rfl) ?_
              refine l_val rfl (o_move rfl) ?_
              refine l_val rfl (o_mulu rfl rfl) ?_
              refine l_val rfl (o_build (vs := [_, _]) (cs := [_, _]) rfl rfl) ?_
              refine l_ans (vs := [_, _]) rfl rfl (r_AddE _ _ _ _ (u / 4294967296 * (v / 4294967296) * 18446744073709551616 + u % 4294967296 * (v % 4294967296)) ?_ ?_ ?_ ?_ ?_ ?_) ?_
              · omega
              · omega
              · omega
              · omega
              · omega
              · omega
              refine l_new rfl o_alloc fun b11 => ?_
              refine l_store rfl (o_storeW (key := 11) (xs := [_, _]) rfl rfl rfl rfl rfl rfl rfl) ?_
              refine l_nil ?_
              refine kt_norm ?_
              refine v_sel [0, 1, 4, 7, 8, 9, 10, 11] [4, 11] rfl rfl ?_
              refine v_seq ?_
              refine v_drawZ [[11], [], [], [], [], [], [], [], [], [], [], [11]] mixed ?_ (by kernel_rfl) (by kernel_rfl)
              refine d_val (fun _ => rfl) rfl rfl (fun _ => o_loadW (key := 11) rfl rfl rfl) ?_
              refine d_val (fun _ => rfl) rfl rfl (fun _ => o_move rfl) ?_
              refine d_val (fun _ => rfl) rfl rfl (fun _ => o_move rfl) ?_
              refine d_val (fun _ => rfl) rfl rfl (fun _ => o_mulu rfl rfl) ?_
              refine d_ans (vs := [_]) (fun _ => rfl) (fun _ => rfl) (r_raised _ ?_) ?_
              · omega
              refine d_ans (vs := [_, _]) (fun _ => rfl) (fun _ => rfl) (r_Add _ _ ?_ ?_ ?_) ?_
              · omega
              · omega
              · omega
              refine d_val (fun _ => rfl) rfl rfl (fun _ => o_move rfl) ?_
              refine d_val (fun _ => rfl) rfl rfl (fun _ => o_move rfl) ?_
              refine d_val (fun _ => rfl) rfl rfl (fun _ => o_mulu rfl rfl) ?_
              refine d_ans (vs := [_]) (fun _ => rfl) (fun _ => rfl) (r_raised _ ?_) ?_
              · omega
              refine d_ans (vs := [_, _]) (fun _ => rfl) (fun _ => rfl) (r_Add _ _ ?_ ?_ ?_) ?_
              · omega
              · omega
              · omega
              refine d_store (fun _ => rfl) rfl rfl (fun _ => o_storeW (key := 11) (xs := [_, _]) rfl rfl rfl rfl rfl rfl rfl) ?_
              refine d_nil (fun σ => ?_)
              refine l_nil ?_
              refine kt_norm ?_
              refine v_sel [0, 1, 4, 11] [4, 11] rfl rfl ?_
              refine v_seq ?_
              refine v_seq ?_
              refine v_region ?_
              refine l_val rfl (o_move rfl) ?_
              refine l_split rfl (o_lss rfl rfl) (fun q10 => ?_) (fun q10 => ?_)
              · first
                | (exfalso; omega; done)
                | (
                    refine l_val rfl (o_move rfl) ?_
                    refine l_split rfl (o_lss rfl rfl) (fun q11 => ?_) (fun q11 => ?_)
                    · first
                      | (exfalso; omega; done)
                      | (
                          refine l_val rfl (o_neqb rfl rfl rfl) ?_
                          refine l_nil ?_
                          refine kt_norm ?_
                          refine v_sel [4, 11, 57] [4, 11] rfl rfl ?_
                          refine v_condF rfl ?_
                          refine v_skip ?_
                          refine kt_norm ?_
                          refine v_seq ?_
                          refine v_region ?_
                          refine l_val rfl (o_loadW (key := 11) rfl rfl rfl) ?_
                          refine l_store rfl (o_storeW (key := 4) (xs := [_, _]) rfl rfl rfl rfl rfl rfl rfl) ?_
                          refine l_nil ?_
                          refine kt_norm ?_
                          refine v_ret ?_
                          refine ⟨[_], .cons (.cellW (key := 4) rfl rfl rfl) (ResAll.nil), ?_⟩
                          exact congrArg wideV (by omega))
                    · first
                      | (exfalso; omega; done)
                      | (
                          refine l_val rfl (o_neqb rfl rfl rfl) ?_
                          refine l_nil ?_
                          refine kt_norm ?_
                          refine v_sel [4, 11, 57] [4, 11] rfl rfl ?_
                          refine v_condT rfl ?_
                          refine v_seq ?_
                          refine v_region ?_
                          refine l_val rfl (o_loadW (key := 11) rfl rfl rfl) ?_
                          refine l_ans (vs := [_]) rfl rfl (r_neg _ ?_) ?_
                          · omega
                          refine l_store rfl (o_storeW (key := 4) (xs := [_, _]) rfl rfl rfl rfl rfl rfl rfl) ?_
                          refine l_nil ?_
                          refine kt_norm ?_
                          refine v_ret ?_
                          refine kt_ret ?_
                          refine ⟨[_], .cons (.cellW (key := 4) rfl rfl rfl) (ResAll.nil), ?_⟩
                          exact congrArg wideV (by omega)))
              · first
                | (exfalso; omega; done)
                | (
                    refine l_val rfl (o_move rfl) ?_
                    refine l_split rfl (o_lss rfl rfl) (fun q12 => ?_) (fun q12 => ?_)
                    · first
                      | (exfalso; omega; done)
                      | (
                          refine l_val rfl (o_neqb rfl rfl rfl) ?_
                          refine l_nil ?_
                          refine kt_norm ?_
                          refine v_sel [4, 11, 57] [4, 11] rfl rfl ?_
                          refine v_condT rfl ?_
                          refine v_seq ?_
                          refine v_region ?_
                          refine l_val rfl (o_loadW (key := 11) rfl rfl rfl) ?_
                          refine l_ans (vs := [_]) rfl rfl (r_neg _ ?_) ?_
                          · omega
                          refine l_store rfl (o_storeW (key := 4) (xs := [_, _]) rfl rfl rfl rfl rfl rfl rfl) ?_
                          refine l_nil ?_
                          refine kt_norm ?_
                          refine v_ret ?_
                          refine kt_ret ?_
                          refine ⟨[_], .cons (.cellW (key := 4) rfl rfl rfl) (ResAll.nil), ?_⟩
                          exact congrArg wideV (by omega))
                    · first
                      | (exfalso; omega; done)
                      | (
                          refine l_val rfl (o_neqb rfl rfl rfl) ?_
                          refine l_nil ?_
                          refine kt_norm ?_
                          refine v_sel [4, 11, 57] [4, 11] rfl rfl ?_
                          refine v_condF rfl ?_
                          refine v_skip ?_
                          refine kt_norm ?_
                          refine v_seq ?_
                          refine v_region ?_
                          refine l_val rfl (o_loadW (key := 11) rfl rfl rfl) ?_
                          refine l_store rfl (o_storeW (key := 4) (xs := [_, _]) rfl rfl rfl rfl rfl rfl rfl) ?_
                          refine l_nil ?_
                          refine kt_norm ?_
                          refine v_ret ?_
                          refine ⟨[_], .cons (.cellW (key := 4) rfl rfl rfl) (ResAll.nil), ?_⟩
                          exact congrArg wideV (by omega))))
        · first
          | (exfalso; omega; done)
          | (
              refine l_nil ?_
              refine kt_norm ?_
              refine v_condF rfl ?_
              refine v_skip ?_
              refine kt_norm ?_
              refine v_seq ?_
              refine v_region ?_
              refine l_val rfl (o_moveE (q' := u) rfl (by omega)) ?_
              refine l_val rfl (o_quon rfl rfl ?_ ?_) ?_
              · omega
              · exact wrap_u64 (by omega)
              refine l_val rfl (o_assign rfl) ?_
              refine l_nil ?_
              refine kt_norm ?_
              refine v_seq ?_
              refine v_region ?_
              refine l_val rfl (o_moveE (q' := u) rfl (by omega)) ?_
              refine l_val rfl (o_remn rfl rfl ?_) ?_
              · omega
              refine l_val rfl (o_assign rfl) ?_
              refine l_nil ?_
              refine kt_norm ?_
              refine v_sel [0, 1, 4, 6, 7, 8] [4] rfl rfl ?_
              refine v_seq ?_
              refine v_region ?_
              refine l_val rfl (o_moveE (q' := v) rfl (by omega)) ?_
              refine l_val rfl (o_quon rfl rfl ?_ ?_) ?_
              · omega
              · exact wrap_u64 (by omega)
              refine l_val rfl (o_assign rfl) ?_
              refine l_nil ?_
              refine kt_norm ?_
              refine v_seq ?_
              refine v_region ?_
              refine l_val rfl (o_moveE (q' := v) rfl (by omega)) ?_
              refine l_val rfl (o_remn rfl rfl ?_) ?_
              · omega
              refine l_val rfl (o_assign rfl) ?_
              refine l_nil ?_
              refine kt_norm ?_
              refine v_seq ?_
              refine v_region ?_
              refine l_val rfl (o_move rfl) ?_
              refine l_val rfl (o_move rfl) ?_
              refine l_val rfl (o_mulu rfl rfl) ?_
              refine l_val rfl (o_convi rfl ?_) ?_
              · omega
              refine l_val rfl (o_build (vs := [_, _]) (cs := [_, _]) rfl rfl) ?_
              refine l_val rfl (o_move rfl) ?_
              refine l_val rfl (o_move rfl) ?_
              refine l_val rfl (o_mulu rfl rfl) ?_
              refine l_val rfl (o_build (vs := [_, _]) (cs := [_, _]) rfl rfl) ?_
              refine l_ans (vs := [_, _]) rfl rfl (r_AddE _ _ _ _ (u / 4294967296 * (v / 4294967296) * 18446744073709551616 + u % 4294967296 * (v % 4294967296)) ?_ ?_ ?_ ?_ ?_ ?_) ?_
              · omega
              · omega
              · omega
              · omega
              · omega
              · omega
              refine l_new rfl o_alloc fun b11 => ?_
              refine l_store rfl (o_storeW (key := 11) (xs := [_, _]) rfl rfl rfl rfl rfl rfl rfl) ?_
              refine l_nil ?_
              refine kt_norm ?_
              refine v_sel [0, 1, 4, 7, 8, 9, 10, 11] [4, 11] rfl rfl ?_
              refine v_seq ?_
              refine v_drawZ [[11], [], [], [], [], [], [], [], [], [], [], [11]] mixed ?_ (by kernel_rfl) (by kernel_rfl)
              refine d_val (fun _ => rfl) rfl rfl (fun _ => o_loadW (key := 11) rfl rfl rfl) ?_
              refine d_val (fun _ => rfl) rfl rfl (fun _ => o_move rfl) ?_
              refine d_val (fun _ => rfl) rfl rfl (fun _ => o_move rfl) ?_
              refine d_val (fun _ => rfl) rfl rfl (fun _ => o_mulu rfl rfl) ?_
              refine d_ans (vs := [_]) (fun _ => rfl) (fun _ => rfl) (r_raised _ ?_) ?_
              · omega
              refine d_ans (vs := [_, _]) (fun _ => rfl) (fun _ => rfl) (r_Add _ _ ?_ ?_ ?_) ?_
              · omega
              · omega
              · omega
              refine d_val (fun _ => rfl) rfl rfl (fun _ => o_move rfl) ?_
              refine d_val (fun _ => rfl) rfl rfl (fun _ => o_move rfl) ?_
              refine d_val (fun _ => rfl) rfl rfl (fun _ => o_mulu rfl rfl) ?_
              refine d_ans (vs := [_]) (fun _ => rfl) (fun _ => rfl) (r_raised _ ?_) ?_
              · omega
              refine d_ans (vs := [_, _]) (fun _ => rfl) (fun _ => rfl) (r_Add _ _ ?_ ?_ ?_) ?_
              · omega
              · omega
              · omega
              refine d_store (fun _ => rfl) rfl rfl (fun _ => o_storeW (key := 11) (xs := [_, _]) rfl rfl rfl rfl rfl rfl rfl) ?_
              refine d_nil (fun σ => ?_)
              refine l_nil ?_
              refine kt_norm ?_
              refine v_sel [0, 1, 4, 11] [4, 11] rfl rfl ?_
              refine v_seq ?_
              refine v_seq ?_
              refine v_region ?_
              refine l_val rfl (o_move rfl) ?_
              refine l_split rfl (o_lss rfl rfl) (fun q13 => ?_) (fun q13 => ?_)
              · first
                | (exfalso; omega; done)
                | (
                    refine l_val rfl (o_move rfl) ?_
                    refine l_split rfl (o_lss rfl rfl) (fun q14 => ?_) (fun q14 => ?_)
                    · first
                      | (exfalso; omega; done)
                      | (
                          refine l_val rfl (o_neqb rfl rfl rfl) ?_
                          refine l_nil ?_
                          refine kt_norm ?_
                          refine v_sel [4, 11, 57] [4, 11] rfl rfl ?_
                          refine v_condF rfl ?_
                          refine v_skip ?_
                          refine kt_norm ?_
                          refine v_seq ?_
                          refine v_region ?_
                          refine l_val rfl (o_loadW (key := 11) rfl rfl rfl) ?_
                          refine l_store rfl (o_storeW (key := 4) (xs := [_, _]) rfl rfl rfl rfl rfl rfl rfl) ?_
                          refine l_nil ?_
                          refine kt_norm ?_
                          refine v_ret ?_
                          refine ⟨[_], .cons (.cellW (key := 4) rfl rfl rfl) (ResAll.nil), ?_⟩
                          exact congrArg wideV (by omega))
                    · first
                      | (exfalso; omega; done)
                      | (
                          refine l_val rfl (o_neqb rfl rfl rfl) ?_
                          refine l_nil ?_
                          refine kt_norm ?_
                          refine v_sel [4, 11, 57] [4, 11] rfl rfl ?_
                          refine v_condT rfl ?_
                          refine v_seq ?_
                          refine v_region ?_
                          refine l_val rfl (o_loadW (key := 11) rfl rfl rfl) ?_
                          refine l_ans (vs := [_]) rfl rfl (r_neg _ ?_) ?_
                          · omega
                          refine l_store rfl (o_storeW (key := 4) (xs := [_, _]) rfl rfl rfl rfl rfl rfl rfl) ?_
                          refine l_nil ?_
                          refine kt_norm ?_
                          refine v_ret ?_
                          refine kt_ret ?_
                          refine ⟨[_], .cons (.cellW (key := 4) rfl rfl rfl) (ResAll.nil), ?_⟩
                          exact congrArg wideV (by omega)))
              · first
                | (exfalso; omega; done)
                | (
                    refine l_val rfl (o_move rfl) ?_
                    refine l_split rfl (o_lss rfl rfl) (fun q15 => ?_) (fun q15 => ?_)
                    · first
                      | (exfalso; omega; done)
                      | (
                          refine l_val rfl (o_neqb rfl rfl rfl) ?_
                          refine l_nil ?_
                          refine kt_norm ?_
                          refine v_sel [4, 11, 57] [4, 11] rfl rfl ?_
                          refine v_condT rfl ?_
                          refine v_seq ?_
                          refine v_region ?_
                          refine l_val rfl (o_loadW (key := 11) rfl rfl rfl) ?_
                          refine l_ans (vs := [_]) rfl rfl (r_neg _ ?_) ?_
                          · omega
                          refine l_store rfl (o_storeW (key := 4) (xs := [_, _]) rfl rfl rfl rfl rfl rfl rfl) ?_
                          refine l_nil ?_
                          refine kt_norm ?_
                          refine v_ret ?_
                          refine kt_ret ?_
                          refine ⟨[_], .cons (.cellW (key := 4) rfl rfl rfl) (ResAll.nil), ?_⟩
                          exact congrArg wideV (by omega))
                    · first
                      | (exfalso; omega; done)
                      | (
                          refine l_val rfl (o_neqb rfl rfl rfl) ?_
                          refine l_nil ?_
                          refine kt_norm ?_
                          refine v_sel [4, 11, 57] [4, 11] rfl rfl ?_
                          refine v_condF rfl ?_
                          refine v_skip ?_
                          refine kt_norm ?_
                          refine v_seq ?_
                          refine v_region ?_
                          refine l_val rfl (o_loadW (key := 11) rfl rfl rfl) ?_
                          refine l_store rfl (o_storeW (key := 4) (xs := [_, _]) rfl rfl rfl rfl rfl rfl rfl) ?_
                          refine l_nil ?_
                          refine kt_norm ?_
                          refine v_ret ?_
                          refine ⟨[_], .cons (.cellW (key := 4) rfl rfl rfl) (ResAll.nil), ?_⟩
                          exact congrArg wideV (by omega)))))
theorem tup3w {z r z' r' : Int} (e1 : z = z') (e2 : r = r') : packV [wideV z, .int .i64 r, .int .i64 0] = .tuple #[wideV z', .int .i64 r', .int .i64 0] := by
  subst e1 e2; rfl
set_option maxHeartbeats 2000000 in
theorem r_Div (x b : Int) (hx : -4611686018427387904 ≤ x ∧ x ≤ 4611686018427387904) (hb : 0 < b ∧ b < 9223372036854775808) : Ans Tryz.prog 90 [wideV x, .int .i64 b] (.tuple #[wideV (x / b), .int .i64 (x % b), .int .i64 0]) := by
  obtain ⟨X, hX1, hX2⟩ : ∃ X : Int, (x < 0 → X = -x) ∧ (¬ x < 0 → X = x) := ⟨if x < 0 then -x else x, fun h => if_pos h, fun h => if_neg h⟩
  have hX : 0 ≤ X ∧ X ≤ 4611686018427387904 := by omega
  have h0 := DivQ.start hb hX
  refine ans_of Tryz.func90 rfl Tryz.ntmps90 Tryz.results90 rfl rfl fun w => ?_
  refine v_seq ?_
  refine v_region ?_
  refine l_new rfl (o_box (cs := [_, _]) rfl rfl) fun b2 => ?_
  refine l_new rfl o_alloc fun b4 => ?_
  refine l_val rfl (o_assign rfl) ?_
  refine l_val rfl (o_assign rfl) ?_
  refine l_nil ?_
  refine kt_norm ?_
  refine v_seq ?_
  refine v_seq ?_
  refine v_region ?_
  refine l_val rfl (o_move rfl) ?_
  refine l_split rfl (o_leq rfl rfl) (fun q1 => absurd q1 (by omega)) (fun q1 => ?_)
  refine l_nil ?_
  refine kt_norm ?_
  refine v_condF rfl ?_
  refine v_skip ?_
  refine kt_norm ?_
  refine v_seq ?_
  refine v_region ?_
  refine l_val rfl (o_fld rfl) ?_
  refine l_val rfl (o_load1 (key := 2) rfl rfl rfl) ?_
  refine l_split rfl (o_lss rfl rfl) (fun q2 => ?_) (fun q2 => ?_)
  · skip
    refine l_val rfl (o_assign rfl) ?_
    refine l_nil ?_
    refine kt_norm ?_
    refine v_sel [1, 2, 4, 7] [2, 4] rfl rfl ?_
    refine v_seq ?_
    refine v_seq ?_
    refine v_region ?_
    refine l_val rfl (o_move rfl) ?_
    refine l_nil ?_
    refine kt_norm ?_
    refine v_condT rfl ?_
    refine v_region ?_
    refine l_val rfl (o_loadW (key := 2) rfl rfl rfl) ?_
    refine l_ans (vs := [_]) rfl rfl (r_neg _ ?_) ?_
    · omega
    refine l_store rfl (o_storeW (key := 2) (xs := [_, _]) rfl rfl rfl rfl rfl rfl rfl) ?_
    refine l_nil ?_
    refine kt_norm ?_
    refine v_seq ?_
    refine v_region ?_
    refine l_val rfl (o_fld rfl) ?_
    refine l_val rfl (o_load1 (key := 2) rfl rfl rfl) ?_
    refine l_val rfl (o_convu rfl) ?_
    refine l_val rfl (o_assign rfl) ?_
    refine l_nil ?_
    refine kt_norm ?_
    refine v_sel [1, 2, 4, 7, 8] [2, 4] rfl rfl ?_
    refine v_seq ?_
    refine v_region ?_
    refine l_val rfl (o_fld rfl) ?_
    refine l_val rfl (o_load1 (key := 2) rfl rfl rfl) ?_
    refine l_val rfl (o_assign rfl) ?_
    refine l_nil ?_
    refine kt_norm ?_
    refine v_seq ?_
    refine v_region ?_
    refine l_val rfl (o_build (vs := []) (cs := [_, _]) rfl rfl) ?_
    refine l_new rfl o_alloc fun b10 => ?_
    refine l_store rfl (o_storeW (key := 10) (xs := [_, _]) rfl rfl rfl rfl rfl rfl rfl) ?_
    refine l_nil ?_
    refine kt_norm ?_
    refine v_seq ?_
    refine v_region ?_
    refine l_val rfl (o_assign rfl) ?_
    refine l_nil ?_
    refine kt_norm ?_
    refine v_seq ?_
    refine v_seq ?_
    refine v_region ?_
    refine l_val rfl (o_assign rfl) ?_
    refine l_nil ?_
    refine kt_norm ?_
    refine v_block ?_
    refine v_loopS (α := Nat × Int × Int × Int × Int) (fun ⟨i, left, hi, lo, q⟩ => [(12, .int .i64 (i : Int)), (11, .int .u64 left), (8, .int .u64 hi), (9, .int .u64 lo)]) (fun ⟨i, left, hi, lo, q⟩ => [(10, Hp.box b10 147 [.int .i64 (q / 18446744073709551616), .int .u64 (q % 18446744073709551616)])])  (fun ⟨i, left, hi, lo, q⟩ => DivQ X b i left hi lo q) (fun ⟨i, left, hi, lo, q⟩ => 128 - i) (0, 0, X / 18446744073709551616, X % 18446744073709551616, 0) [1, 4, 7, 10] [4] h0  (And.intro rfl (And.intro rfl (And.intro (congrArg (fun q => some (Value.int .u64 q)) (by omega)) (And.intro (congrArg (fun q => some (Value.int .u64 q)) (by omega)) (True.intro))))) rfl (And.intro rfl (True.intro)) rfl ?_
    rintro ⟨i, left, hi, lo, q⟩ hQ
    refine v_seq ?_
    refine v_seq ?_
    refine v_region ?_
    have hl1 := hQ.hl; have hh1 := hQ.hh; have ho1 := hQ.hlo; have hq1 := hQ.hq; have hqx := hQ.qX; have hle := hQ.le
    refine l_val rfl (o_move rfl) ?_
    refine l_split rfl (o_lss rfl rfl) (fun q3 => ?_) (fun q3 => ?_)
    · skip
      refine l_nil ?_
      refine kt_norm ?_
      refine v_condT rfl ?_
      refine v_skip ?_
      refine kt_norm ?_
      refine v_seq ?_
      refine v_block ?_
      refine v_seq ?_
      refine v_region ?_
      refine l_val rfl (o_move rfl) ?_
      refine l_val rfl (o_mulu rfl rfl) ?_
      refine l_val rfl (o_move rfl) ?_
      refine l_val rfl (o_quon rfl rfl ?_ ?_) ?_
      · omega
      · exact wrap_u64 (by omega)
      refine l_val rfl (o_addu rfl rfl) ?_
      refine l_val rfl (o_assign rfl) ?_
      refine l_nil ?_
      refine kt_norm ?_
      refine v_sel [12, 11, 8, 9, 1, 4, 7, 10] [4, 10] rfl rfl ?_
      refine v_seq ?_
      refine v_region ?_
      refine l_val rfl (o_move rfl) ?_
      refine l_val rfl (o_mulu rfl rfl) ?_
      refine l_val rfl (o_move rfl) ?_
      refine l_val rfl (o_quon rfl rfl ?_ ?_) ?_
      · omega
      · exact wrap_u64 (by omega)
      refine l_val rfl (o_addu rfl rfl) ?_
      refine l_val rfl (o_assign rfl) ?_
      refine l_nil ?_
      refine kt_norm ?_
      refine v_seq ?_
      refine v_region ?_
      refine l_val rfl (o_move rfl) ?_
      refine l_val rfl (o_mulu rfl rfl) ?_
      refine l_val rfl (o_assign rfl) ?_
      refine l_nil ?_
      refine kt_norm ?_
      refine v_sel [12, 11, 8, 9, 1, 4, 7, 10] [4, 10] rfl rfl ?_
      refine v_seq ?_
      refine v_region ?_
      refine l_val rfl (o_loadW (key := 10) rfl rfl rfl) ?_
      refine l_val rfl (o_loadW (key := 10) rfl rfl rfl) ?_
      refine l_ans (vs := [_, _]) rfl rfl (r_Add _ _ ?_ ?_ ?_) ?_
      · omega
      · omega
      · omega
      refine l_store rfl (o_storeW (key := 10) (xs := [_, _]) rfl rfl rfl rfl rfl rfl rfl) ?_
      refine l_nil ?_
      refine kt_norm ?_
      refine v_seq ?_
      refine v_region ?_
      refine l_val rfl (o_move rfl) ?_
      refine l_val rfl (o_move rfl) ?_
      refine l_val rfl (o_convu rfl) ?_
      refine l_split rfl (o_geq rfl rfl) (fun q4 => ?_) (fun q4 => ?_)
      · skip
        refine l_nil ?_
        refine kt_norm ?_
        refine v_sel [12, 11, 8, 9, 1, 4, 7, 10, 50] [4, 10] rfl rfl ?_
        refine v_condT rfl ?_
        refine v_seq ?_
        refine v_region ?_
        refine l_val rfl (o_move rfl) ?_
        refine l_val rfl (o_move rfl) ?_
        refine l_val rfl (o_convu rfl) ?_
        refine l_val rfl (o_subu rfl rfl) ?_
        refine l_val rfl (o_assign rfl) ?_
        refine l_nil ?_
        refine kt_norm ?_
        refine v_drawZ [[10], [], [], [10]] mixed ?_ (by kernel_rfl) (by kernel_rfl)
        refine d_val (fun _ => rfl) rfl rfl (fun _ => o_loadW (key := 10) rfl rfl rfl) ?_
        refine d_ans (vs := [_]) (fun _ => rfl) (fun _ => rfl) (r_Of _ ?_) ?_
        · omega
        refine d_ans (vs := [_, _]) (fun _ => rfl) (fun _ => rfl) (r_Add _ _ ?_ ?_ ?_) ?_
        · omega
        · omega
        · omega
        refine d_store (fun _ => rfl) rfl rfl (fun _ => o_storeW (key := 10) (xs := [_, _]) rfl rfl rfl rfl rfl rfl rfl) ?_
        refine d_nil (fun σ => ?_)
        refine l_nil ?_
        refine kb_norm ?_
        refine kt_norm ?_
        refine v_sel [12, 11, 8, 9, 1, 4, 7, 10] [4, 10] rfl rfl ?_
        refine v_region ?_
        refine l_val rfl (o_move rfl) ?_
        refine l_val rfl (o_addi rfl rfl ?_) ?_
        · omega
        refine l_val rfl (o_assign rfl) ?_
        refine l_nil ?_
        refine kt_norm ?_
        refine ⟨(i + 1, left * 2 + hi / 9223372036854775808 - b, hi * 2 % 18446744073709551616 + lo / 9223372036854775808, lo * 2 % 18446744073709551616, q + q + 1), hQ.big (by omega) (by omega), (by show 128 - (i + 1) < 128 - i; omega), le_app (And.intro rfl (And.intro (congrArg (fun q => some (Value.int .u64 q)) (by omega)) (And.intro (congrArg (fun q => some (Value.int .u64 q)) (by omega)) (And.intro rfl (True.intro))))) [1, 4, 7, 10] rfl (And.intro rfl (True.intro)) [4] rfl⟩
      · skip
        refine l_nil ?_
        refine kt_norm ?_
        refine v_sel [12, 11, 8, 9, 1, 4, 7, 10, 50] [4, 10] rfl rfl ?_
        refine v_condF rfl ?_
        refine v_skip ?_
        refine kb_norm ?_
        refine kt_norm ?_
        refine v_region ?_
        refine l_val rfl (o_move rfl) ?_
        refine l_val rfl (o_addi rfl rfl ?_) ?_
        · omega
        refine l_val rfl (o_assign rfl) ?_
        refine l_nil ?_
        refine kt_norm ?_
        refine ⟨(i + 1, left * 2 + hi / 9223372036854775808, hi * 2 % 18446744073709551616 + lo / 9223372036854775808, lo * 2 % 18446744073709551616, q + q), hQ.small (by omega) (by omega), (by show 128 - (i + 1) < 128 - i; omega), le_app (And.intro rfl (And.intro (congrArg (fun q => some (Value.int .u64 q)) (by omega)) (And.intro (congrArg (fun q => some (Value.int .u64 q)) (by omega)) (And.intro rfl (True.intro))))) [1, 4, 7, 10] rfl (And.intro rfl (True.intro)) [4] rfl⟩
    · skip
      refine l_nil ?_
      refine kt_norm ?_
      refine v_condF rfl ?_
      refine v_exit ?_
      refine kt_exit ?_
      refine kt_exit ?_
      refine kb_eq ?_
      refine kt_norm ?_
      refine v_seq ?_
      refine v_seq ?_
      refine v_region ?_
      have hd := hQ.done (by omega)
      refine l_val rfl (o_move rfl) ?_
      refine l_val rfl (o_move rfl) ?_
      refine l_val rfl (o_move rfl) ?_
      refine l_split rfl (o_gtr rfl rfl) (fun q5 => ?_) (fun q5 => ?_)
      · skip
        refine l_val rfl (o_pickT rfl rfl) ?_
        refine l_nil ?_
        refine kt_norm ?_
        refine v_sel [11, 1, 4, 7, 10, 62] [4, 10] rfl rfl ?_
        refine v_condT rfl ?_
        refine v_seq ?_
        refine v_region ?_
        refine l_val rfl (o_loadW (key := 10) rfl rfl rfl) ?_
        refine l_ans (vs := [_]) rfl rfl (r_neg _ ?_) ?_
        · omega
        refine l_ans (vs := [_]) rfl rfl (r_Of _ ?_) ?_
        · omega
        refine l_ans (vs := [_, _]) rfl rfl (r_Sub _ _ ?_ ?_) ?_
        · omega
        · omega
        refine l_val rfl (o_move rfl) ?_
        refine l_val rfl (o_move rfl) ?_
        refine l_val rfl (o_convi rfl ?_) ?_
        · omega
        refine l_val rfl (o_subi rfl rfl ?_) ?_
        · omega
        refine l_store rfl (o_storeW (key := 4) (xs := [_, _]) rfl rfl rfl rfl rfl rfl rfl) ?_
        refine l_val rfl (o_assign rfl) ?_
        refine l_val rfl (o_assign rfl) ?_
        refine l_nil ?_
        refine kt_norm ?_
        refine v_sel [4, 5, 6] [4] rfl rfl ?_
        refine v_ret ?_
        refine kt_ret ?_
        refine ⟨[_, _, _], .cons (.cellW (key := 4) rfl rfl rfl) (.cons (.tmp rfl) (.cons (.tmp rfl) (ResAll.nil))), ?_⟩
        first
          | (obtain ⟨n1, n2⟩ := div_neg1 (x := x) hb.1 (q := q) (left := left) (by omega) (by omega); refine tup3w (by omega) ?_ <;> omega)
          | (obtain ⟨n1, n2⟩ := div_neg0 (x := x) hb.1 (q := q) (left := left) (by omega) (by omega); refine tup3w (by omega) ?_ <;> omega)
          | (obtain ⟨n1, n2⟩ := div_pos (x := x) hb.1 (q := q) (left := left) (by omega) (by omega); refine tup3w (by omega) ?_ <;> omega)
      · skip
        refine l_val rfl (o_pickT rfl rfl) ?_
        refine l_nil ?_
        refine kt_norm ?_
        refine v_sel [11, 1, 4, 7, 10, 62] [4, 10] rfl rfl ?_
        refine v_condF rfl ?_
        refine v_skip ?_
        refine kt_norm ?_
        refine v_seq ?_
        refine v_seq ?_
        refine v_region ?_
        refine l_val rfl (o_move rfl) ?_
        refine l_nil ?_
        refine kt_norm ?_
        refine v_condT rfl ?_
        refine v_seq ?_
        refine v_region ?_
        refine l_val rfl (o_loadW (key := 10) rfl rfl rfl) ?_
        refine l_ans (vs := [_]) rfl rfl (r_neg _ ?_) ?_
        · omega
        refine l_store rfl (o_storeW (key := 4) (xs := [_, _]) rfl rfl rfl rfl rfl rfl rfl) ?_
        refine l_val rfl (o_assign rfl) ?_
        refine l_val rfl (o_assign rfl) ?_
        refine l_nil ?_
        refine kt_norm ?_
        refine v_sel [4, 5, 6] [4] rfl rfl ?_
        refine v_ret ?_
        refine kt_ret ?_
        refine ⟨[_, _, _], .cons (.cellW (key := 4) rfl rfl rfl) (.cons (.tmp rfl) (.cons (.tmp rfl) (ResAll.nil))), ?_⟩
        first
          | (obtain ⟨n1, n2⟩ := div_neg1 (x := x) hb.1 (q := q) (left := left) (by omega) (by omega); refine tup3w (by omega) ?_ <;> omega)
          | (obtain ⟨n1, n2⟩ := div_neg0 (x := x) hb.1 (q := q) (left := left) (by omega) (by omega); refine tup3w (by omega) ?_ <;> omega)
          | (obtain ⟨n1, n2⟩ := div_pos (x := x) hb.1 (q := q) (left := left) (by omega) (by omega); refine tup3w (by omega) ?_ <;> omega)
  · skip
    refine l_val rfl (o_assign rfl) ?_
    refine l_nil ?_
    refine kt_norm ?_
    refine v_sel [1, 2, 4, 7] [2, 4] rfl rfl ?_
    refine v_seq ?_
    refine v_seq ?_
    refine v_region ?_
    refine l_val rfl (o_move rfl) ?_
    refine l_nil ?_
    refine kt_norm ?_
    refine v_condF rfl ?_
    refine v_skip ?_
    refine kt_norm ?_
    refine v_seq ?_
    refine v_region ?_
    refine l_val rfl (o_fld rfl) ?_
    refine l_val rfl (o_load1 (key := 2) rfl rfl rfl) ?_
    refine l_val rfl (o_convu rfl) ?_
    refine l_val rfl (o_assign rfl) ?_
    refine l_nil ?_
    refine kt_norm ?_
    refine v_seq ?_
    refine v_region ?_
    refine l_val rfl (o_fld rfl) ?_
    refine l_val rfl (o_load1 (key := 2) rfl rfl rfl) ?_
    refine l_val rfl (o_assign rfl) ?_
    refine l_nil ?_
    refine kt_norm ?_
    refine v_sel [1, 4, 7, 8, 9] [4] rfl rfl ?_
    refine v_seq ?_
    refine v_region ?_
    refine l_val rfl (o_build (vs := []) (cs := [_, _]) rfl rfl) ?_
    refine l_new rfl o_alloc fun b10 => ?_
    refine l_store rfl (o_storeW (key := 10) (xs := [_, _]) rfl rfl rfl rfl rfl rfl rfl) ?_
    refine l_nil ?_
    refine kt_norm ?_
    refine v_seq ?_
    refine v_region ?_
    refine l_val rfl (o_assign rfl) ?_
    refine l_nil ?_
    refine kt_norm ?_
    refine v_seq ?_
    refine v_seq ?_
    refine v_region ?_
    refine l_val rfl (o_assign rfl) ?_
    refine l_nil ?_
    refine kt_norm ?_
    refine v_block ?_
    refine v_loopS (α := Nat × Int × Int × Int × Int) (fun ⟨i, left, hi, lo, q⟩ => [(12, .int .i64 (i : Int)), (11, .int .u64 left), (8, .int .u64 hi), (9, .int .u64 lo)]) (fun ⟨i, left, hi, lo, q⟩ => [(10, Hp.box b10 147 [.int .i64 (q / 18446744073709551616), .int .u64 (q % 18446744073709551616)])])  (fun ⟨i, left, hi, lo, q⟩ => DivQ X b i left hi lo q) (fun ⟨i, left, hi, lo, q⟩ => 128 - i) (0, 0, X / 18446744073709551616, X % 18446744073709551616, 0) [1, 4, 7, 10] [4] h0  (And.intro rfl (And.intro rfl (And.intro (congrArg (fun q => some (Value.int .u64 q)) (by omega)) (And.intro (congrArg (fun q => some (Value.int .u64 q)) (by omega)) (True.intro))))) rfl (And.intro rfl (True.intro)) rfl ?_
    rintro ⟨i, left, hi, lo, q⟩ hQ
    refine v_seq ?_
    refine v_seq ?_
    refine v_region ?_
    have hl1 := hQ.hl; have hh1 := hQ.hh; have ho1 := hQ.hlo; have hq1 := hQ.hq; have hqx := hQ.qX; have hle := hQ.le
    refine l_val rfl (o_move rfl) ?_
    refine l_split rfl (o_lss rfl rfl) (fun q6 => ?_) (fun q6 => ?_)
    · skip
      refine l_nil ?_
      refine kt_norm ?_
      refine v_condT rfl ?_
      refine v_skip ?_
      refine kt_norm ?_
      refine v_seq ?_
      refine v_block ?_
      refine v_seq ?_
      refine v_region ?_
      refine l_val rfl (o_move rfl) ?_
      refine l_val rfl (o_mulu rfl rfl) ?_
      refine l_val rfl (o_move rfl) ?_
      refine l_val rfl (o_quon rfl rfl ?_ ?_) ?_
      · omega
      · exact wrap_u64 (by omega)
      refine l_val rfl (o_addu rfl rfl) ?_
      refine l_val rfl (o_assign rfl) ?_
      refine l_nil ?_
      refine kt_norm ?_
      refine v_sel [12, 11, 8, 9, 1, 4, 7, 10] [4, 10] rfl rfl ?_
      refine v_seq ?_
      refine v_region ?_
      refine l_val rfl (o_move rfl) ?_
      refine l_val rfl (o_mulu rfl rfl) ?_
      refine l_val rfl (o_move rfl) ?_
      refine l_val rfl (o_quon rfl rfl ?_ ?_) ?_
      · omega
      · exact wrap_u64 (by omega)
      refine l_val rfl (o_addu rfl rfl) ?_
      refine l_val rfl (o_assign rfl) ?_
      refine l_nil ?_
      refine kt_norm ?_
      refine v_seq ?_
      refine v_region ?_
      refine l_val rfl (o_move rfl) ?_
      refine l_val rfl (o_mulu rfl rfl) ?_
      refine l_val rfl (o_assign rfl) ?_
      refine l_nil ?_
      refine kt_norm ?_
      refine v_sel [12, 11, 8, 9, 1, 4, 7, 10] [4, 10] rfl rfl ?_
      refine v_seq ?_
      refine v_region ?_
      refine l_val rfl (o_loadW (key := 10) rfl rfl rfl) ?_
      refine l_val rfl (o_loadW (key := 10) rfl rfl rfl) ?_
      refine l_ans (vs := [_, _]) rfl rfl (r_Add _ _ ?_ ?_ ?_) ?_
      · omega
      · omega
      · omega
      refine l_store rfl (o_storeW (key := 10) (xs := [_, _]) rfl rfl rfl rfl rfl rfl rfl) ?_
      refine l_nil ?_
      refine kt_norm ?_
      refine v_seq ?_
      refine v_region ?_
      refine l_val rfl (o_move rfl) ?_
      refine l_val rfl (o_move rfl) ?_
      refine l_val rfl (o_convu rfl) ?_
      refine l_split rfl (o_geq rfl rfl) (fun q7 => ?_) (fun q7 => ?_)
      · skip
        refine l_nil ?_
        refine kt_norm ?_
        refine v_sel [12, 11, 8, 9, 1, 4, 7, 10, 50] [4, 10] rfl rfl ?_
        refine v_condT rfl ?_
        refine v_seq ?_
        refine v_region ?_
        refine l_val rfl (o_move rfl) ?_
        refine l_val rfl (o_move rfl) ?_
        refine l_val rfl (o_convu rfl) ?_
        refine l_val rfl (o_subu rfl rfl) ?_
        refine l_val rfl (o_assign rfl) ?_
        refine l_nil ?_
        refine kt_norm ?_
        refine v_drawZ [[10], [], [], [10]] mixed ?_ (by kernel_rfl) (by kernel_rfl)
        refine d_val (fun _ => rfl) rfl rfl (fun _ => o_loadW (key := 10) rfl rfl rfl) ?_
        refine d_ans (vs := [_]) (fun _ => rfl) (fun _ => rfl) (r_Of _ ?_) ?_
        · omega
        refine d_ans (vs := [_, _]) (fun _ => rfl) (fun _ => rfl) (r_Add _ _ ?_ ?_ ?_) ?_
        · omega
        · omega
        · omega
        refine d_store (fun _ => rfl) rfl rfl (fun _ => o_storeW (key := 10) (xs := [_, _]) rfl rfl rfl rfl rfl rfl rfl) ?_
        refine d_nil (fun σ => ?_)
        refine l_nil ?_
        refine kb_norm ?_
        refine kt_norm ?_
        refine v_sel [12, 11, 8, 9, 1, 4, 7, 10] [4, 10] rfl rfl ?_
        refine v_region ?_
        refine l_val rfl (o_move rfl) ?_
        refine l_val rfl (o_addi rfl rfl ?_) ?_
        · omega
        refine l_val rfl (o_assign rfl) ?_
        refine l_nil ?_
        refine kt_norm ?_
        refine ⟨(i + 1, left * 2 + hi / 9223372036854775808 - b, hi * 2 % 18446744073709551616 + lo / 9223372036854775808, lo * 2 % 18446744073709551616, q + q + 1), hQ.big (by omega) (by omega), (by show 128 - (i + 1) < 128 - i; omega), le_app (And.intro rfl (And.intro (congrArg (fun q => some (Value.int .u64 q)) (by omega)) (And.intro (congrArg (fun q => some (Value.int .u64 q)) (by omega)) (And.intro rfl (True.intro))))) [1, 4, 7, 10] rfl (And.intro rfl (True.intro)) [4] rfl⟩
      · skip
        refine l_nil ?_
        refine kt_norm ?_
        refine v_sel [12, 11, 8, 9, 1, 4, 7, 10, 50] [4, 10] rfl rfl ?_
        refine v_condF rfl ?_
        refine v_skip ?_
        refine kb_norm ?_
        refine kt_norm ?_
        refine v_region ?_
        refine l_val rfl (o_move rfl) ?_
        refine l_val rfl (o_addi rfl rfl ?_) ?_
        · omega
        refine l_val rfl (o_assign rfl) ?_
        refine l_nil ?_
        refine kt_norm ?_
        refine ⟨(i + 1, left * 2 + hi / 9223372036854775808, hi * 2 % 18446744073709551616 + lo / 9223372036854775808, lo * 2 % 18446744073709551616, q + q), hQ.small (by omega) (by omega), (by show 128 - (i + 1) < 128 - i; omega), le_app (And.intro rfl (And.intro (congrArg (fun q => some (Value.int .u64 q)) (by omega)) (And.intro (congrArg (fun q => some (Value.int .u64 q)) (by omega)) (And.intro rfl (True.intro))))) [1, 4, 7, 10] rfl (And.intro rfl (True.intro)) [4] rfl⟩
    · skip
      refine l_nil ?_
      refine kt_norm ?_
      refine v_condF rfl ?_
      refine v_exit ?_
      refine kt_exit ?_
      refine kt_exit ?_
      refine kb_eq ?_
      refine kt_norm ?_
      refine v_seq ?_
      refine v_seq ?_
      refine v_region ?_
      have hd := hQ.done (by omega)
      refine l_val rfl (o_move rfl) ?_
      refine l_val rfl (o_move rfl) ?_
      refine l_no rfl ?_
      refine l_no rfl ?_
      refine l_val rfl (o_pickF rfl rfl) ?_
      refine l_nil ?_
      refine kt_norm ?_
      refine v_sel [11, 1, 4, 7, 10, 62] [4, 10] rfl rfl ?_
      refine v_condF rfl ?_
      refine v_skip ?_
      refine kt_norm ?_
      refine v_seq ?_
      refine v_seq ?_
      refine v_region ?_
      refine l_val rfl (o_move rfl) ?_
      refine l_nil ?_
      refine kt_norm ?_
      refine v_condF rfl ?_
      refine v_skip ?_
      refine kt_norm ?_
      refine v_seq ?_
      refine v_region ?_
      refine l_val rfl (o_loadW (key := 10) rfl rfl rfl) ?_
      refine l_val rfl (o_move rfl) ?_
      refine l_val rfl (o_convi rfl ?_) ?_
      · omega
      refine l_store rfl (o_storeW (key := 4) (xs := [_, _]) rfl rfl rfl rfl rfl rfl rfl) ?_
      refine l_val rfl (o_assign rfl) ?_
      refine l_val rfl (o_assign rfl) ?_
      refine l_nil ?_
      refine kt_norm ?_
      refine v_sel [4, 5, 6] [4] rfl rfl ?_
      refine v_ret ?_
      refine ⟨[_, _, _], .cons (.cellW (key := 4) rfl rfl rfl) (.cons (.tmp rfl) (.cons (.tmp rfl) (ResAll.nil))), ?_⟩
      first
        | (obtain ⟨n1, n2⟩ := div_neg1 (x := x) hb.1 (q := q) (left := left) (by omega) (by omega); refine tup3w (by omega) ?_ <;> omega)
        | (obtain ⟨n1, n2⟩ := div_neg0 (x := x) hb.1 (q := q) (left := left) (by omega) (by omega); refine tup3w (by omega) ?_ <;> omega)
        | (obtain ⟨n1, n2⟩ := div_pos (x := x) hb.1 (q := q) (left := left) (by omega) (by omega); refine tup3w (by omega) ?_ <;> omega)
theorem r_Narrow (x : Int) (hx : -9223372036854775808 ≤ x ∧ x < 9223372036854775808) : Ans Tryz.prog 107 [wideV x] (.tuple #[.int .i64 x, .bool true]) := by
  refine ans_of Tryz.func107 rfl Tryz.ntmps107 Tryz.results107 rfl rfl fun w => ?_
  refine v_seq ?_
  refine v_region ?_
  refine l_new rfl (o_box (cs := [_, _]) rfl rfl) fun b1 => ?_
  refine l_val rfl (o_assign rfl) ?_
  refine l_val rfl (o_assign rfl) ?_
  refine l_nil ?_
  refine kt_norm ?_
  refine v_seq ?_
  refine v_seq ?_
  refine v_drawZ [[1], [], [1], [], [], []] mixed ?_ (by kernel_rfl) (by kernel_rfl)
  refine d_val (fun _ => rfl) rfl rfl (fun _ => o_loadW (key := 1) rfl rfl rfl) ?_
  refine d_val (fun _ => rfl) rfl rfl (fun _ => o_fld rfl) ?_
  refine d_val (fun _ => rfl) rfl rfl (fun _ => o_load1 (key := 1) rfl rfl rfl) ?_
  refine d_val (fun _ => rfl) rfl rfl (fun _ => o_convm rfl) ?_
  refine d_ans (vs := [_]) (fun _ => rfl) (fun _ => rfl) (r_Of _ ?_) ?_
  · omega
  refine d_neqs (xl := [_, _]) (yl := [_, _]) (az := [_, _]) (bz := [_, _]) (fun _ => rfl) (fun _ => rfl) (fun _ => rfl) rfl rfl rfl rfl (fun q1 => ?_) (fun q1 => ?_)
  · simp only [List.map_cons, List.map_nil, List.cons.injEq, and_true, Decidable.not_not] at q1
    first
    | (exfalso; omega; done)
    | (
        refine d_nil (fun σ => ?_)
        refine l_nil ?_
        refine kt_norm ?_
        refine v_sel [1, 9] [1] rfl rfl ?_
        refine v_condT rfl ?_
        refine v_seq ?_
        refine v_region ?_
        refine l_val rfl (o_assign rfl) ?_
        refine l_val rfl (o_assign rfl) ?_
        refine l_nil ?_
        refine kt_norm ?_
        refine v_ret ?_
        refine kt_ret ?_
        refine ⟨[_, _], .cons (.tmp rfl) (.cons (.tmp rfl) (ResAll.nil)), ?_⟩
        show Value.tuple #[.int .i64 _, .bool true] = _
        rw [show (x % 18446744073709551616 + 9223372036854775808) % 18446744073709551616 - 9223372036854775808 = x by omega])
  · simp only [List.map_cons, List.map_nil, List.cons.injEq, and_true, Decidable.not_not] at q1
    first
    | (exfalso; omega; done)
    | (
        refine d_nil (fun σ => ?_)
        refine l_nil ?_
        refine kt_norm ?_
        refine v_sel [1, 9] [1] rfl rfl ?_
        refine v_condF rfl ?_
        refine v_skip ?_
        refine kt_norm ?_
        refine v_seq ?_
        refine v_region ?_
        refine l_val rfl (o_fld rfl) ?_
        refine l_val rfl (o_load1 (key := 1) rfl rfl rfl) ?_
        refine l_val rfl (o_convm rfl) ?_
        refine l_val rfl (o_assign rfl) ?_
        refine l_val rfl (o_assign rfl) ?_
        refine l_nil ?_
        refine kt_norm ?_
        refine v_ret ?_
        refine ⟨[_, _], .cons (.tmp rfl) (.cons (.tmp rfl) (ResAll.nil)), ?_⟩
        show Value.tuple #[.int .i64 _, .bool true] = _
        rw [show (x % 18446744073709551616 + 9223372036854775808) % 18446744073709551616 - 9223372036854775808 = x by omega])
theorem r_narrow (x : Int) (hx : -9223372036854775808 ≤ x ∧ x < 9223372036854775808) : Ans Tryz.prog 92 [wideV x] (.tuple #[.int .i64 x, .int .i64 0]) := by
  refine ans_of Tryz.func92 rfl Tryz.ntmps92 Tryz.results92 rfl rfl fun w => ?_
  refine v_seq ?_
  refine v_region ?_
  refine l_new rfl (o_box (cs := [_, _]) rfl rfl) fun b1 => ?_
  refine l_val rfl (o_assign rfl) ?_
  refine l_val rfl (o_assign rfl) ?_
  refine l_nil ?_
  refine kt_norm ?_
  refine v_seq ?_
  refine v_region ?_
  refine l_val rfl (o_loadW (key := 1) rfl rfl rfl) ?_
  refine l_ans (vs := [_]) rfl rfl (r_Narrow _ ?_) ?_
  · omega
  refine l_val rfl (o_move rfl) ?_
  refine l_val rfl (o_extract rfl rfl) ?_
  refine l_val rfl (o_extract rfl rfl) ?_
  refine l_val rfl (o_assign rfl) ?_
  refine l_val rfl (o_assign rfl) ?_
  refine l_nil ?_
  refine kt_norm ?_
  refine v_sel [4, 5] [] rfl rfl ?_
  refine v_seq ?_
  refine v_seq ?_
  refine v_region ?_
  refine l_val rfl (o_move rfl) ?_
  refine l_val rfl (o_not rfl rfl) ?_
  refine l_nil ?_
  refine kt_norm ?_
  refine v_condF rfl ?_
  refine v_skip ?_
  refine kt_norm ?_
  refine v_seq ?_
  refine v_region ?_
  refine l_val rfl (o_move rfl) ?_
  refine l_val rfl (o_assign rfl) ?_
  refine l_val rfl (o_assign rfl) ?_
  refine l_nil ?_
  refine kt_norm ?_
  refine v_ret ?_
  refine ⟨[_, _], .cons (.tmp rfl) (.cons (.tmp rfl) (ResAll.nil)), ?_⟩
  rfl
theorem r_Scale (a b c : Int) (ha : -9223372036854775808 ≤ a ∧ a < 9223372036854775808) (hb : -9223372036854775808 ≤ b ∧ b < 9223372036854775808) (hp : -4611686018427387904 ≤ a * b ∧ a * b ≤ 4611686018427387904) (hc : 0 < c ∧ c < 9223372036854775808) : Ans Tryz.prog 75 [.int .i64 a, .int .i64 b, .int .i64 c] (.tuple #[.int .i64 (a * b / c), .int .i64 0]) := by
  have d1 := ediv_bound (B := 4611686018427387904) (x := a * b) (c := c) (by omega) hp.1 hp.2 hc.1
  refine ans_of Tryz.func75 rfl Tryz.ntmps75 Tryz.results75 rfl rfl fun w => ?_
  refine v_seq ?_
  refine v_region ?_
  refine l_val rfl (o_assign rfl) ?_
  refine l_val rfl (o_assign rfl) ?_
  refine l_nil ?_
  refine kt_norm ?_
  refine v_seq ?_
  refine v_region ?_
  refine l_val rfl (o_move rfl) ?_
  refine l_val rfl (o_move rfl) ?_
  refine l_ans (vs := [_, _]) rfl rfl (r_Mul _ _ ?_ ?_) ?_
  · omega
  · omega
  refine l_val rfl (o_move rfl) ?_
  refine l_ans (vs := [_, _]) rfl rfl (r_Div _ _ ?_ ?_) ?_
  · omega
  · omega
  refine l_val rfl (o_move rfl) ?_
  refine l_val rfl (o_extract rfl rfl) ?_
  refine l_val rfl (o_extract rfl rfl) ?_
  refine l_val rfl (o_extract rfl rfl) ?_
  refine l_new rfl o_alloc fun b8 => ?_
  refine l_store rfl (o_storeW (key := 8) (xs := [_, _]) rfl rfl rfl rfl rfl rfl rfl) ?_
  refine l_val rfl (o_assign rfl) ?_
  refine l_val rfl (o_assign rfl) ?_
  refine l_nil ?_
  refine kt_norm ?_
  refine v_sel [8, 10] [8] rfl rfl ?_
  refine v_seq ?_
  refine v_seq ?_
  refine v_region ?_
  refine l_val rfl (o_move rfl) ?_
  refine l_split rfl (o_neq rfl rfl) (fun q1 => absurd q1 (by omega)) (fun q1 => ?_)
  refine l_nil ?_
  refine kt_norm ?_
  refine v_condF rfl ?_
  refine v_skip ?_
  refine kt_norm ?_
  refine v_seq ?_
  refine v_region ?_
  refine l_val rfl (o_loadW (key := 8) rfl rfl rfl) ?_
  refine l_ans (vs := [_]) rfl rfl (r_narrow _ ?_) ?_
  · omega
  refine l_val rfl (o_extract rfl rfl) ?_
  refine l_val rfl (o_extract rfl rfl) ?_
  refine l_val rfl (o_assign rfl) ?_
  refine l_val rfl (o_assign rfl) ?_
  refine l_nil ?_
  refine kt_norm ?_
  refine v_sel [6, 7] [] rfl rfl ?_
  refine v_ret ?_
  refine ⟨[_, _], .cons (.tmp rfl) (.cons (.tmp rfl) (ResAll.nil)), ?_⟩
  rfl
theorem r_At (e : EdgeT) (r : Int) (hr : -1073741824 ≤ r ∧ r ≤ 1073741824) (hx : -1099511627776 ≤ e.x ∧ e.x ≤ 1099511627776) (hy : -1099511627776 ≤ e.y ∧ e.y ≤ 1099511627776) (hd : -1099511627776 ≤ e.dx ∧ e.dx ≤ 1099511627776) (hdy : 0 < e.dy ∧ e.dy ≤ 1099511627776) (hp : -4611686018427387904 ≤ (16 * r + 8 - e.y) * e.dx ∧ (16 * r + 8 - e.y) * e.dx ≤ 4611686018427387904) : Ans Tryz.prog 54 [.agg #[.int .i64 e.x, .int .i64 e.y, .int .i64 e.dx, .int .i64 e.dy, .int .i64 e.wi, .int .i64 e.fr, .int .i64 e.to], .int .i64 r] (.int .i64 (atE e r)) := by
  have d1 := ediv_bound (B := 4611686018427387904) (x := (16 * r + 8 - e.y) * e.dx) (c := e.dy) (by omega) hp.1 hp.2 hdy.1
  refine ans_of Tryz.func54 rfl Tryz.ntmps54 Tryz.results54 rfl rfl fun w => ?_
  refine v_seq ?_
  refine v_region ?_
  refine l_new rfl (o_box (cs := [_, _, _, _, _, _, _]) rfl rfl) fun b2 => ?_
  refine l_val rfl (o_assign rfl) ?_
  refine l_nil ?_
  refine kt_norm ?_
  refine v_seq ?_
  refine v_region ?_
  refine l_val rfl (o_move rfl) ?_
  refine l_val rfl (o_muli rfl rfl ?_) ?_
  · omega
  refine l_val rfl (o_addi rfl rfl ?_) ?_
  · omega
  refine l_val rfl (o_fld rfl) ?_
  refine l_val rfl (o_load1 (key := 2) rfl rfl rfl) ?_
  refine l_val rfl (o_subi rfl rfl ?_) ?_
  · omega
  refine l_val rfl (o_fld rfl) ?_
  refine l_val rfl (o_load1 (key := 2) rfl rfl rfl) ?_
  refine l_val rfl (o_fld rfl) ?_
  refine l_val rfl (o_load1 (key := 2) rfl rfl rfl) ?_
  refine l_ans (vs := [_, _, _]) rfl rfl (r_Scale _ _ _ ?_ ?_ hp ?_) ?_
  · omega
  · omega
  · omega
  refine l_val rfl (o_move rfl) ?_
  refine l_val rfl (o_extract rfl rfl) ?_
  refine l_val rfl (o_extract rfl rfl) ?_
  refine l_val rfl (o_assign rfl) ?_
  refine l_val rfl (o_assign rfl) ?_
  refine l_nil ?_
  refine kt_norm ?_
  refine v_sel [2, 5] [2] rfl rfl ?_
  refine v_seq ?_
  refine v_region ?_
  refine l_val rfl (o_fld rfl) ?_
  refine l_val rfl (o_load1 (key := 2) rfl rfl rfl) ?_
  refine l_val rfl (o_move rfl) ?_
  refine l_val rfl (o_addi rfl rfl ?_) ?_
  · omega
  refine l_val rfl (o_assign rfl) ?_
  refine l_nil ?_
  refine kt_norm ?_
  refine v_sel [4] [] rfl rfl ?_
  refine v_ret ?_
  refine ⟨[_], .cons (.tmp rfl) (ResAll.nil), ?_⟩
  rfl
theorem r_AtOk {e : EdgeT} (h : EdgeOk e) {r : Int} (h1 : e.fr ≤ r) (h2 : r < e.to) : Ans Tryz.prog 54 [.agg #[.int .i64 e.x, .int .i64 e.y, .int .i64 e.dx, .int .i64 e.dy, .int .i64 e.wi, .int .i64 e.fr, .int .i64 e.to], .int .i64 r] (.int .i64 (atE e r)) := by
  have := h.x; have := h.x2; have := h.y; have := h.y2; have := h.rows; have := h.dy
  exact r_At e r (by omega) (by omega) (by omega) (by omega) (by omega) (h.prod h1 h2)
end Go.Proofs.YtllhohbenniaaaaGreat

/- Where an edge crosses any of its rows is as the document has it, and lies between its ends. Conditions: none. -/
namespace Go.Proofs.YtllhohbenniaaaaGreat
open Go.Proofs Go.RowKit Go.Shelf

theorem edgesOf3 (a b : PtT) : edgesOf [a, b, a] = onE a b ++ onE b a ++ onE a a := by
  simp [edgesOf, edgesTo, List.range_succ, edgesAt_on]
theorem onE_self (a : PtT) : onE a a = [] := by
  unfold onE
  rw [edgeOf_ge (show ¬ a.y < a.y by omega)]
  exact if_neg (by dsimp only; omega)
theorem at_len (a b : PtT) : (edgesOf [a, b, a]).length = 0 ∨ (edgesOf [a, b, a]).length = 2 := by
  have h := congrArg List.length (turned_edge a b)
  rw [List.length_map] at h
  rw [edgesOf3, onE_self, List.append_nil, List.length_append, h]
  unfold onE
  split
  · exact .inr rfl
  · exact .inl rfl
def EndsIn (a b : PtT) (e : EdgeT) : Prop := (e.x = a.x ∧ e.x + e.dx = b.x) ∨ (e.x = b.x ∧ e.x + e.dx = a.x)
theorem endsIn_edge (a b : PtT) : EndsIn a b (edgeOf a b) := by
  unfold EndsIn
  by_cases h : b.y < a.y
  · rw [edgeOf_lt h]; dsimp only; omega
  · rw [edgeOf_ge h]; dsimp only; omega
theorem ends_getD {a b : PtT} {i : Nat} (hi : i < (edgesOf [a, b, a]).length) : EndsIn a b ((edgesOf [a, b, a]).getD i dE) := by
  rw [List.getD_eq_getElem?_getD, List.getElem?_eq_getElem hi]
  have hm := List.getElem_mem hi
  generalize (edgesOf [a, b, a])[i] = e at hm
  rw [edgesOf3, onE_self, List.append_nil] at hm
  show EndsIn a b e
  unfold onE at hm
  rcases List.mem_append.1 hm with h | h
  · split at h
    · rw [List.mem_singleton.1 h]; exact endsIn_edge a b
    · cases h
  · split at h
    · rw [List.mem_singleton.1 h]
      have := endsIn_edge b a
      unfold EndsIn at this ⊢
      omega
    · cases h


end Go.Proofs.YtllhohbenniaaaaGreat

/- Edges, sorted by their first rows: neighbours that change places. Conditions: none. -/
namespace Go.Proofs.YtllhohbenniaaaaGreat
open Go.Proofs Go.RowKit Go.Shelf

/-! ### rows that are sorted by their first rows: plain law -/
def fk (k : Int) (l : List EdgeT) : List EdgeT := l.filter fun e => decide (e.fr = k)
/-- the same elements; those with the same key in the same order -/
structure StEq (l l' : List EdgeT) : Prop where
  len : l'.length = l.length
  keys : ∀ k, fk k l' = fk k l
theorem StEq.refl (l : List EdgeT) : StEq l l := ⟨rfl, fun _ => rfl⟩
theorem StEq.trans {a b c : List EdgeT} (h : StEq a b) (k : StEq b c) : StEq a c := ⟨k.len.trans h.len, fun q => (k.keys q).trans (h.keys q)⟩
theorem StEq.symm {a b : List EdgeT} (h : StEq a b) : StEq b a := ⟨h.len.symm, fun q => (h.keys q).symm⟩
theorem fk_append (k : Int) (a b : List EdgeT) : fk k (a ++ b) = fk k a ++ fk k b := List.filter_append ..
theorem StEq.mem {a b : List EdgeT} (h : StEq a b) {e : EdgeT} (he : e ∈ b) : e ∈ a := by
  have h1 : e ∈ fk e.fr b := List.mem_filter.2 ⟨he, by simp⟩
  rw [h.keys] at h1
  exact (List.mem_filter.1 h1).1
theorem fk_none {k : Int} {l : List EdgeT} (h : ∀ e ∈ l, e.fr ≠ k) : fk k l = [] := List.filter_eq_nil_iff.2 fun e he => by simpa using h e he
/-- two stretches change places whose keys differ -/
theorem StEq.rot {X Y : List EdgeT} (A B : List EdgeT) (h : ∀ x ∈ X, ∀ y ∈ Y, x.fr ≠ y.fr) : StEq (A ++ (X ++ Y) ++ B) (A ++ (Y ++ X) ++ B) := by
  refine ⟨by simp; omega, fun k => ?_⟩
  simp only [fk_append]
  by_cases hx : ∃ x ∈ X, x.fr = k
  · obtain ⟨x, hx, hk⟩ := hx
    rw [fk_none (l := Y) fun y hy e => h x hx y hy (hk.trans e.symm)]
    simp
  · rw [fk_none (l := X) fun x hx' e => hx ⟨x, hx', e⟩]
    simp
/-- a stretch is told by the whole and the rest -/
theorem StEq.seg {A S S' B : List EdgeT} (h : StEq (A ++ S ++ B) (A ++ S' ++ B)) : StEq S S' := by
  refine ⟨by have := h.len; simp at this; omega, fun k => ?_⟩
  have := h.keys k
  simp only [fk_append, List.append_assoc] at this
  exact List.append_cancel_right (List.append_cancel_left this)
def Srt (l : List EdgeT) : Prop := l.Pairwise fun x y => x.fr ≤ y.fr
theorem fk_head {k : Int} {x : EdgeT} {l : List EdgeT} (h : x.fr = k) : fk k (x :: l) = x :: fk k l := List.filter_cons_of_pos (by simpa using h)
theorem fk_skip {k : Int} {x : EdgeT} {l : List EdgeT} (h : x.fr ≠ k) : fk k (x :: l) = fk k l := List.filter_cons_of_neg (by simpa using h)
/-- there is but one -/
theorem srt_unique : ∀ (l l' : List EdgeT), Srt l → Srt l' → StEq l l' → l' = l
  | [], l', _, _, h => List.eq_nil_of_length_eq_zero h.len
  | x :: l, [], _, _, h => by have := h.len; simp at this
  | x :: l, y :: l', hs, hs', h => by
    have hx : x ∈ y :: l' := h.symm.mem List.mem_cons_self
    have hy : y ∈ x :: l := h.mem List.mem_cons_self
    have e : x.fr = y.fr := by
      have a1 : y.fr ≤ x.fr := by
        rcases List.mem_cons.1 hx with e | h1
        · rw [e]; exact Int.le_refl _
        · exact (List.pairwise_cons.1 hs').1 x h1
      have a2 : x.fr ≤ y.fr := by
        rcases List.mem_cons.1 hy with e | h1
        · rw [e]; exact Int.le_refl _
        · exact (List.pairwise_cons.1 hs).1 y h1
      omega
    have hk := h.keys x.fr
    rw [fk_head rfl, fk_head e.symm] at hk
    have exy : y = x := (List.cons.inj hk).1
    subst exy
    have := srt_unique l l' (List.pairwise_cons.1 hs).2 (List.pairwise_cons.1 hs').2 ⟨by have := h.len; simpa using this, fun k => by
      have := h.keys k
      by_cases hk : y.fr = k
      · rw [fk_head hk, fk_head hk] at this; exact (List.cons.inj this).2
      · rwa [fk_skip hk, fk_skip hk] at this⟩
    rw [this]
/-- by places -/
theorem ext_getD {l l' : List EdgeT} (hl : l'.length = l.length) (h : ∀ i, i < l.length → l'.getD i dE = l.getD i dE) : l' = l := by
  apply List.ext_getElem hl
  intro i h1 h2
  have := h i h2
  rwa [List.getD_eq_getElem?_getD, List.getD_eq_getElem?_getD, List.getElem?_eq_getElem h1, List.getElem?_eq_getElem h2] at this
theorem getD_set {l : List EdgeT} {i j : Nat} {x : EdgeT} (hi : i < l.length) : (l.set i x).getD j dE = if j = i then x else l.getD j dE := by
  rw [List.getD_eq_getElem?_getD, List.getD_eq_getElem?_getD, List.getElem?_set]
  by_cases h : i = j
  · rw [if_pos h, if_pos h.symm, if_pos (by omega)]; rfl
  · rw [if_neg h, if_neg (fun e => h e.symm)]
/-- sorted from a to b -/
def SrtOn (l : List EdgeT) (a b : Nat) : Prop := ∀ i j, a ≤ i → i < j → j < b → (l.getD i dE).fr ≤ (l.getD j dE).fr
theorem SrtOn.srt {l : List EdgeT} (h : SrtOn l 0 l.length) : Srt l := by
  refine List.pairwise_iff_getElem.2 fun i j hi hj hij => ?_
  have := h i j (Nat.zero_le _) hij hj
  rwa [List.getD_eq_getElem?_getD, List.getD_eq_getElem?_getD, List.getElem?_eq_getElem hi, List.getElem?_eq_getElem hj] at this
/-- turned between a and b alone; the same elements, in a stable order -/
structure Mut (a b : Nat) (l l' : List EdgeT) : Prop where
  st : StEq l l'
  out : ∀ i, (i < a ∨ b ≤ i) → l'.getD i dE = l.getD i dE
theorem Mut.refl (a b : Nat) (l : List EdgeT) : Mut a b l l := ⟨.refl _, fun _ _ => rfl⟩
theorem Mut.trans {a b : Nat} {l l' l'' : List EdgeT} (h : Mut a b l l') (k : Mut a b l' l'') : Mut a b l l'' := ⟨h.st.trans k.st, fun i hi => (k.out i hi).trans (h.out i hi)⟩
theorem Mut.wide {a b a' b' : Nat} {l l' : List EdgeT} (h : Mut a b l l') (ha : a' ≤ a) (hb : b ≤ b') : Mut a' b' l l' := ⟨h.st, fun i hi => h.out i (by omega)⟩
/-- neighbours change places -/
def swapE (l : List EdgeT) (i j : Nat) : List EdgeT := (l.set i (l.getD j dE)).set j (l.getD i dE)
theorem swapE_len (l : List EdgeT) (i j : Nat) : (swapE l i j).length = l.length := by simp [swapE]
theorem swapE_getD {l : List EdgeT} {i j q : Nat} (hi : i < l.length) (hj : j < l.length) : (swapE l i j).getD q dE = if q = j then l.getD i dE else if q = i then l.getD j dE else l.getD q dE := by
  unfold swapE
  rw [getD_set (by simpa using hj), getD_set hi]
theorem split_at2 {l : List EdgeT} {j : Nat} (hj : j + 1 < l.length) : l = l.take j ++ ([l.getD j dE] ++ [l.getD (j + 1) dE]) ++ l.drop (j + 2) := by
  have h1 : l.drop j = l.getD j dE :: l.drop (j + 1) := by
    rw [List.drop_eq_getElem_cons (by omega), List.getD_eq_getElem?_getD, List.getElem?_eq_getElem (by omega)]; rfl
  have h2 : l.drop (j + 1) = l.getD (j + 1) dE :: l.drop (j + 2) := by
    rw [List.drop_eq_getElem_cons (by omega), List.getD_eq_getElem?_getD, List.getElem?_eq_getElem (by omega)]; rfl
  conv => lhs; rw [← List.take_append_drop j l, h1, h2]
  simp
theorem Mut.swap {l : List EdgeT} {j : Nat} (hj : j + 1 < l.length) (h : (l.getD j dE).fr ≠ (l.getD (j + 1) dE).fr) {a b : Nat} (ha : a ≤ j) (hb : j + 2 ≤ b) : Mut a b l (swapE l (j + 1) j) := by
  have e : swapE l (j + 1) j = l.take j ++ ([l.getD (j + 1) dE] ++ [l.getD j dE]) ++ l.drop (j + 2) := by
    refine ext_getD ?_ fun i hi => ?_
    · simp [swapE]; omega
    · rw [swapE_getD hj (by omega)]
      have h0 : (l.take j).length = j := by rw [List.length_take]; omega
      simp only [List.getD_eq_getElem?_getD]
      by_cases h1 : i < j
      · rw [if_neg (by omega), if_neg (by omega), List.append_assoc, List.getElem?_append_left (by omega), List.getElem?_take_of_lt h1]
      · rw [List.append_assoc, List.getElem?_append_right (by omega), h0]
        by_cases h2 : i = j
        · rw [if_pos h2, h2, Nat.sub_self]; rfl
        · by_cases h3 : i = j + 1
          · rw [if_neg h2, if_pos h3, h3, show j + 1 - j = 1 by omega]; rfl
          · rw [if_neg h2, if_neg h3, List.getElem?_append_right (by simp; omega), List.getElem?_drop]
            congr 2
            simp; omega
  refine ⟨?_, fun i hi => ?_⟩
  · rw [e]
    conv => lhs; rw [split_at2 hj]
    exact StEq.rot _ _ fun x hx y hy => by rw [List.mem_singleton.1 hx, List.mem_singleton.1 hy]; exact h
  · rw [swapE_getD hj (by omega), if_neg (by omega), if_neg (by omega)]
/-! ### insertion -/
/-- all is sorted from a to e, but that the j-th may be too far behind -/
def InsQ (l : List EdgeT) (a e j : Nat) : Prop := ∀ p q, a ≤ p → p < q → q < e → q ≠ j → (l.getD p dE).fr ≤ (l.getD q dE).fr
theorem InsQ.start {l : List EdgeT} {a i : Nat} (h : SrtOn l a i) : InsQ l a (i + 1) i := fun p q hp hq he hj => h p q hp hq (by omega)
theorem InsQ.done {l : List EdgeT} {a e j : Nat} (h : InsQ l a e j) (hj : a < j → (l.getD (j - 1) dE).fr ≤ (l.getD j dE).fr) : SrtOn l a e := fun p q hp hq he => by
  by_cases hqj : q = j
  · subst hqj
    have h1 := hj (by omega)
    by_cases hp1 : p = q - 1
    · rw [hp1]; exact h1
    · have := h p (q - 1) hp (by omega) (by omega) (by omega)
      omega
  · exact h p q hp hq he hqj
theorem InsQ.step {l : List EdgeT} {a e j : Nat} (h : InsQ l a e j) (ha : a < j) (he : j < e) (hl : e ≤ l.length) (hlt : (l.getD j dE).fr < (l.getD (j - 1) dE).fr) : InsQ (swapE l j (j - 1)) a e (j - 1) := fun p q hp hq hqe hj => by
  rw [swapE_getD (by omega) (by omega), swapE_getD (by omega) (by omega)]
  rw [if_neg hj]
  by_cases hq1 : q = j
  · rw [if_pos hq1]
    by_cases hp1 : p = j - 1
    · rw [if_pos hp1]; omega
    · rw [if_neg hp1, if_neg (by omega)]
      exact h p (j - 1) hp (by omega) (by omega) (by omega)
  · rw [if_neg hq1]
    by_cases hp1 : p = j - 1
    · rw [if_pos hp1]
      by_cases hqj : q < j
      · omega
      · exact h j q (by omega) (by omega) hqe hq1
    · rw [if_neg hp1]
      by_cases hp2 : p = j
      · rw [if_pos hp2]
        exact h (j - 1) q (by omega) (by omega) hqe hq1
      · rw [if_neg hp2]
        exact h p q hp hq hqe hq1
theorem flat_swap {l : List EdgeT} {i j : Nat} (hi : i < l.length) (hj : j < l.length) : ((l.flatMap eE).take (i * 7) ++ eE (l.getD j dE) ++ (l.flatMap eE).drop (i * 7 + 7)).take (j * 7) ++ eE (l.getD i dE) ++ ((l.flatMap eE).take (i * 7) ++ eE (l.getD j dE) ++ (l.flatMap eE).drop (i * 7 + 7)).drop (j * 7 + 7) = (swapE l i j).flatMap eE := by
  rw [flat_set eE_len l i _ hi, flat_set eE_len _ j _ (by simpa using hj)]; rfl
def FrOk (e : EdgeT) : Prop := -1099511627776 ≤ e.fr ∧ e.fr ≤ 1099511627776
theorem frOk_getD {l : List EdgeT} (h : ∀ e ∈ l, FrOk e) {i : Nat} (hi : i < l.length) : FrOk (l.getD i dE) := by
  rw [List.getD_eq_getElem?_getD, List.getElem?_eq_getElem hi]; exact h _ (List.getElem_mem hi)
theorem StEq.frOk {l l' : List EdgeT} (h : StEq l l') (ho : ∀ e ∈ l, FrOk e) : ∀ e ∈ l', FrOk e := fun e he => ho e (h.mem he)
/-- a stretch of cur has been turned into a sorted one -/
structure SrtQ (l : List EdgeT) (a b : Nat) (l' : List EdgeT) : Prop where
  mut_ : Mut a b l l'
  srt : SrtOn l' a b

theorem a_CmpF (e f : EdgeT) (he : FrOk e) (hf : FrOk f) : Ans Tryz.prog 48 [.agg #[.int .i64 e.x, .int .i64 e.y, .int .i64 e.dx, .int .i64 e.dy, .int .i64 e.wi, .int .i64 e.fr, .int .i64 e.to], .agg #[.int .i64 f.x, .int .i64 f.y, .int .i64 f.dx, .int .i64 f.dy, .int .i64 f.wi, .int .i64 f.fr, .int .i64 f.to]] (.int .i64 (e.fr - f.fr)) := by
  unfold FrOk at he hf
  refine ans_of Tryz.func48 rfl Tryz.ntmps48 Tryz.results48 rfl rfl fun w => ?_
  refine v_seq ?_
  refine v_region ?_
  refine l_new rfl (o_box (cs := [_, _, _, _, _, _, _]) rfl rfl) fun b2 => ?_
  refine l_new rfl (o_box (cs := [_, _, _, _, _, _, _]) rfl rfl) fun b3 => ?_
  refine l_val rfl (o_assign rfl) ?_
  refine l_nil ?_
  refine kt_norm ?_
  refine v_seq ?_
  refine v_region ?_
  refine l_val rfl (o_fld rfl) ?_
  refine l_val rfl (o_load1 (key := 2) rfl rfl rfl) ?_
  refine l_val rfl (o_fld rfl) ?_
  refine l_val rfl (o_load1 (key := 3) rfl rfl rfl) ?_
  refine l_val rfl (o_subi rfl rfl ?_) ?_
  · omega
  refine l_val rfl (o_assign rfl) ?_
  refine l_nil ?_
  refine kt_norm ?_
  refine v_sel [4] [] rfl rfl ?_
  refine v_ret ?_
  refine ⟨[_], .cons (.tmp rfl) (ResAll.nil), ?_⟩
  rfl
theorem a_InsertS (w : World) (v : Value) (l : List EdgeT) (a b : Nat) (hl : l.length ≤ 1099511627776) (hb : b ≤ l.length) (hok : (Hp.own v 66 7 l.length (l.flatMap eE)).ok w) (hfr : ∀ e ∈ l, FrOk e) (hab : a ≤ b) : Calls Tryz.prog 87 #[v, .int .i64 (a : Int), .int .i64 (b : Int), .func (.func 48) #[] #[]] w fun e w' => (∃ y, e = .returned y) ∧ ∃ l', SrtQ l a b l' ∧ Chg (fun b => v.ownBlock = some b) w w' ∧ (Hp.own v 66 7 l.length (l'.flatMap eE)).ok w' := by
  have hV := rowV_own hok
  refine calls_mutX (args := [v, .int .i64 (a : Int), .int .i64 (b : Int), .func (.func 48) #[] #[]]) v (fun l' => SrtQ l a b l') (fun l' => l'.flatMap eE) Tryz.func87 rfl Tryz.ntmps87 Tryz.results87 rfl hok ?_
  refine v_seq ?_
  refine v_region ?_
  refine l_val rfl (o_move rfl) ?_
  refine l_val rfl (o_addi rfl rfl ?_) ?_
  · omega
  refine l_val rfl (o_assign rfl) ?_
  refine l_nil ?_
  refine kt_norm ?_
  refine v_block ?_
  refine v_loopS (α := Nat × List EdgeT) (fun ⟨i, cur⟩ => [(8, .int .i64 (i : Int))]) (fun ⟨i, cur⟩ => [(1000, Hp.own v 66 7 l.length (cur.flatMap eE))])  (fun ⟨i, cur⟩ => a < i ∧ (i ≤ b ∨ i = a + 1) ∧ Mut a b l cur ∧ SrtOn cur a i) (fun ⟨i, cur⟩ => b + 1 - i) (a + 1, l) [0, 1, 2, 3] [] ⟨Nat.lt_succ_self a, .inr rfl, Mut.refl a b l, fun p q hp hq he => by omega⟩  (And.intro rfl (True.intro)) rfl (And.intro rfl (True.intro)) rfl ?_
  rintro ⟨i, cur⟩ ⟨hai, hib, hM, hS⟩
  have hcl : cur.length = l.length := hM.st.len
  have hfo := hM.st.frOk hfr
  refine v_seq ?_
  refine v_seq ?_
  refine v_region ?_
  refine l_val rfl (o_move rfl) ?_
  refine l_val rfl (o_move rfl) ?_
  refine l_split rfl (o_lss rfl rfl) (fun q1 => ?_) (fun q1 => ?_)
  · skip
    refine l_nil ?_
    refine kt_norm ?_
    refine v_condT rfl ?_
    refine v_skip ?_
    refine kt_norm ?_
    refine v_seq ?_
    refine v_block ?_
    refine v_seq ?_
    refine v_region ?_
    refine l_val rfl (o_move rfl) ?_
    refine l_val rfl (o_assign rfl) ?_
    refine l_nil ?_
    refine kt_norm ?_
    refine v_block ?_
    refine v_loopS (α := Nat × List EdgeT) (fun ⟨j, cur⟩ => [(9, .int .i64 (j : Int))]) (fun ⟨j, cur⟩ => [(1000, Hp.own v 66 7 l.length (cur.flatMap eE))])  (fun ⟨j, cur⟩ => a ≤ j ∧ j ≤ i ∧ Mut a b l cur ∧ InsQ cur a (i + 1) j) (fun ⟨j, cur⟩ => j) (i, cur) [8, 0, 1, 2, 3] [] ⟨by omega, Nat.le_refl _, hM, InsQ.start hS⟩  (And.intro rfl (True.intro)) rfl (And.intro rfl (True.intro)) rfl ?_
    rintro ⟨j, cur⟩ ⟨haj, hji, hM, hI⟩
    have hcl : cur.length = l.length := hM.st.len
    have hfo := hM.st.frOk hfr
    refine v_seq ?_
    refine v_seq ?_
    refine v_drawZ [[], [], [], [], [], [], [], [], [1000], [], [], [], [], [1000], [], [], []] mixed ?_ (by kernel_rfl) (by kernel_rfl)
    refine d_val (fun _ => rfl) rfl rfl (fun _ => o_move rfl) ?_
    refine d_val (fun _ => rfl) rfl rfl (fun _ => o_move rfl) ?_
    refine d_gtr (fun _ => rfl) (fun _ => rfl) (fun _ => rfl) (fun h42 => ?_) (fun h42 => ?_)
    · skip
      refine d_val (fun _ => rfl) rfl rfl (fun _ => o_move rfl) ?_
      refine d_val (fun _ => rfl) rfl rfl (fun _ => o_move rfl) ?_
      refine d_val (fun _ => rfl) rfl rfl (fun _ => o_move rfl) ?_
      refine d_val (fun _ => rfl) rfl rfl (fun _ => o_move rfl) ?_
      refine d_val (fun _ => rfl) rfl rfl (fun _ => o_idx (j) rfl hV rfl (by first | rfl | omega) (by omega)) ?_
      refine d_val (fun _ => rfl) rfl rfl (fun _ => o_loadRE (c' := [_, _, _, _, _, _, _]) rfl (row_own (key := 1000) rfl) (el_flat eE_len dE cur (j) (by omega)) rfl) ?_
      refine d_val (fun _ => rfl) rfl rfl (fun _ => o_move rfl) ?_
      refine d_val (fun _ => rfl) rfl rfl (fun _ => o_move rfl) ?_
      refine d_val (fun _ => rfl) rfl rfl (fun _ => o_subi rfl rfl ?_) ?_
      · omega
      refine d_val (fun _ => rfl) rfl rfl (fun _ => o_idx (j - 1) rfl hV rfl (by first | rfl | omega) (by omega)) ?_
      refine d_val (fun _ => rfl) rfl rfl (fun _ => o_loadRE (c' := [_, _, _, _, _, _, _]) rfl (row_own (key := 1000) rfl) (el_flat eE_len dE cur (j - 1) (by omega)) rfl) ?_
      refine d_ansv (vs := [_, _]) (fun _ => rfl) (fun _ => rfl) (fun _ => rfl) (a_CmpF (cur.getD (j) dE) (cur.getD (j - 1) dE) (frOk_getD hfo (by omega)) (frOk_getD hfo (by omega))) ?_
      refine d_lss (fun _ => rfl) (fun _ => rfl) (fun _ => rfl) (fun h415 => ?_) (fun h415 => ?_)
      · skip
        refine d_val (fun _ => rfl) rfl rfl (fun _ => o_pickT rfl rfl) ?_
        refine d_nil (fun σ => ?_)
        refine l_nil ?_
        refine kt_norm ?_
        refine v_condT rfl ?_
        refine v_skip ?_
        refine kt_norm ?_
        refine v_seq ?_
        refine v_block ?_
        refine v_drawZ [[], [], [], [], [], [], [], [], [], [1000], [], [], [], [1000], [], [1000], [], [1000]] mixed ?_ (by kernel_rfl) (by kernel_rfl)
        refine d_val (fun _ => rfl) rfl rfl (fun _ => o_move rfl) ?_
        refine d_val (fun _ => rfl) rfl rfl (fun _ => o_move rfl) ?_
        refine d_val (fun _ => rfl) rfl rfl (fun _ => o_move rfl) ?_
        refine d_val (fun _ => rfl) rfl rfl (fun _ => o_move rfl) ?_
        refine d_val (fun _ => rfl) rfl rfl (fun _ => o_subi rfl rfl ?_) ?_
        · omega
        refine d_val (fun _ => rfl) rfl rfl (fun _ => o_move rfl) ?_
        refine d_val (fun _ => rfl) rfl rfl (fun _ => o_move rfl) ?_
        refine d_val (fun _ => rfl) rfl rfl (fun _ => o_subi rfl rfl ?_) ?_
        · omega
        refine d_val (fun _ => rfl) rfl rfl (fun _ => o_idx (j - 1) rfl hV rfl (by first | rfl | omega) (by omega)) ?_
        refine d_val (fun _ => rfl) rfl rfl (fun _ => o_loadRE (c' := [_, _, _, _, _, _, _]) rfl (row_own (key := 1000) rfl) (el_flat eE_len dE cur (j - 1) (by omega)) rfl) ?_
        refine d_val (fun _ => rfl) rfl rfl (fun _ => o_move rfl) ?_
        refine d_val (fun _ => rfl) rfl rfl (fun _ => o_move rfl) ?_
        refine d_val (fun _ => rfl) rfl rfl (fun _ => o_idx (j) rfl hV rfl (by first | rfl | omega) (by omega)) ?_
        refine d_val (fun _ => rfl) rfl rfl (fun _ => o_loadRE (c' := [_, _, _, _, _, _, _]) rfl (row_own (key := 1000) rfl) (el_flat eE_len dE cur (j) (by omega)) rfl) ?_
        refine d_val (fun _ => rfl) rfl rfl (fun _ => o_idx (j) rfl hV rfl (by first | rfl | omega) (by omega)) ?_
        refine d_store (fun _ => rfl) rfl rfl (fun _ => o_storeRE (key := 1000) (c := [_, _, _, _, _, _, _]) (by decide) rfl rfl rfl rfl rfl rfl (by omega)) ?_
        refine d_val (fun _ => rfl) rfl rfl (fun _ => o_idx (j - 1) rfl hV rfl (by first | rfl | omega) (by omega)) ?_
        refine d_store (fun _ => rfl) rfl rfl (fun _ => o_storeRE (key := 1000) (c := [_, _, _, _, _, _, _]) (by decide) rfl rfl rfl rfl rfl rfl (by omega)) ?_
        refine d_nil (fun σ => ?_)
        refine l_nil ?_
        refine kb_norm ?_
        refine kt_norm ?_
        refine v_sel [9, 8, 0, 1, 2, 3, 22, 23, 24, 25, 26, 27, 28, 29, 30, 31, 32, 33] [1000] rfl rfl ?_
        refine v_region ?_
        refine l_val rfl (o_move rfl) ?_
        refine l_val rfl (o_subi rfl rfl ?_) ?_
        · omega
        refine l_val rfl (o_assign rfl) ?_
        refine l_nil ?_
        refine kt_norm ?_
        refine ⟨(j - 1, swapE cur j (j - 1)), ⟨by omega, by omega, hM.trans (by have hms := Mut.swap (l := cur) (j := j - 1) (by omega) (by rw [show j - 1 + 1 = j by omega]; omega) (a := a) (b := b) (by omega) (by omega); rwa [show j - 1 + 1 = j by omega] at hms), hI.step (by omega) (by omega) (by omega) (by omega)⟩, (by show j - 1 < j; omega), le_app (And.intro (congrArg (fun q => some (Value.int .i64 q)) (by omega)) (True.intro)) [8, 0, 1, 2, 3] rfl (And.intro (congrArg some (own_congr rfl (flat_swap (by omega) (by omega)))) (True.intro)) [] rfl⟩
      · skip
        refine d_val (fun _ => rfl) rfl rfl (fun _ => o_pickT rfl rfl) ?_
        refine d_nil (fun σ => ?_)
        refine l_nil ?_
        refine kt_norm ?_
        refine v_condF rfl ?_
        refine v_exit ?_
        refine kt_exit ?_
        refine kt_exit ?_
        refine kb_eq ?_
        refine kb_norm ?_
        refine kt_norm ?_
        refine v_sel [8, 0, 1, 2, 3, 22, 23, 24, 25, 26, 27, 28, 29, 30, 31, 32, 33] [1000] rfl rfl ?_
        refine v_region ?_
        refine l_val rfl (o_move rfl) ?_
        refine l_val rfl (o_addi rfl rfl ?_) ?_
        · omega
        refine l_val rfl (o_assign rfl) ?_
        refine l_nil ?_
        refine kt_norm ?_
        refine ⟨(i + 1, cur), ⟨by omega, .inl (by omega), hM, hI.done fun ha => by omega⟩, (by show b + 1 - (i + 1) < b + 1 - i; omega), le_app (And.intro rfl (True.intro)) [0, 1, 2, 3] rfl (And.intro rfl (True.intro)) [] rfl⟩
    · skip
      refine d_val (fun _ => rfl) rfl rfl (fun _ => o_move rfl) ?_
      refine d_no (fun _ => rfl) ?_
      refine d_no (fun _ => rfl) ?_
      refine d_no (fun _ => rfl) ?_
      refine d_no (fun _ => rfl) ?_
      refine d_no (fun _ => rfl) ?_
      refine d_no (fun _ => rfl) ?_
      refine d_no (fun _ => rfl) ?_
      refine d_no (fun _ => rfl) ?_
      refine d_no (fun _ => rfl) ?_
      refine d_no (fun _ => rfl) ?_
      refine d_no (fun _ => rfl) ?_
      refine d_no (fun _ => rfl) ?_
      refine d_val (fun _ => rfl) rfl rfl (fun _ => o_pickF rfl rfl) ?_
      refine d_nil (fun σ => ?_)
      refine l_nil ?_
      refine kt_norm ?_
      refine v_condF rfl ?_
      refine v_exit ?_
      refine kt_exit ?_
      refine kt_exit ?_
      refine kb_eq ?_
      refine kb_norm ?_
      refine kt_norm ?_
      refine v_sel [8, 0, 1, 2, 3, 22, 23, 24, 25, 26, 27, 28, 29, 30, 31, 32, 33] [1000] rfl rfl ?_
      refine v_region ?_
      refine l_val rfl (o_move rfl) ?_
      refine l_val rfl (o_addi rfl rfl ?_) ?_
      · omega
      refine l_val rfl (o_assign rfl) ?_
      refine l_nil ?_
      refine kt_norm ?_
      refine ⟨(i + 1, cur), ⟨by omega, .inl (by omega), hM, hI.done fun ha => by omega⟩, (by show b + 1 - (i + 1) < b + 1 - i; omega), le_app (And.intro rfl (True.intro)) [0, 1, 2, 3] rfl (And.intro rfl (True.intro)) [] rfl⟩
  · skip
    refine l_nil ?_
    refine kt_norm ?_
    refine v_condF rfl ?_
    refine v_exit ?_
    refine kt_exit ?_
    refine kt_exit ?_
    refine kb_eq ?_
    refine ⟨[], ResAll.nil, ?_⟩
    exact ⟨cur, ⟨hM, fun p q hp hq hqb => hS p q hp hq (by omega)⟩, rfl⟩
end Go.Proofs.YtllhohbenniaaaaGreat

/- Stretches of edges that change places. Conditions: none. -/
namespace Go.Proofs.YtllhohbenniaaaaGreat
open Go.Proofs Go.RowKit Go.Shelf

/-! ### stretches that change places -/
/-- n elements from a on and n from b on have changed places -/
structure SwR (l l' : List EdgeT) (a b n : Nat) : Prop where
  len : l'.length = l.length
  get : ∀ q, l'.getD q dE = if a ≤ q ∧ q < a + n then l.getD (q + b - a) dE else if b ≤ q ∧ q < b + n then l.getD (q + a - b) dE else l.getD q dE
theorem SwR.start (l : List EdgeT) (a b : Nat) : SwR l l a b 0 := ⟨rfl, fun q => by rw [if_neg (by omega), if_neg (by omega)]⟩
theorem SwR.step {l l' : List EdgeT} {a b n : Nat} (h : SwR l l' a b n) (h1 : a + n < b) (h2 : b + n < l.length) : SwR l (swapE l' (a + n) (b + n)) a b (n + 1) := by
  have hl := h.len
  refine ⟨(swapE_len _ _ _).trans hl, fun q => ?_⟩
  rw [swapE_getD (by omega) (by omega)]
  by_cases h3 : q = b + n
  · rw [if_pos h3, h.get, if_neg (by omega), if_neg (by omega), if_neg (by omega), if_pos (by omega)]
    congr 1; omega
  · rw [if_neg h3]
    by_cases h4 : q = a + n
    · rw [if_pos h4, h.get, if_neg (by omega), if_neg (by omega), if_pos (by omega)]
      congr 1; omega
    · rw [if_neg h4, h.get]
      by_cases h5 : a ≤ q ∧ q < a + n
      · rw [if_pos h5, if_pos (by omega)]
      · rw [if_neg h5]
        by_cases h6 : b ≤ q ∧ q < b + n
        · rw [if_pos h6, if_neg (by omega), if_pos (by omega)]
        · rw [if_neg h6, if_neg (by omega), if_neg (by omega)]
/-- the stretch from m to b ahead of that from a to m -/
def RotF (l : List EdgeT) (a m b q : Nat) : EdgeT := if a ≤ q ∧ q < a + (b - m) then l.getD (q + (m - a)) dE else if a + (b - m) ≤ q ∧ q < b then l.getD (q - (b - m)) dE else l.getD q dE
theorem RotF.big {l l' : List EdgeT} {m i j : Nat} (h : SwR l l' (m - i) m j) (hi : j < i) (hm : i ≤ m) (q : Nat) : RotF l' (m - (i - j)) m (m + j) q = RotF l (m - i) m (m + j) q := by
  unfold RotF
  simp only [h.get]
  (repeat' split) <;> first | (exfalso; omega) | (congr 1; omega) | rfl
theorem RotF.small {l l' : List EdgeT} {m i j : Nat} (h : SwR l l' (m - i) (m + j - i) i) (hi : i < j) (hm : i ≤ m) (q : Nat) : RotF l' (m - i) m (m + (j - i)) q = RotF l (m - i) m (m + j) q := by
  unfold RotF
  simp only [h.get]
  (repeat' split) <;> first | (exfalso; omega) | (congr 1; omega) | rfl
theorem RotF.last {l l' : List EdgeT} {m i : Nat} (h : SwR l l' (m - i) m i) (hm : i ≤ m) (q : Nat) : l'.getD q dE = RotF l (m - i) m (m + i) q := by
  unfold RotF
  rw [h.get]
  (repeat' split) <;> first | (exfalso; omega) | (congr 1; omega) | rfl
structure RotQ (l : List EdgeT) (a m b : Nat) (l' : List EdgeT) : Prop where
  len : l'.length = l.length
  get : ∀ q, l'.getD q dE = RotF l a m b q

theorem a_SwapR (w : World) (v : Value) (l : List EdgeT) (a b n : Nat) (hl : l.length ≤ 1099511627776) (hab : a + n ≤ b) (hb : b + n ≤ l.length) (hok : (Hp.own v 66 7 l.length (l.flatMap eE)).ok w) : Calls Tryz.prog 126 #[v, .int .i64 ((a : Nat) : Int), .int .i64 ((b : Nat) : Int), .int .i64 ((n : Nat) : Int), .func (.func 48) #[] #[]] w fun e w' => (∃ y, e = .returned y) ∧ ∃ l', SwR l l' a b n ∧ Chg (fun b => v.ownBlock = some b) w w' ∧ (Hp.own v 66 7 l.length (l'.flatMap eE)).ok w' := by
  have hV := rowV_own hok
  refine calls_mutX (args := [v, .int .i64 ((a : Nat) : Int), .int .i64 ((b : Nat) : Int), .int .i64 ((n : Nat) : Int), .func (.func 48) #[] #[]]) v (fun l' => SwR l l' a b n) (fun l' => l'.flatMap eE) Tryz.func126 rfl Tryz.ntmps126 Tryz.results126 rfl hok ?_
  refine v_seq ?_
  refine v_region ?_
  refine l_val rfl (o_assign rfl) ?_
  refine l_nil ?_
  refine kt_norm ?_
  refine v_block ?_
  refine v_loopS (α := Nat × List EdgeT) (fun ⟨i, cur⟩ => [(10, .int .i64 (i : Int))]) (fun ⟨i, cur⟩ => [(1000, Hp.own v 66 7 l.length (cur.flatMap eE))])  (fun ⟨i, cur⟩ => i ≤ n ∧ SwR l cur a b i) (fun ⟨i, cur⟩ => n - i) (0, l) [0, 1, 2, 3] [] ⟨Nat.zero_le _, SwR.start l a b⟩  (And.intro rfl (True.intro)) rfl (And.intro rfl (True.intro)) rfl ?_
  rintro ⟨i, cur⟩ ⟨hi, hS⟩
  have hcl : cur.length = l.length := hS.len
  refine v_seq ?_
  refine v_seq ?_
  refine v_region ?_
  refine l_val rfl (o_move rfl) ?_
  refine l_val rfl (o_move rfl) ?_
  refine l_split rfl (o_lss rfl rfl) (fun q1 => ?_) (fun q1 => ?_)
  · skip
    refine l_nil ?_
    refine kt_norm ?_
    refine v_condT rfl ?_
    refine v_skip ?_
    refine kt_norm ?_
    refine v_seq ?_
    refine v_block ?_
    refine v_drawZ [[], [], [], [], [], [], [], [], [], [], [], [], [], [1000], [], [], [], [], [], [1000], [], [1000], [], [1000]] mixed ?_ (by kernel_rfl) (by kernel_rfl)
    refine d_val (fun _ => rfl) rfl rfl (fun _ => o_move rfl) ?_
    refine d_val (fun _ => rfl) rfl rfl (fun _ => o_move rfl) ?_
    refine d_val (fun _ => rfl) rfl rfl (fun _ => o_move rfl) ?_
    refine d_val (fun _ => rfl) rfl rfl (fun _ => o_addi rfl rfl ?_) ?_
    · omega
    refine d_val (fun _ => rfl) rfl rfl (fun _ => o_move rfl) ?_
    refine d_val (fun _ => rfl) rfl rfl (fun _ => o_move rfl) ?_
    refine d_val (fun _ => rfl) rfl rfl (fun _ => o_move rfl) ?_
    refine d_val (fun _ => rfl) rfl rfl (fun _ => o_addi rfl rfl ?_) ?_
    · omega
    refine d_val (fun _ => rfl) rfl rfl (fun _ => o_move rfl) ?_
    refine d_val (fun _ => rfl) rfl rfl (fun _ => o_move rfl) ?_
    refine d_val (fun _ => rfl) rfl rfl (fun _ => o_move rfl) ?_
    refine d_val (fun _ => rfl) rfl rfl (fun _ => o_addi rfl rfl ?_) ?_
    · omega
    refine d_val (fun _ => rfl) rfl rfl (fun _ => o_idx (b + i) rfl hV rfl (by first | rfl | omega) (by omega)) ?_
    refine d_val (fun _ => rfl) rfl rfl (fun _ => o_loadRE (c' := [_, _, _, _, _, _, _]) rfl (row_own (key := 1000) rfl) (el_flat eE_len dE cur (b + i) (by omega)) rfl) ?_
    refine d_val (fun _ => rfl) rfl rfl (fun _ => o_move rfl) ?_
    refine d_val (fun _ => rfl) rfl rfl (fun _ => o_move rfl) ?_
    refine d_val (fun _ => rfl) rfl rfl (fun _ => o_move rfl) ?_
    refine d_val (fun _ => rfl) rfl rfl (fun _ => o_addi rfl rfl ?_) ?_
    · omega
    refine d_val (fun _ => rfl) rfl rfl (fun _ => o_idx (a + i) rfl hV rfl (by first | rfl | omega) (by omega)) ?_
    refine d_val (fun _ => rfl) rfl rfl (fun _ => o_loadRE (c' := [_, _, _, _, _, _, _]) rfl (row_own (key := 1000) rfl) (el_flat eE_len dE cur (a + i) (by omega)) rfl) ?_
    refine d_val (fun _ => rfl) rfl rfl (fun _ => o_idx (a + i) rfl hV rfl (by first | rfl | omega) (by omega)) ?_
    refine d_store (fun _ => rfl) rfl rfl (fun _ => o_storeRE (key := 1000) (c := [_, _, _, _, _, _, _]) (by decide) rfl rfl rfl rfl rfl rfl (by omega)) ?_
    refine d_val (fun _ => rfl) rfl rfl (fun _ => o_idx (b + i) rfl hV rfl (by first | rfl | omega) (by omega)) ?_
    refine d_store (fun _ => rfl) rfl rfl (fun _ => o_storeRE (key := 1000) (c := [_, _, _, _, _, _, _]) (by decide) rfl rfl rfl rfl rfl rfl (by omega)) ?_
    refine d_nil (fun σ => ?_)
    refine l_nil ?_
    refine kb_norm ?_
    refine kt_norm ?_
    refine v_sel [10, 0, 1, 2, 3] [1000] rfl rfl ?_
    refine v_region ?_
    refine l_val rfl (o_move rfl) ?_
    refine l_val rfl (o_addi rfl rfl ?_) ?_
    · omega
    refine l_val rfl (o_assign rfl) ?_
    refine l_nil ?_
    refine kt_norm ?_
    refine ⟨(i + 1, swapE cur (a + i) (b + i)), ⟨by omega, hS.step (by omega) (by omega)⟩, (by show n - (i + 1) < n - i; omega), le_app (And.intro rfl (True.intro)) [0, 1, 2, 3] rfl (And.intro (congrArg some (own_congr rfl (flat_swap (by omega) (by omega)))) (True.intro)) [] rfl⟩
  · skip
    refine l_nil ?_
    refine kt_norm ?_
    refine v_condF rfl ?_
    refine v_exit ?_
    refine kt_exit ?_
    refine kt_exit ?_
    refine kb_eq ?_
    refine ⟨[], ResAll.nil, ?_⟩
    exact ⟨cur, (show i = n by omega) ▸ hS, rfl⟩
theorem a_Rotate (w : World) (v : Value) (l : List EdgeT) (a m b : Nat) (hl : l.length ≤ 1099511627776) (ham : a < m) (hmb : m < b) (hb : b ≤ l.length) (hok : (Hp.own v 66 7 l.length (l.flatMap eE)).ok w) : Calls Tryz.prog 101 #[v, .int .i64 ((a : Nat) : Int), .int .i64 ((m : Nat) : Int), .int .i64 ((b : Nat) : Int), .func (.func 48) #[] #[]] w fun e w' => (∃ y, e = .returned y) ∧ ∃ l', RotQ l a m b l' ∧ Chg (fun b => v.ownBlock = some b) w w' ∧ (Hp.own v 66 7 l.length (l'.flatMap eE)).ok w' := by
  have hV := rowV_own hok
  refine calls_mutX (args := [v, .int .i64 ((a : Nat) : Int), .int .i64 ((m : Nat) : Int), .int .i64 ((b : Nat) : Int), .func (.func 48) #[] #[]]) v (fun l' => RotQ l a m b l') (fun l' => l'.flatMap eE) Tryz.func101 rfl Tryz.ntmps101 Tryz.results101 rfl hok ?_
  refine v_seq ?_
  refine v_region ?_
  refine l_val rfl (o_move rfl) ?_
  refine l_val rfl (o_move rfl) ?_
  refine l_val rfl (o_subi rfl rfl ?_) ?_
  · omega
  refine l_val rfl (o_assign rfl) ?_
  refine l_nil ?_
  refine kt_norm ?_
  refine v_seq ?_
  refine v_region ?_
  refine l_val rfl (o_move rfl) ?_
  refine l_val rfl (o_move rfl) ?_
  refine l_val rfl (o_subi rfl rfl ?_) ?_
  · omega
  refine l_val rfl (o_assign rfl) ?_
  refine l_nil ?_
  refine kt_norm ?_
  refine v_sel [0, 2, 4, 10, 11] [1000] rfl rfl ?_
  refine v_seq ?_
  refine v_block ?_
  refine v_loopS (α := Nat × Nat × List EdgeT) (fun ⟨i, j, cur⟩ => [(10, .int .i64 (i : Int)), (11, .int .i64 (j : Int))]) (fun ⟨i, j, cur⟩ => [(1000, Hp.own v 66 7 l.length (cur.flatMap eE))])  (fun ⟨i, j, cur⟩ => 1 ≤ i ∧ 1 ≤ j ∧ i ≤ m ∧ a + i ≤ m ∧ m + j ≤ b ∧ cur.length = l.length ∧ ∀ q, RotF cur (m - i) m (m + j) q = RotF l a m b q) (fun ⟨i, j, cur⟩ => i + j) (m - a, b - m, l) [0, 2, 4] [] ⟨by omega, by omega, by omega, by omega, by omega, rfl, fun q => by rw [show m - (m - a) = a by omega, show m + (b - m) = b by omega]⟩  (And.intro (congrArg (fun q => some (Value.int .i64 q)) (by omega)) (And.intro (congrArg (fun q => some (Value.int .i64 q)) (by omega)) (True.intro))) rfl (And.intro rfl (True.intro)) rfl ?_
  rintro ⟨i, j, cur⟩ ⟨hi, hj, him, hai, hmj, hcl, hR⟩
  refine v_seq ?_
  refine v_seq ?_
  refine v_region ?_
  refine l_val rfl (o_move rfl) ?_
  refine l_val rfl (o_move rfl) ?_
  refine l_split rfl (o_neq rfl rfl) (fun q1 => ?_) (fun q1 => ?_)
  · skip
    refine l_nil ?_
    refine kt_norm ?_
    refine v_condT rfl ?_
    refine v_skip ?_
    refine kt_norm ?_
    refine v_block ?_
    refine v_seq ?_
    refine v_region ?_
    refine l_val rfl (o_move rfl) ?_
    refine l_val rfl (o_move rfl) ?_
    refine l_split rfl (o_gtr rfl rfl) (fun q2 => ?_) (fun q2 => ?_)
    · skip
      refine l_nil ?_
      refine kt_norm ?_
      refine v_condT rfl ?_
      refine v_seq ?_
      refine v_region ?_
      refine l_val rfl (o_move rfl) ?_
      refine l_val rfl (o_move rfl) ?_
      refine l_val rfl (o_move rfl) ?_
      refine l_val rfl (o_subi rfl rfl ?_) ?_
      · omega
      refine l_val rfl (o_move rfl) ?_
      refine l_val rfl (o_move rfl) ?_
      refine l_val rfl (o_move rfl) ?_
      refine l_gmutX (ks := []) 1000 (fun l2 => SwR cur l2 (m - i) (m) (j)) (fun l2 => l2.flatMap eE) (n := l.length) (caps := #[]) (vs := [_, _, _, _, _]) rfl rfl (ent_of Tryz.func126 rfl rfl) rfl rfl (fun w' hg hh hok2 => ?_) (fun l2 y2 hS2 => ?_)
      · have hok3 : (Hp.own v 66 7 cur.length (cur.flatMap eE)).ok w' := by rw [hcl]; exact hok2
        have hres := a_SwapR w' v cur (m - i) (m) (j) (by omega) (by omega) (by omega) hok3
        rw [hcl] at hres
        have e0 : ((m - i : Nat) : Int) = (m : Int) - (i : Int) := by omega
        rw [e0] at hres
        exact hres
      refine l_nil ?_
      refine kt_norm ?_
      refine v_sel [10, 11, 0, 2, 4] [1000] rfl rfl ?_
      refine v_region ?_
      refine l_val rfl (o_move rfl) ?_
      refine l_val rfl (o_move rfl) ?_
      refine l_val rfl (o_subi rfl rfl ?_) ?_
      · omega
      refine l_val rfl (o_assign rfl) ?_
      refine l_nil ?_
      refine kb_norm ?_
      refine kt_norm ?_
      refine ⟨(i - j, j, l2), ⟨by omega, hj, by omega, by omega, hmj, hS2.len.trans hcl, fun q => (RotF.big hS2 (by omega) (by omega) q).trans (hR q)⟩, (by show i - j + j < i + j; omega), le_app (And.intro (congrArg (fun q => some (Value.int .i64 q)) (by omega)) (And.intro rfl (True.intro))) [0, 2, 4] rfl (And.intro rfl (True.intro)) [] rfl⟩
    · skip
      refine l_nil ?_
      refine kt_norm ?_
      refine v_condF rfl ?_
      refine v_seq ?_
      refine v_region ?_
      refine l_val rfl (o_move rfl) ?_
      refine l_val rfl (o_move rfl) ?_
      refine l_val rfl (o_move rfl) ?_
      refine l_val rfl (o_subi rfl rfl ?_) ?_
      · omega
      refine l_val rfl (o_move rfl) ?_
      refine l_val rfl (o_move rfl) ?_
      refine l_val rfl (o_addi rfl rfl ?_) ?_
      · omega
      refine l_val rfl (o_move rfl) ?_
      refine l_val rfl (o_subi rfl rfl ?_) ?_
      · omega
      refine l_val rfl (o_move rfl) ?_
      refine l_val rfl (o_move rfl) ?_
      refine l_gmutX (ks := []) 1000 (fun l2 => SwR cur l2 (m - i) (m + j - i) (i)) (fun l2 => l2.flatMap eE) (n := l.length) (caps := #[]) (vs := [_, _, _, _, _]) rfl rfl (ent_of Tryz.func126 rfl rfl) rfl rfl (fun w' hg hh hok2 => ?_) (fun l2 y2 hS2 => ?_)
      · have hok3 : (Hp.own v 66 7 cur.length (cur.flatMap eE)).ok w' := by rw [hcl]; exact hok2
        have hres := a_SwapR w' v cur (m - i) (m + j - i) (i) (by omega) (by omega) (by omega) hok3
        rw [hcl] at hres
        have e0 : ((m - i : Nat) : Int) = (m : Int) - (i : Int) := by omega
        rw [e0] at hres
        have e1 : ((m + j - i : Nat) : Int) = (m : Int) + (j : Int) - (i : Int) := by omega
        rw [e1] at hres
        exact hres
      refine l_nil ?_
      refine kt_norm ?_
      refine v_sel [10, 11, 0, 2, 4] [1000] rfl rfl ?_
      refine v_region ?_
      refine l_val rfl (o_move rfl) ?_
      refine l_val rfl (o_move rfl) ?_
      refine l_val rfl (o_subi rfl rfl ?_) ?_
      · omega
      refine l_val rfl (o_assign rfl) ?_
      refine l_nil ?_
      refine kb_norm ?_
      refine kt_norm ?_
      refine ⟨(i, j - i, l2), ⟨hi, by omega, him, hai, by omega, hS2.len.trans hcl, fun q => (RotF.small hS2 (by omega) (by omega) q).trans (hR q)⟩, (by show i + (j - i) < i + j; omega), le_app (And.intro rfl (And.intro (congrArg (fun q => some (Value.int .i64 q)) (by omega)) (True.intro))) [0, 2, 4] rfl (And.intro rfl (True.intro)) [] rfl⟩
  · skip
    refine l_nil ?_
    refine kt_norm ?_
    refine v_condF rfl ?_
    refine v_exit ?_
    refine kt_exit ?_
    refine kt_exit ?_
    refine kb_eq ?_
    refine kt_norm ?_
    refine v_region ?_
    obtain rfl : i = j := by omega
    refine l_val rfl (o_move rfl) ?_
    refine l_val rfl (o_move rfl) ?_
    refine l_val rfl (o_move rfl) ?_
    refine l_val rfl (o_subi rfl rfl ?_) ?_
    · omega
    refine l_val rfl (o_move rfl) ?_
    refine l_val rfl (o_move rfl) ?_
    refine l_val rfl (o_move rfl) ?_
    refine l_gmutX (ks := []) 1000 (fun l2 => SwR cur l2 (m - i) (m) (i)) (fun l2 => l2.flatMap eE) (n := l.length) (caps := #[]) (vs := [_, _, _, _, _]) rfl rfl (ent_of Tryz.func126 rfl rfl) rfl rfl (fun w' hg hh hok2 => ?_) (fun l2 y2 hS2 => ?_)
    · have hok3 : (Hp.own v 66 7 cur.length (cur.flatMap eE)).ok w' := by rw [hcl]; exact hok2
      have hres := a_SwapR w' v cur (m - i) (m) (i) (by omega) (by omega) (by omega) hok3
      rw [hcl] at hres
      have e0 : ((m - i : Nat) : Int) = (m : Int) - (i : Int) := by omega
      rw [e0] at hres
      exact hres
    refine l_nil ?_
    refine ⟨[], ResAll.nil, ?_⟩
    exact ⟨l2, ⟨hS2.len.trans hcl, fun q => (RotF.last hS2 (by omega) q).trans (hR q)⟩, rfl⟩
end Go.Proofs.YtllhohbenniaaaaGreat
