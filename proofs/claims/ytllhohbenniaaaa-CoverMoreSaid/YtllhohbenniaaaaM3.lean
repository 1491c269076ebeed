import Derived.Test.YtllhohbenniaaaaM1
import Derived.Test.YtllhohbenniaaaaM2
/- The numbers of 128 bits of the document, and where an edge crosses a row by it. Conditions: none. -/
namespace Go.Proofs.Ytllhohbenniaaaa
open Go.Proofs Go.RowKit Go.Shelf

theorem mulNN {x y A B : Int} (hx : 0 ≤ x ∧ x ≤ A) (hy : 0 ≤ y ∧ y ≤ B) : 0 ≤ x * y ∧ x * y ≤ A * B :=
  ⟨Int.mul_nonneg hx.1 hy.1, Int.mul_le_mul hx.2 hy.2 hy.1 (by omega)⟩
theorem mul_split (u v : Int) : u * v = u / 4294967296 * (v / 4294967296) * 18446744073709551616 + u / 4294967296 * (v % 4294967296) * 4294967296 + u % 4294967296 * (v / 4294967296) * 4294967296 + u % 4294967296 * (v % 4294967296) := by
  have h1 : u = u / 4294967296 * 4294967296 + u % 4294967296 := by omega
  have h2 : v = v / 4294967296 * 4294967296 + v % 4294967296 := by omega
  generalize u / 4294967296 = p at *
  generalize u % 4294967296 = q at *
  generalize v / 4294967296 = r at *
  generalize v % 4294967296 = s at *
  subst h1 h2
  simp only [Int.add_mul, Int.mul_add]
  rw [show p * 4294967296 * (r * 4294967296) = p * r * 18446744073709551616 by rw [Int.mul_assoc, Int.mul_left_comm 4294967296 r, ← Int.mul_assoc, show (4294967296 : Int) * 4294967296 = 18446744073709551616 from rfl],
    show p * 4294967296 * s = p * s * 4294967296 by rw [Int.mul_assoc, Int.mul_comm 4294967296 s, ← Int.mul_assoc], show q * (r * 4294967296) = q * r * 4294967296 by rw [← Int.mul_assoc]]
  omega
/-- a long division, under way: i digits of X are taken -/
structure DivQ (X b : Int) (i : Nat) (left hi lo q : Int) : Prop where
  hb : 0 < b ∧ b < 9223372036854775808
  hX : 0 ≤ X ∧ X ≤ 4611686018427387904
  le : i ≤ 128
  hl : 0 ≤ left ∧ left < b
  hh : 0 ≤ hi ∧ hi < 18446744073709551616
  hlo : 0 ≤ lo ∧ lo < 18446744073709551616
  hq : 0 ≤ q
  eq : X * 2 ^ i = (q * b + left) * 340282366920938463463374607431768211456 + hi * 18446744073709551616 + lo
theorem DivQ.qX {X b left hi lo q : Int} {i : Nat} (h : DivQ X b i left hi lo q) : 0 ≤ q * b ∧ q ≤ q * b ∧ q * b + left ≤ X := by
  have h1 := h.eq; have h2 := h.hl; have h3 := h.hh; have h4 := h.hlo; have h5 := h.hX; have hb := h.hb
  have h6 : q * 1 ≤ q * b := Int.mul_le_mul_of_nonneg_left (by omega) h.hq
  have h0 : 0 ≤ q * b := Int.mul_nonneg h.hq (by omega)
  have h7 : (2 : Int) ^ i ≤ 2 ^ 128 := by
    have : (2 : Nat) ^ i ≤ 2 ^ 128 := Nat.pow_le_pow_right (by omega) h.le
    exact_mod_cast this
  have h8 : X * 2 ^ i ≤ X * 2 ^ 128 := Int.mul_le_mul_of_nonneg_left h7 h5.1
  rw [show (2 : Int) ^ 128 = 340282366920938463463374607431768211456 from rfl] at h8
  refine ⟨h0, by omega, ?_⟩
  omega
theorem DivQ.start {X b : Int} (hb : 0 < b ∧ b < 9223372036854775808) (hX : 0 ≤ X ∧ X ≤ 4611686018427387904) : DivQ X b 0 0 (X / 18446744073709551616) (X % 18446744073709551616) 0 :=
  ⟨hb, hX, by omega, by omega, by omega, by omega, by omega, by rw [Int.pow_zero, Int.mul_one, Int.zero_mul]; omega⟩
theorem DivQ.big {X b left hi lo q : Int} {i : Nat} (h : DivQ X b i left hi lo q) (hi' : i < 128) (hc : b ≤ left * 2 + hi / 9223372036854775808) :
    DivQ X b (i + 1) (left * 2 + hi / 9223372036854775808 - b) (hi * 2 % 18446744073709551616 + lo / 9223372036854775808) (lo * 2 % 18446744073709551616) (q + q + 1) := by
  have h1 := h.eq; have h2 := h.hl; have h3 := h.hh; have h4 := h.hlo; have hb := h.hb; have hq := h.hq
  refine ⟨hb, h.hX, by omega, by omega, by omega, by omega, by omega, ?_⟩
  rw [Int.pow_succ, ← Int.mul_assoc, h1, show (q + q + 1) * b = q * b + q * b + b by rw [Int.add_mul, Int.add_mul, Int.one_mul]]
  omega
theorem DivQ.small {X b left hi lo q : Int} {i : Nat} (h : DivQ X b i left hi lo q) (hi' : i < 128) (hc : left * 2 + hi / 9223372036854775808 < b) :
    DivQ X b (i + 1) (left * 2 + hi / 9223372036854775808) (hi * 2 % 18446744073709551616 + lo / 9223372036854775808) (lo * 2 % 18446744073709551616) (q + q) := by
  have h1 := h.eq; have h2 := h.hl; have h3 := h.hh; have h4 := h.hlo; have hb := h.hb; have hq := h.hq
  refine ⟨hb, h.hX, by omega, by omega, by omega, by omega, by omega, ?_⟩
  rw [Int.pow_succ, ← Int.mul_assoc, h1, show (q + q) * b = q * b + q * b by rw [Int.add_mul]]
  omega
theorem DivQ.done {X b left hi lo q : Int} {i : Nat} (h : DivQ X b i left hi lo q) (hi' : ¬ (i : Int) < 128) : X = q * b + left := by
  have h1 := h.eq; have h2 := h.hl; have h3 := h.hh; have h4 := h.hlo; have := h.le
  obtain rfl : i = 128 := by omega
  rw [show (2 : Int) ^ 128 = 340282366920938463463374607431768211456 from rfl] at h1
  omega
theorem div_pos {x b q left : Int} (hb : 0 < b) (h : x = q * b + left) (hl : 0 ≤ left ∧ left < b) : x / b = q ∧ x % b = left :=
  (Int.ediv_emod_unique hb).2 ⟨by rw [Int.mul_comm]; omega, hl.1, hl.2⟩
theorem div_neg1 {x b q left : Int} (hb : 0 < b) (h : -x = q * b + left) (hl : 0 < left ∧ left < b) : x / b = -q - 1 ∧ x % b = b - left := by
  refine (Int.ediv_emod_unique hb).2 ⟨?_, by omega, by omega⟩
  rw [show b * (-q - 1) = -(q * b) - b by rw [Int.mul_sub, Int.mul_neg, Int.mul_comm, Int.mul_one]]
  omega
theorem div_neg0 {x b q left : Int} (hb : 0 < b) (h : -x = q * b + left) (hl : left = 0) : x / b = -q ∧ x % b = 0 := by
  refine (Int.ediv_emod_unique hb).2 ⟨?_, by omega, by omega⟩
  rw [show b * (-q) = -(q * b) by rw [Int.mul_neg, Int.mul_comm]]
  omega








theorem tup3w {z r z' r' : Int} (e1 : z = z') (e2 : r = r') : packV [wideV z, .int .i64 r, .int .i64 0] = .tuple #[wideV z', .int .i64 r', .int .i64 0] := by
  subst e1 e2; rfl






end Go.Proofs.Ytllhohbenniaaaa

/- Where an edge crosses any of its rows is as the document has it, and lies between its ends. Conditions: none. -/
namespace Go.Proofs.Ytllhohbenniaaaa
open Go.Proofs Go.RowKit Go.Shelf

theorem edgesOf3 (a b : PtT) : edgesOf [a, b, a] = onE a b ++ onE b a ++ onE a a := by
  simp [edgesOf, edgesTo, List.range_succ, edgesAt_on]
theorem onE_self (a : PtT) : onE a a = [] := by
  unfold onE
  rw [edgeOf_ge (show ¬ a.y < a.y by omega)]
  exact if_neg (by dsimp only; omega)
theorem at_len (a b : PtT) : (edgesOf [a, b, a]).length = 0 ∨ (edgesOf [a, b, a]).length = 2 := by
  have h := congrArg List.length (turned_edge a b)
  rw [List.length_map] at h
  rw [edgesOf3, onE_self, List.append_nil, List.length_append, h]
  unfold onE
  split
  · exact .inr rfl
  · exact .inl rfl
def EndsIn (a b : PtT) (e : EdgeT) : Prop := (e.x = a.x ∧ e.x + e.dx = b.x) ∨ (e.x = b.x ∧ e.x + e.dx = a.x)
theorem endsIn_edge (a b : PtT) : EndsIn a b (edgeOf a b) := by
  unfold EndsIn
  by_cases h : b.y < a.y
  · rw [edgeOf_lt h]; dsimp only; omega
  · rw [edgeOf_ge h]; dsimp only; omega
theorem ends_getD {a b : PtT} {i : Nat} (hi : i < (edgesOf [a, b, a]).length) : EndsIn a b ((edgesOf [a, b, a]).getD i dE) := by
  rw [List.getD_eq_getElem?_getD, List.getElem?_eq_getElem hi]
  have hm := List.getElem_mem hi
  generalize (edgesOf [a, b, a])[i] = e at hm
  rw [edgesOf3, onE_self, List.append_nil] at hm
  show EndsIn a b e
  unfold onE at hm
  rcases List.mem_append.1 hm with h | h
  · split at h
    · rw [List.mem_singleton.1 h]; exact endsIn_edge a b
    · cases h
  · split at h
    · rw [List.mem_singleton.1 h]
      have := endsIn_edge b a
      unfold EndsIn at this ⊢
      omega
    · cases h


end Go.Proofs.Ytllhohbenniaaaa

/- Edges, sorted by their first rows: neighbours that change places. Conditions: none. -/
namespace Go.Proofs.Ytllhohbenniaaaa
open Go.Proofs Go.RowKit Go.Shelf

/-! ### rows that are sorted by their first rows: plain law -/
def fk (k : Int) (l : List EdgeT) : List EdgeT := l.filter fun e => decide (e.fr = k)
/-- the same elements; those with the same key in the same order -/
structure StEq (l l' : List EdgeT) : Prop where
  len : l'.length = l.length
  keys : ∀ k, fk k l' = fk k l
theorem StEq.refl (l : List EdgeT) : StEq l l := ⟨rfl, fun _ => rfl⟩
theorem StEq.trans {a b c : List EdgeT} (h : StEq a b) (k : StEq b c) : StEq a c := ⟨k.len.trans h.len, fun q => (k.keys q).trans (h.keys q)⟩
theorem StEq.symm {a b : List EdgeT} (h : StEq a b) : StEq b a := ⟨h.len.symm, fun q => (h.keys q).symm⟩
theorem fk_append (k : Int) (a b : List EdgeT) : fk k (a ++ b) = fk k a ++ fk k b := List.filter_append ..
theorem StEq.mem {a b : List EdgeT} (h : StEq a b) {e : EdgeT} (he : e ∈ b) : e ∈ a := by
  have h1 : e ∈ fk e.fr b := List.mem_filter.2 ⟨he, by simp⟩
  rw [h.keys] at h1
  exact (List.mem_filter.1 h1).1
theorem fk_none {k : Int} {l : List EdgeT} (h : ∀ e ∈ l, e.fr ≠ k) : fk k l = [] := List.filter_eq_nil_iff.2 fun e he => by simpa using h e he
/-- two stretches change places whose keys differ -/
theorem StEq.rot {X Y : List EdgeT} (A B : List EdgeT) (h : ∀ x ∈ X, ∀ y ∈ Y, x.fr ≠ y.fr) : StEq (A ++ (X ++ Y) ++ B) (A ++ (Y ++ X) ++ B) := by
  refine ⟨by simp; omega, fun k => ?_⟩
  simp only [fk_append]
  by_cases hx : ∃ x ∈ X, x.fr = k
  · obtain ⟨x, hx, hk⟩ := hx
    rw [fk_none (l := Y) fun y hy e => h x hx y hy (hk.trans e.symm)]
    simp
  · rw [fk_none (l := X) fun x hx' e => hx ⟨x, hx', e⟩]
    simp
/-- a stretch is told by the whole and the rest -/
theorem StEq.seg {A S S' B : List EdgeT} (h : StEq (A ++ S ++ B) (A ++ S' ++ B)) : StEq S S' := by
  refine ⟨by have := h.len; simp at this; omega, fun k => ?_⟩
  have := h.keys k
  simp only [fk_append, List.append_assoc] at this
  exact List.append_cancel_right (List.append_cancel_left this)
def Srt (l : List EdgeT) : Prop := l.Pairwise fun x y => x.fr ≤ y.fr
theorem fk_head {k : Int} {x : EdgeT} {l : List EdgeT} (h : x.fr = k) : fk k (x :: l) = x :: fk k l := List.filter_cons_of_pos (by simpa using h)
theorem fk_skip {k : Int} {x : EdgeT} {l : List EdgeT} (h : x.fr ≠ k) : fk k (x :: l) = fk k l := List.filter_cons_of_neg (by simpa using h)
/-- there is but one -/
theorem srt_unique : ∀ (l l' : List EdgeT), Srt l → Srt l' → StEq l l' → l' = l
  | [], l', _, _, h => List.eq_nil_of_length_eq_zero h.len
  | x :: l, [], _, _, h => by have := h.len; simp at this
  | x :: l, y :: l', hs, hs', h => by
    have hx : x ∈ y :: l' := h.symm.mem List.mem_cons_self
    have hy : y ∈ x :: l := h.mem List.mem_cons_self
    have e : x.fr = y.fr := by
      have a1 : y.fr ≤ x.fr := by
        rcases List.mem_cons.1 hx with e | h1
        · rw [e]; exact Int.le_refl _
        · exact (List.pairwise_cons.1 hs').1 x h1
      have a2 : x.fr ≤ y.fr := by
        rcases List.mem_cons.1 hy with e | h1
        · rw [e]; exact Int.le_refl _
        · exact (List.pairwise_cons.1 hs).1 y h1
      omega
    have hk := h.keys x.fr
    rw [fk_head rfl, fk_head e.symm] at hk
    have exy : y = x := (List.cons.inj hk).1
    subst exy
    have := srt_unique l l' (List.pairwise_cons.1 hs).2 (List.pairwise_cons.1 hs').2 ⟨by have := h.len; simpa using this, fun k => by
      have := h.keys k
      by_cases hk : y.fr = k
      · rw [fk_head hk, fk_head hk] at this; exact (List.cons.inj this).2
      · rwa [fk_skip hk, fk_skip hk] at this⟩
    rw [this]
/-- by places -/
theorem ext_getD {l l' : List EdgeT} (hl : l'.length = l.length) (h : ∀ i, i < l.length → l'.getD i dE = l.getD i dE) : l' = l := by
  apply List.ext_getElem hl
  intro i h1 h2
  have := h i h2
  rwa [List.getD_eq_getElem?_getD, List.getD_eq_getElem?_getD, List.getElem?_eq_getElem h1, List.getElem?_eq_getElem h2] at this
theorem getD_set {l : List EdgeT} {i j : Nat} {x : EdgeT} (hi : i < l.length) : (l.set i x).getD j dE = if j = i then x else l.getD j dE := by
  rw [List.getD_eq_getElem?_getD, List.getD_eq_getElem?_getD, List.getElem?_set]
  by_cases h : i = j
  · rw [if_pos h, if_pos h.symm, if_pos (by omega)]; rfl
  · rw [if_neg h, if_neg (fun e => h e.symm)]
/-- sorted from a to b -/
def SrtOn (l : List EdgeT) (a b : Nat) : Prop := ∀ i j, a ≤ i → i < j → j < b → (l.getD i dE).fr ≤ (l.getD j dE).fr
theorem SrtOn.srt {l : List EdgeT} (h : SrtOn l 0 l.length) : Srt l := by
  refine List.pairwise_iff_getElem.2 fun i j hi hj hij => ?_
  have := h i j (Nat.zero_le _) hij hj
  rwa [List.getD_eq_getElem?_getD, List.getD_eq_getElem?_getD, List.getElem?_eq_getElem hi, List.getElem?_eq_getElem hj] at this
/-- turned between a and b alone; the same elements, in a stable order -/
structure Mut (a b : Nat) (l l' : List EdgeT) : Prop where
  st : StEq l l'
  out : ∀ i, (i < a ∨ b ≤ i) → l'.getD i dE = l.getD i dE
theorem Mut.refl (a b : Nat) (l : List EdgeT) : Mut a b l l := ⟨.refl _, fun _ _ => rfl⟩
theorem Mut.trans {a b : Nat} {l l' l'' : List EdgeT} (h : Mut a b l l') (k : Mut a b l' l'') : Mut a b l l'' := ⟨h.st.trans k.st, fun i hi => (k.out i hi).trans (h.out i hi)⟩
theorem Mut.wide {a b a' b' : Nat} {l l' : List EdgeT} (h : Mut a b l l') (ha : a' ≤ a) (hb : b ≤ b') : Mut a' b' l l' := ⟨h.st, fun i hi => h.out i (by omega)⟩
/-- neighbours change places -/
def swapE (l : List EdgeT) (i j : Nat) : List EdgeT := (l.set i (l.getD j dE)).set j (l.getD i dE)
theorem swapE_len (l : List EdgeT) (i j : Nat) : (swapE l i j).length = l.length := by simp [swapE]
theorem swapE_getD {l : List EdgeT} {i j q : Nat} (hi : i < l.length) (hj : j < l.length) : (swapE l i j).getD q dE = if q = j then l.getD i dE else if q = i then l.getD j dE else l.getD q dE := by
  unfold swapE
  rw [getD_set (by simpa using hj), getD_set hi]
theorem split_at2 {l : List EdgeT} {j : Nat} (hj : j + 1 < l.length) : l = l.take j ++ ([l.getD j dE] ++ [l.getD (j + 1) dE]) ++ l.drop (j + 2) := by
  have h1 : l.drop j = l.getD j dE :: l.drop (j + 1) := by
    rw [List.drop_eq_getElem_cons (by omega), List.getD_eq_getElem?_getD, List.getElem?_eq_getElem (by omega)]; rfl
  have h2 : l.drop (j + 1) = l.getD (j + 1) dE :: l.drop (j + 2) := by
    rw [List.drop_eq_getElem_cons (by omega), List.getD_eq_getElem?_getD, List.getElem?_eq_getElem (by omega)]; rfl
  conv => lhs; rw [← List.take_append_drop j l, h1, h2]
  simp
theorem Mut.swap {l : List EdgeT} {j : Nat} (hj : j + 1 < l.length) (h : (l.getD j dE).fr ≠ (l.getD (j + 1) dE).fr) {a b : Nat} (ha : a ≤ j) (hb : j + 2 ≤ b) : Mut a b l (swapE l (j + 1) j) := by
  have e : swapE l (j + 1) j = l.take j ++ ([l.getD (j + 1) dE] ++ [l.getD j dE]) ++ l.drop (j + 2) := by
    refine ext_getD ?_ fun i hi => ?_
    · simp [swapE]; omega
    · rw [swapE_getD hj (by omega)]
      have h0 : (l.take j).length = j := by rw [List.length_take]; omega
      simp only [List.getD_eq_getElem?_getD]
      by_cases h1 : i < j
      · rw [if_neg (by omega), if_neg (by omega), List.append_assoc, List.getElem?_append_left (by omega), List.getElem?_take_of_lt h1]
      · rw [List.append_assoc, List.getElem?_append_right (by omega), h0]
        by_cases h2 : i = j
        · rw [if_pos h2, h2, Nat.sub_self]; rfl
        · by_cases h3 : i = j + 1
          · rw [if_neg h2, if_pos h3, h3, show j + 1 - j = 1 by omega]; rfl
          · rw [if_neg h2, if_neg h3, List.getElem?_append_right (by simp; omega), List.getElem?_drop]
            congr 2
            simp; omega
  refine ⟨?_, fun i hi => ?_⟩
  · rw [e]
    conv => lhs; rw [split_at2 hj]
    exact StEq.rot _ _ fun x hx y hy => by rw [List.mem_singleton.1 hx, List.mem_singleton.1 hy]; exact h
  · rw [swapE_getD hj (by omega), if_neg (by omega), if_neg (by omega)]
/-! ### insertion -/
/-- all is sorted from a to e, but that the j-th may be too far behind -/
def InsQ (l : List EdgeT) (a e j : Nat) : Prop := ∀ p q, a ≤ p → p < q → q < e → q ≠ j → (l.getD p dE).fr ≤ (l.getD q dE).fr
theorem InsQ.start {l : List EdgeT} {a i : Nat} (h : SrtOn l a i) : InsQ l a (i + 1) i := fun p q hp hq he hj => h p q hp hq (by omega)
theorem InsQ.done {l : List EdgeT} {a e j : Nat} (h : InsQ l a e j) (hj : a < j → (l.getD (j - 1) dE).fr ≤ (l.getD j dE).fr) : SrtOn l a e := fun p q hp hq he => by
  by_cases hqj : q = j
  · subst hqj
    have h1 := hj (by omega)
    by_cases hp1 : p = q - 1
    · rw [hp1]; exact h1
    · have := h p (q - 1) hp (by omega) (by omega) (by omega)
      omega
  · exact h p q hp hq he hqj
theorem InsQ.step {l : List EdgeT} {a e j : Nat} (h : InsQ l a e j) (ha : a < j) (he : j < e) (hl : e ≤ l.length) (hlt : (l.getD j dE).fr < (l.getD (j - 1) dE).fr) : InsQ (swapE l j (j - 1)) a e (j - 1) := fun p q hp hq hqe hj => by
  rw [swapE_getD (by omega) (by omega), swapE_getD (by omega) (by omega)]
  rw [if_neg hj]
  by_cases hq1 : q = j
  · rw [if_pos hq1]
    by_cases hp1 : p = j - 1
    · rw [if_pos hp1]; omega
    · rw [if_neg hp1, if_neg (by omega)]
      exact h p (j - 1) hp (by omega) (by omega) (by omega)
  · rw [if_neg hq1]
    by_cases hp1 : p = j - 1
    · rw [if_pos hp1]
      by_cases hqj : q < j
      · omega
      · exact h j q (by omega) (by omega) hqe hq1
    · rw [if_neg hp1]
      by_cases hp2 : p = j
      · rw [if_pos hp2]
        exact h (j - 1) q (by omega) (by omega) hqe hq1
      · rw [if_neg hp2]
        exact h p q hp hq hqe hq1
theorem flat_swap {l : List EdgeT} {i j : Nat} (hi : i < l.length) (hj : j < l.length) : ((l.flatMap eE).take (i * 7) ++ eE (l.getD j dE) ++ (l.flatMap eE).drop (i * 7 + 7)).take (j * 7) ++ eE (l.getD i dE) ++ ((l.flatMap eE).take (i * 7) ++ eE (l.getD j dE) ++ (l.flatMap eE).drop (i * 7 + 7)).drop (j * 7 + 7) = (swapE l i j).flatMap eE := by
  rw [flat_set eE_len l i _ hi, flat_set eE_len _ j _ (by simpa using hj)]; rfl
def FrOk (e : EdgeT) : Prop := -1099511627776 ≤ e.fr ∧ e.fr ≤ 1099511627776
theorem frOk_getD {l : List EdgeT} (h : ∀ e ∈ l, FrOk e) {i : Nat} (hi : i < l.length) : FrOk (l.getD i dE) := by
  rw [List.getD_eq_getElem?_getD, List.getElem?_eq_getElem hi]; exact h _ (List.getElem_mem hi)
theorem StEq.frOk {l l' : List EdgeT} (h : StEq l l') (ho : ∀ e ∈ l, FrOk e) : ∀ e ∈ l', FrOk e := fun e he => ho e (h.mem he)
/-- a stretch of cur has been turned into a sorted one -/
structure SrtQ (l : List EdgeT) (a b : Nat) (l' : List EdgeT) : Prop where
  mut_ : Mut a b l l'
  srt : SrtOn l' a b

theorem a_CmpF (e f : EdgeT) (he : FrOk e) (hf : FrOk f) : Ans Try.prog 49 [.agg #[.int .i64 e.x, .int .i64 e.y, .int .i64 e.dx, .int .i64 e.dy, .int .i64 e.wi, .int .i64 e.fr, .int .i64 e.to], .agg #[.int .i64 f.x, .int .i64 f.y, .int .i64 f.dx, .int .i64 f.dy, .int .i64 f.wi, .int .i64 f.fr, .int .i64 f.to]] (.int .i64 (e.fr - f.fr)) := by
  unfold FrOk at he hf
  refine ans_of Try.func49 rfl Try.ntmps49 Try.results49 rfl rfl fun w => ?_
  refine v_seq ?_
  refine v_region ?_
  refine l_new rfl (o_box (cs := [_, _, _, _, _, _, _]) rfl rfl) fun b2 => ?_
  refine l_new rfl (o_box (cs := [_, _, _, _, _, _, _]) rfl rfl) fun b3 => ?_
  refine l_val rfl (o_assign rfl) ?_
  refine l_nil ?_
  refine kt_norm ?_
  refine v_seq ?_
  refine v_region ?_
  refine l_val rfl (o_fld rfl) ?_
  refine l_val rfl (o_load1 (key := 2) rfl rfl rfl) ?_
  refine l_val rfl (o_fld rfl) ?_
  refine l_val rfl (o_load1 (key := 3) rfl rfl rfl) ?_
  refine l_val rfl (o_subi rfl rfl ?_) ?_
  · omega
  refine l_val rfl (o_assign rfl) ?_
  refine l_nil ?_
  refine kt_norm ?_
  refine v_sel [4] [] rfl rfl ?_
  refine v_ret ?_
  refine ⟨[_], .cons (.tmp rfl) (ResAll.nil), ?_⟩
  rfl
theorem a_InsertS (w : World) (v : Value) (l : List EdgeT) (a b : Nat) (hl : l.length ≤ 1099511627776) (hb : b ≤ l.length) (hok : (Hp.own v 68 7 l.length (l.flatMap eE)).ok w) (hfr : ∀ e ∈ l, FrOk e) (hab : a ≤ b) : Calls Try.prog 78 #[v, .int .i64 (a : Int), .int .i64 (b : Int), .func (.func 49) #[] #[]] w fun e w' => (∃ y, e = .returned y) ∧ ∃ l', SrtQ l a b l' ∧ Chg (fun b => v.ownBlock = some b) w w' ∧ (Hp.own v 68 7 l.length (l'.flatMap eE)).ok w' := by
  have hV := rowV_own hok
  refine calls_mutX (args := [v, .int .i64 (a : Int), .int .i64 (b : Int), .func (.func 49) #[] #[]]) v (fun l' => SrtQ l a b l') (fun l' => l'.flatMap eE) Try.func78 rfl Try.ntmps78 Try.results78 rfl hok ?_
  refine v_seq ?_
  refine v_region ?_
  refine l_val rfl (o_move rfl) ?_
  refine l_val rfl (o_addi rfl rfl ?_) ?_
  · omega
  refine l_val rfl (o_assign rfl) ?_
  refine l_nil ?_
  refine kt_norm ?_
  refine v_block ?_
  refine v_loopS (α := Nat × List EdgeT) (fun ⟨i, cur⟩ => [(8, .int .i64 (i : Int))]) (fun ⟨i, cur⟩ => [(1000, Hp.own v 68 7 l.length (cur.flatMap eE))])  (fun ⟨i, cur⟩ => a < i ∧ (i ≤ b ∨ i = a + 1) ∧ Mut a b l cur ∧ SrtOn cur a i) (fun ⟨i, cur⟩ => b + 1 - i) (a + 1, l) [0, 1, 2, 3] [] ⟨Nat.lt_succ_self a, .inr rfl, Mut.refl a b l, fun p q hp hq he => by omega⟩  (And.intro rfl (True.intro)) rfl (And.intro rfl (True.intro)) rfl ?_
  rintro ⟨i, cur⟩ ⟨hai, hib, hM, hS⟩
  have hcl : cur.length = l.length := hM.st.len
  have hfo := hM.st.frOk hfr
  refine v_seq ?_
  refine v_seq ?_
  refine v_region ?_
  refine l_val rfl (o_move rfl) ?_
  refine l_val rfl (o_move rfl) ?_
  refine l_split rfl (o_lss rfl rfl) (fun q1 => ?_) (fun q1 => ?_)
  · skip
    refine l_nil ?_
    refine kt_norm ?_
    refine v_condT rfl ?_
    refine v_skip ?_
    refine kt_norm ?_
    refine v_seq ?_
    refine v_block ?_
    refine v_seq ?_
    refine v_region ?_
    refine l_val rfl (o_move rfl) ?_
    refine l_val rfl (o_assign rfl) ?_
    refine l_nil ?_
    refine kt_norm ?_
    refine v_block ?_
    refine v_loopS (α := Nat × List EdgeT) (fun ⟨j, cur⟩ => [(9, .int .i64 (j : Int))]) (fun ⟨j, cur⟩ => [(1000, Hp.own v 68 7 l.length (cur.flatMap eE))])  (fun ⟨j, cur⟩ => a ≤ j ∧ j ≤ i ∧ Mut a b l cur ∧ InsQ cur a (i + 1) j) (fun ⟨j, cur⟩ => j) (i, cur) [8, 0, 1, 2, 3] [] ⟨by omega, Nat.le_refl _, hM, InsQ.start hS⟩  (And.intro rfl (True.intro)) rfl (And.intro rfl (True.intro)) rfl ?_
    rintro ⟨j, cur⟩ ⟨haj, hji, hM, hI⟩
    have hcl : cur.length = l.length := hM.st.len
    have hfo := hM.st.frOk hfr
    refine v_seq ?_
    refine v_seq ?_
    refine v_drawZ [[], [], [], [], [], [], [], [], [1000], [], [], [], [], [1000], [], [], []] mixed ?_ (by kernel_rfl) (by kernel_rfl)
    refine d_val (fun _ => rfl) rfl rfl (fun _ => o_move rfl) ?_
    refine d_val (fun _ => rfl) rfl rfl (fun _ => o_move rfl) ?_
    refine d_gtr (fun _ => rfl) (fun _ => rfl) (fun _ => rfl) (fun h42 => ?_) (fun h42 => ?_)
    · skip
      refine d_val (fun _ => rfl) rfl rfl (fun _ => o_move rfl) ?_
      refine d_val (fun _ => rfl) rfl rfl (fun _ => o_move rfl) ?_
      refine d_val (fun _ => rfl) rfl rfl (fun _ => o_move rfl) ?_
      refine d_val (fun _ => rfl) rfl rfl (fun _ => o_move rfl) ?_
      refine d_val (fun _ => rfl) rfl rfl (fun _ => o_idx (j) rfl hV rfl (by first | rfl | omega) (by omega)) ?_
      refine d_val (fun _ => rfl) rfl rfl (fun _ => o_loadRE (c' := [_, _, _, _, _, _, _]) rfl (row_own (key := 1000) rfl) (el_flat eE_len dE cur (j) (by omega)) rfl) ?_
      refine d_val (fun _ => rfl) rfl rfl (fun _ => o_move rfl) ?_
      refine d_val (fun _ => rfl) rfl rfl (fun _ => o_move rfl) ?_
      refine d_val (fun _ => rfl) rfl rfl (fun _ => o_subi rfl rfl ?_) ?_
      · omega
      refine d_val (fun _ => rfl) rfl rfl (fun _ => o_idx (j - 1) rfl hV rfl (by first | rfl | omega) (by omega)) ?_
      refine d_val (fun _ => rfl) rfl rfl (fun _ => o_loadRE (c' := [_, _, _, _, _, _, _]) rfl (row_own (key := 1000) rfl) (el_flat eE_len dE cur (j - 1) (by omega)) rfl) ?_
      refine d_ansv (vs := [_, _]) (fun _ => rfl) (fun _ => rfl) (fun _ => rfl) (a_CmpF (cur.getD (j) dE) (cur.getD (j - 1) dE) (frOk_getD hfo (by omega)) (frOk_getD hfo (by omega))) ?_
      refine d_lss (fun _ => rfl) (fun _ => rfl) (fun _ => rfl) (fun h415 => ?_) (fun h415 => ?_)
      · skip
        refine d_val (fun _ => rfl) rfl rfl (fun _ => o_pickT rfl rfl) ?_
        refine d_nil (fun σ => ?_)
        refine l_nil ?_
        refine kt_norm ?_
        refine v_condT rfl ?_
        refine v_skip ?_
        refine kt_norm ?_
        refine v_seq ?_
        refine v_block ?_
        refine v_drawZ [[], [], [], [], [], [], [], [], [], [1000], [], [], [], [1000], [], [1000], [], [1000]] mixed ?_ (by kernel_rfl) (by kernel_rfl)
        refine d_val (fun _ => rfl) rfl rfl (fun _ => o_move rfl) ?_
        refine d_val (fun _ => rfl) rfl rfl (fun _ => o_move rfl) ?_
        refine d_val (fun _ => rfl) rfl rfl (fun _ => o_move rfl) ?_
        refine d_val (fun _ => rfl) rfl rfl (fun _ => o_move rfl) ?_
        refine d_val (fun _ => rfl) rfl rfl (fun _ => o_subi rfl rfl ?_) ?_
        · omega
        refine d_val (fun _ => rfl) rfl rfl (fun _ => o_move rfl) ?_
        refine d_val (fun _ => rfl) rfl rfl (fun _ => o_move rfl) ?_
        refine d_val (fun _ => rfl) rfl rfl (fun _ => o_subi rfl rfl ?_) ?_
        · omega
        refine d_val (fun _ => rfl) rfl rfl (fun _ => o_idx (j - 1) rfl hV rfl (by first | rfl | omega) (by omega)) ?_
        refine d_val (fun _ => rfl) rfl rfl (fun _ => o_loadRE (c' := [_, _, _, _, _, _, _]) rfl (row_own (key := 1000) rfl) (el_flat eE_len dE cur (j - 1) (by omega)) rfl) ?_
        refine d_val (fun _ => rfl) rfl rfl (fun _ => o_move rfl) ?_
        refine d_val (fun _ => rfl) rfl rfl (fun _ => o_move rfl) ?_
        refine d_val (fun _ => rfl) rfl rfl (fun _ => o_idx (j) rfl hV rfl (by first | rfl | omega) (by omega)) ?_
        refine d_val (fun _ => rfl) rfl rfl (fun _ => o_loadRE (c' := [_, _, _, _, _, _, _]) rfl (row_own (key := 1000) rfl) (el_flat eE_len dE cur (j) (by omega)) rfl) ?_
        refine d_val (fun _ => rfl) rfl rfl (fun _ => o_idx (j) rfl hV rfl (by first | rfl | omega) (by omega)) ?_
        refine d_store (fun _ => rfl) rfl rfl (fun _ => o_storeRE (key := 1000) (c := [_, _, _, _, _, _, _]) (by decide) rfl rfl rfl rfl rfl rfl (by omega)) ?_
        refine d_val (fun _ => rfl) rfl rfl (fun _ => o_idx (j - 1) rfl hV rfl (by first | rfl | omega) (by omega)) ?_
        refine d_store (fun _ => rfl) rfl rfl (fun _ => o_storeRE (key := 1000) (c := [_, _, _, _, _, _, _]) (by decide) rfl rfl rfl rfl rfl rfl (by omega)) ?_
        refine d_nil (fun σ => ?_)
        refine l_nil ?_
        refine kb_norm ?_
        refine kt_norm ?_
        refine v_sel [9, 8, 0, 1, 2, 3, 22, 23, 24, 25, 26, 27, 28, 29, 30, 31, 32, 33] [1000] rfl rfl ?_
        refine v_region ?_
        refine l_val rfl (o_move rfl) ?_
        refine l_val rfl (o_subi rfl rfl ?_) ?_
        · omega
        refine l_val rfl (o_assign rfl) ?_
        refine l_nil ?_
        refine kt_norm ?_
        refine ⟨(j - 1, swapE cur j (j - 1)), ⟨by omega, by omega, hM.trans (by have hms := Mut.swap (l := cur) (j := j - 1) (by omega) (by rw [show j - 1 + 1 = j by omega]; omega) (a := a) (b := b) (by omega) (by omega); rwa [show j - 1 + 1 = j by omega] at hms), hI.step (by omega) (by omega) (by omega) (by omega)⟩, (by show j - 1 < j; omega), le_app (And.intro (congrArg (fun q => some (Value.int .i64 q)) (by omega)) (True.intro)) [8, 0, 1, 2, 3] rfl (And.intro (congrArg some (own_congr rfl (flat_swap (by omega) (by omega)))) (True.intro)) [] rfl⟩
      · skip
        refine d_val (fun _ => rfl) rfl rfl (fun _ => o_pickT rfl rfl) ?_
        refine d_nil (fun σ => ?_)
        refine l_nil ?_
        refine kt_norm ?_
        refine v_condF rfl ?_
        refine v_exit ?_
        refine kt_exit ?_
        refine kt_exit ?_
        refine kb_eq ?_
        refine kb_norm ?_
        refine kt_norm ?_
        refine v_sel [8, 0, 1, 2, 3, 22, 23, 24, 25, 26, 27, 28, 29, 30, 31, 32, 33] [1000] rfl rfl ?_
        refine v_region ?_
        refine l_val rfl (o_move rfl) ?_
        refine l_val rfl (o_addi rfl rfl ?_) ?_
        · omega
        refine l_val rfl (o_assign rfl) ?_
        refine l_nil ?_
        refine kt_norm ?_
        refine ⟨(i + 1, cur), ⟨by omega, .inl (by omega), hM, hI.done fun ha => by omega⟩, (by show b + 1 - (i + 1) < b + 1 - i; omega), le_app (And.intro rfl (True.intro)) [0, 1, 2, 3] rfl (And.intro rfl (True.intro)) [] rfl⟩
    · skip
      refine d_val (fun _ => rfl) rfl rfl (fun _ => o_move rfl) ?_
      refine d_no (fun _ => rfl) ?_
      refine d_no (fun _ => rfl) ?_
      refine d_no (fun _ => rfl) ?_
      refine d_no (fun _ => rfl) ?_
      refine d_no (fun _ => rfl) ?_
      refine d_no (fun _ => rfl) ?_
      refine d_no (fun _ => rfl) ?_
      refine d_no (fun _ => rfl) ?_
      refine d_no (fun _ => rfl) ?_
      refine d_no (fun _ => rfl) ?_
      refine d_no (fun _ => rfl) ?_
      refine d_no (fun _ => rfl) ?_
      refine d_val (fun _ => rfl) rfl rfl (fun _ => o_pickF rfl rfl) ?_
      refine d_nil (fun σ => ?_)
      refine l_nil ?_
      refine kt_norm ?_
      refine v_condF rfl ?_
      refine v_exit ?_
      refine kt_exit ?_
      refine kt_exit ?_
      refine kb_eq ?_
      refine kb_norm ?_
      refine kt_norm ?_
      refine v_sel [8, 0, 1, 2, 3, 22, 23, 24, 25, 26, 27, 28, 29, 30, 31, 32, 33] [1000] rfl rfl ?_
      refine v_region ?_
      refine l_val rfl (o_move rfl) ?_
      refine l_val rfl (o_addi rfl rfl ?_) ?_
      · omega
      refine l_val rfl (o_assign rfl) ?_
      refine l_nil ?_
      refine kt_norm ?_
      refine ⟨(i + 1, cur), ⟨by omega, .inl (by omega), hM, hI.done fun ha => by omega⟩, (by show b + 1 - (i + 1) < b + 1 - i; omega), le_app (And.intro rfl (True.intro)) [0, 1, 2, 3] rfl (And.intro rfl (True.intro)) [] rfl⟩
  · skip
    refine l_nil ?_
    refine kt_norm ?_
    refine v_condF rfl ?_
    refine v_exit ?_
    refine kt_exit ?_
    refine kt_exit ?_
    refine kb_eq ?_
    refine ⟨[], ResAll.nil, ?_⟩
    exact ⟨cur, ⟨hM, fun p q hp hq hqb => hS p q hp hq (by omega)⟩, rfl⟩
end Go.Proofs.Ytllhohbenniaaaa

/- Stretches of edges that change places. Conditions: none. -/
namespace Go.Proofs.Ytllhohbenniaaaa
open Go.Proofs Go.RowKit Go.Shelf

/-! ### stretches that change places -/
/-- n elements from a on and n from b on have changed places -/
structure SwR (l l' : List EdgeT) (a b n : Nat) : Prop where
  len : l'.length = l.length
  get : ∀ q, l'.getD q dE = if a ≤ q ∧ q < a + n then l.getD (q + b - a) dE else if b ≤ q ∧ q < b + n then l.getD (q + a - b) dE else l.getD q dE
theorem SwR.start (l : List EdgeT) (a b : Nat) : SwR l l a b 0 := ⟨rfl, fun q => by rw [if_neg (by omega), if_neg (by omega)]⟩
theorem SwR.step {l l' : List EdgeT} {a b n : Nat} (h : SwR l l' a b n) (h1 : a + n < b) (h2 : b + n < l.length) : SwR l (swapE l' (a + n) (b + n)) a b (n + 1) := by
  have hl := h.len
  refine ⟨(swapE_len _ _ _).trans hl, fun q => ?_⟩
  rw [swapE_getD (by omega) (by omega)]
  by_cases h3 : q = b + n
  · rw [if_pos h3, h.get, if_neg (by omega), if_neg (by omega), if_neg (by omega), if_pos (by omega)]
    congr 1; omega
  · rw [if_neg h3]
    by_cases h4 : q = a + n
    · rw [if_pos h4, h.get, if_neg (by omega), if_neg (by omega), if_pos (by omega)]
      congr 1; omega
    · rw [if_neg h4, h.get]
      by_cases h5 : a ≤ q ∧ q < a + n
      · rw [if_pos h5, if_pos (by omega)]
      · rw [if_neg h5]
        by_cases h6 : b ≤ q ∧ q < b + n
        · rw [if_pos h6, if_neg (by omega), if_pos (by omega)]
        · rw [if_neg h6, if_neg (by omega), if_neg (by omega)]
/-- the stretch from m to b ahead of that from a to m -/
def RotF (l : List EdgeT) (a m b q : Nat) : EdgeT := if a ≤ q ∧ q < a + (b - m) then l.getD (q + (m - a)) dE else if a + (b - m) ≤ q ∧ q < b then l.getD (q - (b - m)) dE else l.getD q dE
theorem RotF.big {l l' : List EdgeT} {m i j : Nat} (h : SwR l l' (m - i) m j) (hi : j < i) (hm : i ≤ m) (q : Nat) : RotF l' (m - (i - j)) m (m + j) q = RotF l (m - i) m (m + j) q := by
  unfold RotF
  simp only [h.get]
  (repeat' split) <;> first | (exfalso; omega) | (congr 1; omega) | rfl
theorem RotF.small {l l' : List EdgeT} {m i j : Nat} (h : SwR l l' (m - i) (m + j - i) i) (hi : i < j) (hm : i ≤ m) (q : Nat) : RotF l' (m - i) m (m + (j - i)) q = RotF l (m - i) m (m + j) q := by
  unfold RotF
  simp only [h.get]
  (repeat' split) <;> first | (exfalso; omega) | (congr 1; omega) | rfl
theorem RotF.last {l l' : List EdgeT} {m i : Nat} (h : SwR l l' (m - i) m i) (hm : i ≤ m) (q : Nat) : l'.getD q dE = RotF l (m - i) m (m + i) q := by
  unfold RotF
  rw [h.get]
  (repeat' split) <;> first | (exfalso; omega) | (congr 1; omega) | rfl
structure RotQ (l : List EdgeT) (a m b : Nat) (l' : List EdgeT) : Prop where
  len : l'.length = l.length
  get : ∀ q, l'.getD q dE = RotF l a m b q

theorem a_SwapR (w : World) (v : Value) (l : List EdgeT) (a b n : Nat) (hl : l.length ≤ 1099511627776) (hab : a + n ≤ b) (hb : b + n ≤ l.length) (hok : (Hp.own v 68 7 l.length (l.flatMap eE)).ok w) : Calls Try.prog 107 #[v, .int .i64 ((a : Nat) : Int), .int .i64 ((b : Nat) : Int), .int .i64 ((n : Nat) : Int), .func (.func 49) #[] #[]] w fun e w' => (∃ y, e = .returned y) ∧ ∃ l', SwR l l' a b n ∧ Chg (fun b => v.ownBlock = some b) w w' ∧ (Hp.own v 68 7 l.length (l'.flatMap eE)).ok w' := by
  have hV := rowV_own hok
  refine calls_mutX (args := [v, .int .i64 ((a : Nat) : Int), .int .i64 ((b : Nat) : Int), .int .i64 ((n : Nat) : Int), .func (.func 49) #[] #[]]) v (fun l' => SwR l l' a b n) (fun l' => l'.flatMap eE) Try.func107 rfl Try.ntmps107 Try.results107 rfl hok ?_
  refine v_seq ?_
  refine v_region ?_
  refine l_val rfl (o_assign rfl) ?_
  refine l_nil ?_
  refine kt_norm ?_
  refine v_block ?_
  refine v_loopS (α := Nat × List EdgeT) (fun ⟨i, cur⟩ => [(10, .int .i64 (i : Int))]) (fun ⟨i, cur⟩ => [(1000, Hp.own v 68 7 l.length (cur.flatMap eE))])  (fun ⟨i, cur⟩ => i ≤ n ∧ SwR l cur a b i) (fun ⟨i, cur⟩ => n - i) (0, l) [0, 1, 2, 3] [] ⟨Nat.zero_le _, SwR.start l a b⟩  (And.intro rfl (True.intro)) rfl (And.intro rfl (True.intro)) rfl ?_
  rintro ⟨i, cur⟩ ⟨hi, hS⟩
  have hcl : cur.length = l.length := hS.len
  refine v_seq ?_
  refine v_seq ?_
  refine v_region ?_
  refine l_val rfl (o_move rfl) ?_
  refine l_val rfl (o_move rfl) ?_
  refine l_split rfl (o_lss rfl rfl) (fun q1 => ?_) (fun q1 => ?_)
  · skip
    refine l_nil ?_
    refine kt_norm ?_
    refine v_condT rfl ?_
    refine v_skip ?_
    refine kt_norm ?_
    refine v_seq ?_
    refine v_block ?_
    refine v_drawZ [[], [], [], [], [], [], [], [], [], [], [], [], [], [1000], [], [], [], [], [], [1000], [], [1000], [], [1000]] mixed ?_ (by kernel_rfl) (by kernel_rfl)
    refine d_val (fun _ => rfl) rfl rfl (fun _ => o_move rfl) ?_
    refine d_val (fun _ => rfl) rfl rfl (fun _ => o_move rfl) ?_
    refine d_val (fun _ => rfl) rfl rfl (fun _ => o_move rfl) ?_
    refine d_val (fun _ => rfl) rfl rfl (fun _ => o_addi rfl rfl ?_) ?_
    · omega
    refine d_val (fun _ => rfl) rfl rfl (fun _ => o_move rfl) ?_
    refine d_val (fun _ => rfl) rfl rfl (fun _ => o_move rfl) ?_
    refine d_val (fun _ => rfl) rfl rfl (fun _ => o_move rfl) ?_
    refine d_val (fun _ => rfl) rfl rfl (fun _ => o_addi rfl rfl ?_) ?_
    · omega
    refine d_val (fun _ => rfl) rfl rfl (fun _ => o_move rfl) ?_
    refine d_val (fun _ => rfl) rfl rfl (fun _ => o_move rfl) ?_
    refine d_val (fun _ => rfl) rfl rfl (fun _ => o_move rfl) ?_
    refine d_val (fun _ => rfl) rfl rfl (fun _ => o_addi rfl rfl ?_) ?_
    · omega
    refine d_val (fun _ => rfl) rfl rfl (fun _ => o_idx (b + i) rfl hV rfl (by first | rfl | omega) (by omega)) ?_
    refine d_val (fun _ => rfl) rfl rfl (fun _ => o_loadRE (c' := [_, _, _, _, _, _, _]) rfl (row_own (key := 1000) rfl) (el_flat eE_len dE cur (b + i) (by omega)) rfl) ?_
    refine d_val (fun _ => rfl) rfl rfl (fun _ => o_move rfl) ?_
    refine d_val (fun _ => rfl) rfl rfl (fun _ => o_move rfl) ?_
    refine d_val (fun _ => rfl) rfl rfl (fun _ => o_move rfl) ?_
    refine d_val (fun _ => rfl) rfl rfl (fun _ => o_addi rfl rfl ?_) ?_
    · omega
    refine d_val (fun _ => rfl) rfl rfl (fun _ => o_idx (a + i) rfl hV rfl (by first | rfl | omega) (by omega)) ?_
    refine d_val (fun _ => rfl) rfl rfl (fun _ => o_loadRE (c' := [_, _, _, _, _, _, _]) rfl (row_own (key := 1000) rfl) (el_flat eE_len dE cur (a + i) (by omega)) rfl) ?_
    refine d_val (fun _ => rfl) rfl rfl (fun _ => o_idx (a + i) rfl hV rfl (by first | rfl | omega) (by omega)) ?_
    refine d_store (fun _ => rfl) rfl rfl (fun _ => o_storeRE (key := 1000) (c := [_, _, _, _, _, _, _]) (by decide) rfl rfl rfl rfl rfl rfl (by omega)) ?_
    refine d_val (fun _ => rfl) rfl rfl (fun _ => o_idx (b + i) rfl hV rfl (by first | rfl | omega) (by omega)) ?_
    refine d_store (fun _ => rfl) rfl rfl (fun _ => o_storeRE (key := 1000) (c := [_, _, _, _, _, _, _]) (by decide) rfl rfl rfl rfl rfl rfl (by omega)) ?_
    refine d_nil (fun σ => ?_)
    refine l_nil ?_
    refine kb_norm ?_
    refine kt_norm ?_
    refine v_sel [10, 0, 1, 2, 3] [1000] rfl rfl ?_
    refine v_region ?_
    refine l_val rfl (o_move rfl) ?_
    refine l_val rfl (o_addi rfl rfl ?_) ?_
    · omega
    refine l_val rfl (o_assign rfl) ?_
    refine l_nil ?_
    refine kt_norm ?_
    refine ⟨(i + 1, swapE cur (a + i) (b + i)), ⟨by omega, hS.step (by omega) (by omega)⟩, (by show n - (i + 1) < n - i; omega), le_app (And.intro rfl (True.intro)) [0, 1, 2, 3] rfl (And.intro (congrArg some (own_congr rfl (flat_swap (by omega) (by omega)))) (True.intro)) [] rfl⟩
  · skip
    refine l_nil ?_
    refine kt_norm ?_
    refine v_condF rfl ?_
    refine v_exit ?_
    refine kt_exit ?_
    refine kt_exit ?_
    refine kb_eq ?_
    refine ⟨[], ResAll.nil, ?_⟩
    exact ⟨cur, (show i = n by omega) ▸ hS, rfl⟩
theorem a_Rotate (w : World) (v : Value) (l : List EdgeT) (a m b : Nat) (hl : l.length ≤ 1099511627776) (ham : a < m) (hmb : m < b) (hb : b ≤ l.length) (hok : (Hp.own v 68 7 l.length (l.flatMap eE)).ok w) : Calls Try.prog 88 #[v, .int .i64 ((a : Nat) : Int), .int .i64 ((m : Nat) : Int), .int .i64 ((b : Nat) : Int), .func (.func 49) #[] #[]] w fun e w' => (∃ y, e = .returned y) ∧ ∃ l', RotQ l a m b l' ∧ Chg (fun b => v.ownBlock = some b) w w' ∧ (Hp.own v 68 7 l.length (l'.flatMap eE)).ok w' := by
  have hV := rowV_own hok
  refine calls_mutX (args := [v, .int .i64 ((a : Nat) : Int), .int .i64 ((m : Nat) : Int), .int .i64 ((b : Nat) : Int), .func (.func 49) #[] #[]]) v (fun l' => RotQ l a m b l') (fun l' => l'.flatMap eE) Try.func88 rfl Try.ntmps88 Try.results88 rfl hok ?_
  refine v_seq ?_
  refine v_region ?_
  refine l_val rfl (o_move rfl) ?_
  refine l_val rfl (o_move rfl) ?_
  refine l_val rfl (o_subi rfl rfl ?_) ?_
  · omega
  refine l_val rfl (o_assign rfl) ?_
  refine l_nil ?_
  refine kt_norm ?_
  refine v_seq ?_
  refine v_region ?_
  refine l_val rfl (o_move rfl) ?_
  refine l_val rfl (o_move rfl) ?_
  refine l_val rfl (o_subi rfl rfl ?_) ?_
  · omega
  refine l_val rfl (o_assign rfl) ?_
  refine l_nil ?_
  refine kt_norm ?_
  refine v_sel [0, 2, 4, 10, 11] [1000] rfl rfl ?_
  refine v_seq ?_
  refine v_block ?_
  refine v_loopS (α := Nat × Nat × List EdgeT) (fun ⟨i, j, cur⟩ => [(10, .int .i64 (i : Int)), (11, .int .i64 (j : Int))]) (fun ⟨i, j, cur⟩ => [(1000, Hp.own v 68 7 l.length (cur.flatMap eE))])  (fun ⟨i, j, cur⟩ => 1 ≤ i ∧ 1 ≤ j ∧ i ≤ m ∧ a + i ≤ m ∧ m + j ≤ b ∧ cur.length = l.length ∧ ∀ q, RotF cur (m - i) m (m + j) q = RotF l a m b q) (fun ⟨i, j, cur⟩ => i + j) (m - a, b - m, l) [0, 2, 4] [] ⟨by omega, by omega, by omega, by omega, by omega, rfl, fun q => by rw [show m - (m - a) = a by omega, show m + (b - m) = b by omega]⟩  (And.intro (congrArg (fun q => some (Value.int .i64 q)) (by omega)) (And.intro (congrArg (fun q => some (Value.int .i64 q)) (by omega)) (True.intro))) rfl (And.intro rfl (True.intro)) rfl ?_
  rintro ⟨i, j, cur⟩ ⟨hi, hj, him, hai, hmj, hcl, hR⟩
  refine v_seq ?_
  refine v_seq ?_
  refine v_region ?_
  refine l_val rfl (o_move rfl) ?_
  refine l_val rfl (o_move rfl) ?_
  refine l_split rfl (o_neq rfl rfl) (fun q1 => ?_) (fun q1 => ?_)
  · skip
    refine l_nil ?_
    refine kt_norm ?_
    refine v_condT rfl ?_
    refine v_skip ?_
    refine kt_norm ?_
    refine v_block ?_
    refine v_seq ?_
    refine v_region ?_
    refine l_val rfl (o_move rfl) ?_
    refine l_val rfl (o_move rfl) ?_
    refine l_split rfl (o_gtr rfl rfl) (fun q2 => ?_) (fun q2 => ?_)
    · skip
      refine l_nil ?_
      refine kt_norm ?_
      refine v_condT rfl ?_
      refine v_seq ?_
      refine v_region ?_
      refine l_val rfl (o_move rfl) ?_
      refine l_val rfl (o_move rfl) ?_
      refine l_val rfl (o_move rfl) ?_
      refine l_val rfl (o_subi rfl rfl ?_) ?_
      · omega
      refine l_val rfl (o_move rfl) ?_
      refine l_val rfl (o_move rfl) ?_
      refine l_val rfl (o_move rfl) ?_
      refine l_gmutX (ks := []) 1000 (fun l2 => SwR cur l2 (m - i) (m) (j)) (fun l2 => l2.flatMap eE) (n := l.length) (caps := #[]) (vs := [_, _, _, _, _]) rfl rfl (ent_of Try.func107 rfl rfl) rfl rfl (fun w' hg hh hok2 => ?_) (fun l2 y2 hS2 => ?_)
      · have hok3 : (Hp.own v 68 7 cur.length (cur.flatMap eE)).ok w' := by rw [hcl]; exact hok2
        have hres := a_SwapR w' v cur (m - i) (m) (j) (by omega) (by omega) (by omega) hok3
        rw [hcl] at hres
        have e0 : ((m - i : Nat) : Int) = (m : Int) - (i : Int) := by omega
        rw [e0] at hres
        exact hres
      refine l_nil ?_
      refine kt_norm ?_
      refine v_sel [10, 11, 0, 2, 4] [1000] rfl rfl ?_
      refine v_region ?_
      refine l_val rfl (o_move rfl) ?_
      refine l_val rfl (o_move rfl) ?_
      refine l_val rfl (o_subi rfl rfl ?_) ?_
      · omega
      refine l_val rfl (o_assign rfl) ?_
      refine l_nil ?_
      refine kb_norm ?_
      refine kt_norm ?_
      refine ⟨(i - j, j, l2), ⟨by omega, hj, by omega, by omega, hmj, hS2.len.trans hcl, fun q => (RotF.big hS2 (by omega) (by omega) q).trans (hR q)⟩, (by show i - j + j < i + j; omega), le_app (And.intro (congrArg (fun q => some (Value.int .i64 q)) (by omega)) (And.intro rfl (True.intro))) [0, 2, 4] rfl (And.intro rfl (True.intro)) [] rfl⟩
    · skip
      refine l_nil ?_
      refine kt_norm ?_
      refine v_condF rfl ?_
      refine v_seq ?_
      refine v_region ?_
      refine l_val rfl (o_move rfl) ?_
      refine l_val rfl (o_move rfl) ?_
      refine l_val rfl (o_move rfl) ?_
      refine l_val rfl (o_subi rfl rfl ?_) ?_
      · omega
      refine l_val rfl (o_move rfl) ?_
      refine l_val rfl (o_move rfl) ?_
      refine l_val rfl (o_addi rfl rfl ?_) ?_
      · omega
      refine l_val rfl (o_move rfl) ?_
      refine l_val rfl (o_subi rfl rfl ?_) ?_
      · omega
      refine l_val rfl (o_move rfl) ?_
      refine l_val rfl (o_move rfl) ?_
      refine l_gmutX (ks := []) 1000 (fun l2 => SwR cur l2 (m - i) (m + j - i) (i)) (fun l2 => l2.flatMap eE) (n := l.length) (caps := #[]) (vs := [_, _, _, _, _]) rfl rfl (ent_of Try.func107 rfl rfl) rfl rfl (fun w' hg hh hok2 => ?_) (fun l2 y2 hS2 => ?_)
      · have hok3 : (Hp.own v 68 7 cur.length (cur.flatMap eE)).ok w' := by rw [hcl]; exact hok2
        have hres := a_SwapR w' v cur (m - i) (m + j - i) (i) (by omega) (by omega) (by omega) hok3
        rw [hcl] at hres
        have e0 : ((m - i : Nat) : Int) = (m : Int) - (i : Int) := by omega
        rw [e0] at hres
        have e1 : ((m + j - i : Nat) : Int) = (m : Int) + (j : Int) - (i : Int) := by omega
        rw [e1] at hres
        exact hres
      refine l_nil ?_
      refine kt_norm ?_
      refine v_sel [10, 11, 0, 2, 4] [1000] rfl rfl ?_
      refine v_region ?_
      refine l_val rfl (o_move rfl) ?_
      refine l_val rfl (o_move rfl) ?_
      refine l_val rfl (o_subi rfl rfl ?_) ?_
      · omega
      refine l_val rfl (o_assign rfl) ?_
      refine l_nil ?_
      refine kb_norm ?_
      refine kt_norm ?_
      refine ⟨(i, j - i, l2), ⟨hi, by omega, him, hai, by omega, hS2.len.trans hcl, fun q => (RotF.small hS2 (by omega) (by omega) q).trans (hR q)⟩, (by show i + (j - i) < i + j; omega), le_app (And.intro rfl (And.intro (congrArg (fun q => some (Value.int .i64 q)) (by omega)) (True.intro))) [0, 2, 4] rfl (And.intro rfl (True.intro)) [] rfl⟩
  · skip
    refine l_nil ?_
    refine kt_norm ?_
    refine v_condF rfl ?_
    refine v_exit ?_
    refine kt_exit ?_
    refine kt_exit ?_
    refine kb_eq ?_
    refine kt_norm ?_
    refine v_region ?_
    obtain rfl : i = j := by omega
    refine l_val rfl (o_move rfl) ?_
    refine l_val rfl (o_move rfl) ?_
    refine l_val rfl (o_move rfl) ?_
    refine l_val rfl (o_subi rfl rfl ?_) ?_
    · omega
    refine l_val rfl (o_move rfl) ?_
    refine l_val rfl (o_move rfl) ?_
    refine l_val rfl (o_move rfl) ?_
    refine l_gmutX (ks := []) 1000 (fun l2 => SwR cur l2 (m - i) (m) (i)) (fun l2 => l2.flatMap eE) (n := l.length) (caps := #[]) (vs := [_, _, _, _, _]) rfl rfl (ent_of Try.func107 rfl rfl) rfl rfl (fun w' hg hh hok2 => ?_) (fun l2 y2 hS2 => ?_)
    · have hok3 : (Hp.own v 68 7 cur.length (cur.flatMap eE)).ok w' := by rw [hcl]; exact hok2
      have hres := a_SwapR w' v cur (m - i) (m) (i) (by omega) (by omega) (by omega) hok3
      rw [hcl] at hres
      have e0 : ((m - i : Nat) : Int) = (m : Int) - (i : Int) := by omega
      rw [e0] at hres
      exact hres
    refine l_nil ?_
    refine ⟨[], ResAll.nil, ?_⟩
    exact ⟨l2, ⟨hS2.len.trans hcl, fun q => (RotF.last hS2 (by omega) q).trans (hR q)⟩, rfl⟩
end Go.Proofs.Ytllhohbenniaaaa

/- A merge of two sorted stretches, in place. Conditions: none. -/
namespace Go.Proofs.Ytllhohbenniaaaa
open Go.Proofs Go.RowKit Go.Shelf

/-! ### one element goes to its place -/
theorem swapE_comm {l : List EdgeT} {i j : Nat} (hi : i < l.length) (hj : j < l.length) : swapE l i j = swapE l j i := by
  refine ext_getD (by simp [swapE]) fun q _ => ?_
  rw [swapE_getD hi hj, swapE_getD hj hi]
  by_cases h1 : q = j
  · by_cases h2 : q = i
    · subst h1; subst h2; rfl
    · rw [if_pos h1, if_neg h2, if_pos h1]
  · rw [if_neg h1, if_neg h1]
/-- the a-th element has gone to place k -/
structure InsL (l : List EdgeT) (a k : Nat) (l' : List EdgeT) : Prop where
  len : l'.length = l.length
  get : ∀ q, l'.getD q dE = if a ≤ q ∧ q < k then l.getD (q + 1) dE else if q = k then l.getD a dE else l.getD q dE
theorem InsL.start (l : List EdgeT) (a : Nat) : InsL l a a l := ⟨rfl, fun q => by
  rw [if_neg (by omega)]
  split
  · rename_i h; rw [h]
  · rfl⟩
theorem InsL.step {l l' : List EdgeT} {a k : Nat} (h : InsL l a k l') (ha : a ≤ k) (hk : k + 1 < l.length) : InsL l a (k + 1) (swapE l' k (k + 1)) := by
  have hl := h.len
  refine ⟨(swapE_len _ _ _).trans hl, fun q => ?_⟩
  rw [swapE_getD (by omega) (by omega), h.get, h.get, h.get]
  (repeat' split) <;> first | (exfalso; omega) | rfl | (congr 1; omega)
theorem InsL.mut {l l' : List EdgeT} {a b k : Nat} (h : InsL l a k l') (hM : Mut a b l l') (ha : a ≤ k) (hk : k + 1 < l.length) (hkb : k + 2 ≤ b) (hlt : (l.getD (k + 1) dE).fr < (l.getD a dE).fr) : Mut a b l (swapE l' k (k + 1)) := by
  have hl := h.len
  rw [swapE_comm (by omega) (by omega)]
  refine hM.trans (Mut.swap (by omega) ?_ ha hkb)
  rw [h.get, h.get, if_neg (by omega), if_pos rfl, if_neg (by omega), if_neg (by omega)]
  omega
theorem InsL.srt {l l' : List EdgeT} {a b i : Nat} (h : InsL l a (i - 1) l') (ha : a + 1 ≤ i) (hib : i ≤ b) (hs : SrtOn l (a + 1) b) (h1 : ∀ q, a + 1 ≤ q → q < i → (l.getD q dE).fr < (l.getD a dE).fr) (h2 : ∀ q, i ≤ q → q < b → (l.getD a dE).fr ≤ (l.getD q dE).fr) : SrtOn l' a b := fun p q hp hq hb => by
  rw [h.get, h.get]
  by_cases hp1 : a ≤ p ∧ p < i - 1
  · rw [if_pos hp1]
    by_cases hq1 : a ≤ q ∧ q < i - 1
    · rw [if_pos hq1]; exact hs _ _ (by omega) (by omega) (by omega)
    · rw [if_neg hq1]
      by_cases hq2 : q = i - 1
      · rw [if_pos hq2]; have := h1 (p + 1) (by omega) (by omega); omega
      · rw [if_neg hq2]
        have := h1 (p + 1) (by omega) (by omega); have := h2 q (by omega) hb; omega
  · rw [if_neg hp1]
    rw [if_neg (show ¬ (a ≤ q ∧ q < i - 1) by omega), if_neg (show ¬ q = i - 1 by omega)]
    by_cases hp2 : p = i - 1
    · rw [if_pos hp2]; exact h2 q (by omega) hb
    · rw [if_neg hp2]; exact hs p q (by omega) hq hb
/-- the m-th element has gone back to place k -/
structure InsB (l : List EdgeT) (m k : Nat) (l' : List EdgeT) : Prop where
  len : l'.length = l.length
  get : ∀ q, l'.getD q dE = if k < q ∧ q ≤ m then l.getD (q - 1) dE else if q = k then l.getD m dE else l.getD q dE
theorem InsB.start (l : List EdgeT) (m : Nat) : InsB l m m l := ⟨rfl, fun q => by
  rw [if_neg (by omega)]
  split
  · rename_i h; rw [h]
  · rfl⟩
theorem InsB.step {l l' : List EdgeT} {m k : Nat} (h : InsB l m k l') (hk : k ≤ m) (h0 : 0 < k) (hm : m < l.length) : InsB l m (k - 1) (swapE l' k (k - 1)) := by
  have hl := h.len
  refine ⟨(swapE_len _ _ _).trans hl, fun q => ?_⟩
  rw [swapE_getD (by omega) (by omega), h.get, h.get, h.get]
  (repeat' split) <;> first | (exfalso; omega) | rfl | (congr 1; omega)
theorem InsB.mut {l l' : List EdgeT} {a b m k : Nat} (h : InsB l m k l') (hM : Mut a b l l') (hk : k ≤ m) (h0 : a < k) (hm : m < l.length) (hmb : m < b) (hlt : (l.getD m dE).fr < (l.getD (k - 1) dE).fr) : Mut a b l (swapE l' k (k - 1)) := by
  have hl := h.len
  have := Mut.swap (l := l') (j := k - 1) (by omega) (by
    rw [show k - 1 + 1 = k by omega, h.get, h.get, if_neg (by omega), if_neg (by omega), if_neg (by omega), if_pos rfl]
    omega) (a := a) (b := b) (by omega) (by omega)
  rw [show k - 1 + 1 = k by omega] at this
  exact hM.trans this
theorem InsB.srt {l l' : List EdgeT} {a b m i : Nat} (h : InsB l m i l') (hi : a ≤ i) (him : i ≤ m) (hb : b = m + 1) (hs : SrtOn l a m) (h1 : ∀ q, a ≤ q → q < i → (l.getD q dE).fr ≤ (l.getD m dE).fr) (h2 : ∀ q, i ≤ q → q < m → (l.getD m dE).fr < (l.getD q dE).fr) : SrtOn l' a b := fun p q hp hq hqb => by
  rw [h.get, h.get]
  by_cases hq1 : i < q ∧ q ≤ m
  · rw [if_pos hq1]
    by_cases hp1 : i < p ∧ p ≤ m
    · rw [if_pos hp1]; exact hs _ _ (by omega) (by omega) (by omega)
    · rw [if_neg hp1]
      by_cases hp2 : p = i
      · rw [if_pos hp2]; have := h2 (q - 1) (by omega) (by omega); omega
      · rw [if_neg hp2]
        have := h1 p hp (by omega); have := h2 (q - 1) (by omega) (by omega); omega
  · rw [if_neg hq1, if_neg (show ¬ (i < p ∧ p ≤ m) by omega), if_neg (show ¬ p = i by omega)]
    by_cases hq2 : q = i
    · rw [if_pos hq2]; exact h1 p hp (by omega)
    · rw [if_neg hq2]; exact hs p q hp hq (by omega)

/-! ### a merge, by halves -/
theorem cut3 {l : List EdgeT} {a b : Nat} (hab : a ≤ b) : l = l.take a ++ (l.take b).drop a ++ l.drop b := by
  have h1 : l.take a ++ (l.take b).drop a = l.take b := by
    have := List.take_append_drop a (l.take b)
    rwa [List.take_take, Nat.min_eq_left hab] at this
  rw [h1, List.take_append_drop]
theorem take_getD {l l' : List EdgeT} {a : Nat} (hl : l'.length = l.length) (h : ∀ i, i < a → l'.getD i dE = l.getD i dE) : l'.take a = l.take a := by
  refine ext_getD (by simp [hl]) fun i hi => ?_
  have hi' : i < a := by rw [List.length_take] at hi; omega
  have := h i hi'
  rw [List.getD_eq_getElem?_getD, List.getD_eq_getElem?_getD] at this ⊢
  rw [List.getElem?_take_of_lt hi', List.getElem?_take_of_lt hi']
  exact this
theorem drop_getD {l l' : List EdgeT} {b : Nat} (hl : l'.length = l.length) (h : ∀ i, b ≤ i → l'.getD i dE = l.getD i dE) : l'.drop b = l.drop b := by
  refine ext_getD (by simp [hl]) fun i hi => ?_
  have := h (b + i) (by omega)
  rw [List.getD_eq_getElem?_getD, List.getD_eq_getElem?_getD] at this ⊢
  rw [List.getElem?_drop, List.getElem?_drop]
  exact this
theorem seg_get {l : List EdgeT} {a b i : Nat} (hi : a + i < b) : ((l.take b).drop a)[i]? = l[a + i]? := by
  rw [List.getElem?_drop, List.getElem?_take_of_lt hi]
/-- what stands there now stood there ahead -/
theorem Mut.src {a b : Nat} {l l' : List EdgeT} (h : Mut a b l l') (hab : a ≤ b) (hb : b ≤ l.length) {q : Nat} (hq : a ≤ q) (hqb : q < b) : ∃ p, a ≤ p ∧ p < b ∧ l'.getD q dE = l.getD p dE := by
  have hl := h.st.len
  have hs : StEq ((l.take b).drop a) ((l'.take b).drop a) := by
    refine StEq.seg (A := l.take a) (B := l.drop b) ?_
    rw [← cut3 hab, ← take_getD hl fun i hi => h.out i (.inl hi), ← drop_getD hl fun i hi => h.out i (.inr hi), ← cut3 hab]
    exact h.st
  have hm : l'.getD q dE ∈ (l'.take b).drop a := by
    refine List.mem_iff_getElem?.2 ⟨q - a, ?_⟩
    rw [seg_get (by omega), show a + (q - a) = q by omega, List.getD_eq_getElem?_getD, List.getElem?_eq_getElem (by omega)]; rfl
  obtain ⟨i, hi⟩ := List.mem_iff_getElem?.1 (hs.mem hm)
  have hib : a + i < b := by
    have := (List.getElem?_eq_some_iff.1 hi).1
    simp at this; omega
  rw [seg_get hib] at hi
  exact ⟨a + i, by omega, hib, by rw [List.getD_eq_getElem?_getD, List.getD_eq_getElem?_getD] at *; rw [hi]; simp⟩
theorem RotQ.mut {l l' : List EdgeT} {s m e a b : Nat} (h : RotQ l s m e l') (hs : s ≤ m) (hm : m ≤ e) (he : e ≤ l.length) (ha : a ≤ s) (hb : e ≤ b) (hlt : ∀ p q, s ≤ p → p < m → m ≤ q → q < e → (l.getD q dE).fr < (l.getD p dE).fr) : Mut a b l l' := by
  refine ⟨?_, fun i hi => by rw [h.get]; unfold RotF; rw [if_neg (by omega), if_neg (by omega)]⟩
  have hl := h.len
  have e1 : l = l.take s ++ ((l.take m).drop s ++ (l.take e).drop m) ++ l.drop e := by
    have h1 := cut3 (l := l.take e) (a := s) (b := m) hs
    rw [List.take_take, List.take_take, Nat.min_eq_left (by omega), Nat.min_eq_left hm] at h1
    rw [← List.append_assoc, ← h1, List.take_append_drop]
  have e2 : l' = l.take s ++ ((l.take e).drop m ++ (l.take m).drop s) ++ l.drop e := by
    refine ext_getD (by simp; omega) fun i hi => ?_
    have l1 : (l.take s).length = s := by rw [List.length_take]; omega
    have l2 : ((l.take e).drop m).length = e - m := by simp; omega
    have l3 : ((l.take m).drop s).length = m - s := by simp; omega
    have hil : i < l.length := by simp at hi; omega
    rw [h.get]
    unfold RotF
    simp only [List.getD_eq_getElem?_getD, List.append_assoc]
    by_cases c1 : i < s
    · rw [if_neg (by omega), if_neg (by omega), List.getElem?_append_left (by omega), List.getElem?_take_of_lt c1]
    · rw [List.getElem?_append_right (by omega), l1]
      by_cases c2 : i < s + (e - m)
      · rw [if_pos (by omega), List.getElem?_append_left (by omega), seg_get (by omega)]
        congr 2; omega
      · rw [if_neg (by omega), List.getElem?_append_right (by omega), l2]
        by_cases c3 : i < e
        · rw [if_pos (by omega), List.getElem?_append_left (by omega), seg_get (by omega)]
          congr 2; omega
        · rw [if_neg (by omega), List.getElem?_append_right (by omega), l3, List.getElem?_drop]
          congr 2; omega
  rw [e2]
  conv => lhs; rw [e1]
  refine StEq.rot _ _ fun x hx y hy => ?_
  obtain ⟨i, hi⟩ := List.mem_iff_getElem?.1 hx
  obtain ⟨j, hj⟩ := List.mem_iff_getElem?.1 hy
  have hi1 := (List.getElem?_eq_some_iff.1 hi).1
  have hj1 := (List.getElem?_eq_some_iff.1 hj).1
  simp at hi1 hj1
  rw [seg_get (by omega)] at hi
  rw [seg_get (by omega)] at hj
  have := hlt (s + i) (m + j) (by omega) (by omega) (by omega) (by omega)
  rw [List.getD_eq_getElem?_getD, List.getD_eq_getElem?_getD, hi, hj] at this
  simp at this
  omega
theorem RotQ.id {l : List EdgeT} {s m e : Nat} (h : ¬ (s < m ∧ m < e)) (hs : s ≤ m) (hm : m ≤ e) : RotQ l s m e l := ⟨rfl, fun q => by
  unfold RotF
  (repeat' split) <;> first | (congr 1; omega) | rfl | (exfalso; omega)⟩
theorem RotQ.lo {l l1 : List EdgeT} {s m e : Nat} (h : RotQ l s m e l1) {q : Nat} (hq : q < s) : l1.getD q dE = l.getD q dE := by
  rw [h.get]; unfold RotF; rw [if_neg (by omega), if_neg (by omega)]
theorem RotQ.hi {l l1 : List EdgeT} {s m e : Nat} (h : RotQ l s m e l1) (hs : s ≤ m) (hm : m ≤ e) {q : Nat} (hq : e ≤ q) : l1.getD q dE = l.getD q dE := by
  rw [h.get]; unfold RotF; rw [if_neg (by omega), if_neg (by omega)]
theorem RotQ.m1 {l l1 : List EdgeT} {s m e : Nat} (h : RotQ l s m e l1) {q : Nat} (hs : s ≤ m) (hq : s ≤ q) (hq2 : q < s + (e - m)) : l1.getD q dE = l.getD (q + (m - s)) dE := by
  rw [h.get]; unfold RotF; rw [if_pos (by omega)]
theorem RotQ.m2 {l l1 : List EdgeT} {s m e : Nat} (h : RotQ l s m e l1) {q : Nat} (hq : s + (e - m) ≤ q) (hq2 : q < e) : l1.getD q dE = l.getD (q - (e - m)) dE := by
  rw [h.get]; unfold RotF; rw [if_neg (by omega), if_pos (by omega)]
/-- the search has ended: s from the left one, e from the right one -/
structure CutQ (l : List EdgeT) (a m b s e mid : Nat) : Prop where
  as_ : a ≤ s
  sm : s ≤ m
  me : m ≤ e
  eb : e ≤ b
  bl : b ≤ l.length
  sum : s + (e - m) = mid
  s1 : SrtOn l a m
  s2 : SrtOn l m b
  h1 : ∀ p q, a ≤ p → p < s → e ≤ q → q < b → (l.getD p dE).fr ≤ (l.getD q dE).fr
  h2 : ∀ p q, s ≤ p → p < m → m ≤ q → q < e → (l.getD q dE).fr < (l.getD p dE).fr
theorem CutQ.rot {l l1 : List EdgeT} {a m b s e mid : Nat} (c : CutQ l a m b s e mid) (h : RotQ l s m e l1) : Mut a b l l1 := h.mut c.sm c.me (by have := c.eb; have := c.bl; omega) c.as_ c.eb c.h2
theorem CutQ.p1 {l l1 : List EdgeT} {a m b s e mid : Nat} (c : CutQ l a m b s e mid) (h : RotQ l s m e l1) : SrtOn l1 a s := fun p q hp hq hs => by
  rw [h.lo (by omega), h.lo hs]; exact c.s1 p q hp hq (by have := c.sm; omega)
theorem CutQ.p2 {l l1 : List EdgeT} {a m b s e mid : Nat} (c : CutQ l a m b s e mid) (h : RotQ l s m e l1) : SrtOn l1 s mid := fun p q hp hq hs => by
  have := c.sum; have := c.sm; have := c.me; have := c.eb
  rw [h.m1 c.sm hp (by omega), h.m1 c.sm (by omega) (by omega)]; exact c.s2 _ _ (by omega) (by omega) (by omega)
theorem CutQ.p3 {l l1 : List EdgeT} {a m b s e mid : Nat} (c : CutQ l a m b s e mid) (h : RotQ l s m e l1) : SrtOn l1 mid e := fun p q hp hq hs => by
  have := c.sum; have := c.sm; have := c.me; have := c.as_
  rw [h.m2 (by omega) (by omega), h.m2 (by omega) hs]; exact c.s1 _ _ (by omega) (by omega) (by omega)
theorem CutQ.p4 {l l1 : List EdgeT} {a m b s e mid : Nat} (c : CutQ l a m b s e mid) (h : RotQ l s m e l1) : SrtOn l1 e b := fun p q hp hq hs => by
  have := c.me
  rw [h.hi c.sm c.me hp, h.hi c.sm c.me (by omega)]; exact c.s2 _ _ (by omega) hq hs
theorem CutQ.cross {l l1 : List EdgeT} {a m b s e mid : Nat} (c : CutQ l a m b s e mid) (h : RotQ l s m e l1) {p q : Nat} (hp : a ≤ p) (hpm : p < mid) (hq : mid ≤ q) (hqb : q < b) : (l1.getD p dE).fr ≤ (l1.getD q dE).fr := by
  have := c.sum; have := c.sm; have := c.me; have := c.eb; have := c.as_
  by_cases c1 : p < s
  · rw [h.lo c1]
    by_cases c2 : q < e
    · rw [h.m2 (by omega) c2]; exact c.s1 _ _ hp (by omega) (by omega)
    · rw [h.hi c.sm c.me (by omega)]; exact c.h1 _ _ hp c1 (by omega) hqb
  · rw [h.m1 c.sm (by omega) (by omega)]
    by_cases c2 : q < e
    · rw [h.m2 (by omega) c2]; exact Int.le_of_lt (c.h2 _ _ (by omega) (by omega) (by omega) (by omega))
    · rw [h.hi c.sm c.me (by omega)]; exact c.s2 _ _ (by omega) (by omega) hqb
theorem CutQ.done {l l1 l2 l3 : List EdgeT} {a m b s e mid : Nat} (c : CutQ l a m b s e mid) (h : RotQ l s m e l1) (h2 : SrtQ l1 a mid l2) (h3 : SrtQ l2 mid b l3) : SrtQ l a b l3 := by
  have := c.sum; have := c.sm; have := c.me; have := c.eb; have := c.as_; have := c.bl
  have hl1 := h.len
  have hl2 := h2.mut_.st.len
  refine ⟨(c.rot h).trans ((h2.mut_.wide (Nat.le_refl _) (by omega)).trans (h3.mut_.wide (by omega) (Nat.le_refl _))), fun p q hp hq hb => ?_⟩
  by_cases c1 : mid ≤ p
  · exact h3.srt p q c1 hq hb
  · rw [h3.mut_.out p (.inl (by omega))]
    by_cases c2 : q < mid
    · rw [h3.mut_.out q (.inl c2)]; exact h2.srt p q hp hq c2
    · obtain ⟨x, hx1, hx2, hx⟩ := h2.mut_.src (by omega) (by omega) hp (show p < mid by omega)
      obtain ⟨y, hy1, hy2, hy⟩ := h3.mut_.src (by omega) (by omega) (show mid ≤ q by omega) hb
      rw [hx, hy, h2.mut_.out y (.inr hy1)]
      exact c.cross h hx1 hx2 hy1 hy2
/-- the first half, where there is nothing to merge -/
theorem SrtQ.same {l : List EdgeT} {a b m : Nat} (h1 : SrtOn l a m) (h2 : SrtOn l m b) (h : ¬ (a < m ∧ m < b)) : SrtQ l a b l := ⟨Mut.refl _ _ _, fun p q hp hq hb => by
  by_cases c : q < m
  · exact h1 p q hp hq c
  · exact h2 p q (by omega) hq hb⟩
theorem cut_of {l : List EdgeT} {a m b s lo hi mid : Nat} (ham : a < m) (hmb : m < b) (hbl : b ≤ l.length) (hmid : mid = (a + b) / 2) (hlh : (mid < m ∧ lo = mid + m - b ∧ hi = mid) ∨ (m ≤ mid ∧ lo = a ∧ hi = m)) (h1 : lo ≤ s) (h2 : s ≤ hi) (hs1 : SrtOn l a m) (hs2 : SrtOn l m b)
    (hA : ∀ c, lo ≤ c → c < s → (l.getD c dE).fr ≤ (l.getD (mid + m - 1 - c) dE).fr) (hB : ∀ c, s ≤ c → c < hi → (l.getD (mid + m - 1 - c) dE).fr < (l.getD c dE).fr) : CutQ l a m b s (mid + m - s) mid := by
  refine ⟨by omega, by omega, by omega, by omega, hbl, by omega, hs1, hs2, fun p q hp hps hq hqb => ?_, fun p q hp hpm hq hqe => ?_⟩
  · have h3 := hA (s - 1) (by omega) (by omega)
    rw [show mid + m - 1 - (s - 1) = mid + m - s by omega] at h3
    have h4 : (l.getD p dE).fr ≤ (l.getD (s - 1) dE).fr := by
      by_cases c : p = s - 1
      · rw [c]; exact Int.le_refl _
      · exact hs1 p (s - 1) hp (by omega) (by omega)
    have h5 : (l.getD (mid + m - s) dE).fr ≤ (l.getD q dE).fr := by
      by_cases c : q = mid + m - s
      · rw [c]; exact Int.le_refl _
      · exact hs2 _ q (by omega) (by omega) hqb
    omega
  · have h3 := hB s (Nat.le_refl _) (by omega)
    have h4 : (l.getD s dE).fr ≤ (l.getD p dE).fr := by
      by_cases c : p = s
      · rw [c]; exact Int.le_refl _
      · exact hs1 s p (by omega) (by omega) hpm
    have h5 : (l.getD q dE).fr ≤ (l.getD (mid + m - 1 - s) dE).fr := by
      by_cases c : q = mid + m - 1 - s
      · rw [c]; exact Int.le_refl _
      · exact hs2 q _ hq (by omega) (by omega)
    omega

set_option maxHeartbeats 2000000 in
theorem a_SymStep (w : World) (v : Value) (l : List EdgeT) (a m b : Nat) (ih : ∀ (w : World) (v : Value) (l : List EdgeT) (a' m' b' : Nat), b' - a' < b - a → l.length ≤ 1099511627776 → a' < m' → m' < b' → b' ≤ l.length → (Hp.own v 68 7 l.length (l.flatMap eE)).ok w → (∀ e ∈ l, FrOk e) → SrtOn l a' m' → SrtOn l m' b' → Calls Try.prog 79 #[v, .int .i64 ((a' : Nat) : Int), .int .i64 ((m' : Nat) : Int), .int .i64 ((b' : Nat) : Int), .func (.func 49) #[] #[]] w fun e w' => (∃ y, e = .returned y) ∧ ∃ l', SrtQ l a' b' l' ∧ Chg (fun b => v.ownBlock = some b) w w' ∧ (Hp.own v 68 7 l.length (l'.flatMap eE)).ok w') (hl : l.length ≤ 1099511627776) (ham : a < m) (hmb : m < b) (hb : b ≤ l.length) (hok : (Hp.own v 68 7 l.length (l.flatMap eE)).ok w) (hfr : ∀ e ∈ l, FrOk e) (hs1 : SrtOn l a m) (hs2 : SrtOn l m b) : Calls Try.prog 79 #[v, .int .i64 ((a : Nat) : Int), .int .i64 ((m : Nat) : Int), .int .i64 ((b : Nat) : Int), .func (.func 49) #[] #[]] w fun e w' => (∃ y, e = .returned y) ∧ ∃ l', SrtQ l a b l' ∧ Chg (fun b => v.ownBlock = some b) w w' ∧ (Hp.own v 68 7 l.length (l'.flatMap eE)).ok w' := by
  have hV := rowV_own hok
  refine calls_mutX (args := [v, .int .i64 ((a : Nat) : Int), .int .i64 ((m : Nat) : Int), .int .i64 ((b : Nat) : Int), .func (.func 49) #[] #[]]) v (fun l' => SrtQ l a b l') (fun l' => l'.flatMap eE) Try.func79 rfl Try.ntmps79 Try.results79 rfl hok ?_
  refine v_seq ?_
  refine v_seq ?_
  refine v_region ?_
  refine l_val rfl (o_move rfl) ?_
  refine l_val rfl (o_move rfl) ?_
  refine l_val rfl (o_subi rfl rfl ?_) ?_
  · omega
  refine l_split rfl (o_eql rfl rfl) (fun q1 => ?_) (fun q1 => ?_)
  · skip
    refine l_nil ?_
    refine kt_norm ?_
    refine v_condT rfl ?_
    refine v_seq ?_
    refine v_region ?_
    refine l_val rfl (o_move rfl) ?_
    refine l_val rfl (o_assign rfl) ?_
    refine l_nil ?_
    refine kt_norm ?_
    refine v_sel [0, 1, 3, 4, 10] [1000] rfl rfl ?_
    refine v_seq ?_
    refine v_region ?_
    refine l_val rfl (o_move rfl) ?_
    refine l_val rfl (o_assign rfl) ?_
    refine l_nil ?_
    refine kt_norm ?_
    refine v_seq ?_
    refine v_block ?_
    refine v_loopS (α := Nat × Nat) (fun ⟨i, j⟩ => [(10, .int .i64 (i : Int)), (11, .int .i64 (j : Int))]) (fun ⟨i, j⟩ => [])  (fun ⟨i, j⟩ => m ≤ i ∧ i ≤ j ∧ j ≤ b ∧ (∀ q, m ≤ q → q < i → (l.getD q dE).fr < (l.getD a dE).fr) ∧ (∀ q, j ≤ q → q < b → (l.getD a dE).fr ≤ (l.getD q dE).fr)) (fun ⟨i, j⟩ => j - i) (m, b) [0, 1, 4] [1000] ⟨Nat.le_refl _, by omega, Nat.le_refl _, fun q h1 h2 => by omega, fun q h1 h2 => by omega⟩  (And.intro rfl (And.intro rfl (True.intro))) rfl (True.intro) rfl ?_
    rintro ⟨i, j⟩ ⟨hmi, hij, hjb, hA, hB⟩
    refine v_seq ?_
    refine v_seq ?_
    refine v_region ?_
    refine l_val rfl (o_move rfl) ?_
    refine l_val rfl (o_move rfl) ?_
    refine l_split rfl (o_lss rfl rfl) (fun q2 => ?_) (fun q2 => ?_)
    · skip
      refine l_nil ?_
      refine kt_norm ?_
      refine v_condT rfl ?_
      refine v_skip ?_
      refine kt_norm ?_
      refine v_block ?_
      refine v_seq ?_
      refine v_region ?_
      refine l_val rfl (o_move rfl) ?_
      refine l_val rfl (o_move rfl) ?_
      refine l_val rfl (o_addi rfl rfl ?_) ?_
      · omega
      refine l_val rfl (o_convu rfl) ?_
      refine l_val rfl (o_shr (n := 1) (p := 2) rfl rfl (by decide) rfl (by decide)) ?_
      refine l_val rfl (o_convi rfl ?_) ?_
      · omega
      refine l_val rfl (o_assign rfl) ?_
      refine l_nil ?_
      refine kt_norm ?_
      refine v_sel [10, 11, 0, 1, 4, 12] [1000] rfl rfl ?_
      refine v_seq ?_
      refine v_drawZ [[], [], [], [], [1000], [], [], [], [1000], [], []] mixed ?_ (by kernel_rfl) (by kernel_rfl)
      refine d_val (fun _ => rfl) rfl rfl (fun _ => o_move rfl) ?_
      refine d_val (fun _ => rfl) rfl rfl (fun _ => o_move rfl) ?_
      refine d_val (fun _ => rfl) rfl rfl (fun _ => o_move rfl) ?_
      refine d_val (fun _ => rfl) rfl rfl (fun _ => o_idx (((i + j) / 2)) rfl hV rfl (by first | rfl | omega) (by omega)) ?_
      refine d_val (fun _ => rfl) rfl rfl (fun _ => o_loadRE (c' := [_, _, _, _, _, _, _]) rfl (row_own (key := 1000) rfl) (el_flat eE_len dE l (((i + j) / 2)) (by omega)) rfl) ?_
      refine d_val (fun _ => rfl) rfl rfl (fun _ => o_move rfl) ?_
      refine d_val (fun _ => rfl) rfl rfl (fun _ => o_move rfl) ?_
      refine d_val (fun _ => rfl) rfl rfl (fun _ => o_idx (a) rfl hV rfl (by first | rfl | omega) (by omega)) ?_
      refine d_val (fun _ => rfl) rfl rfl (fun _ => o_loadRE (c' := [_, _, _, _, _, _, _]) rfl (row_own (key := 1000) rfl) (el_flat eE_len dE l (a) (by omega)) rfl) ?_
      refine d_ansv (vs := [_, _]) (fun _ => rfl) (fun _ => rfl) (fun _ => rfl) (a_CmpF (l.getD (((i + j) / 2)) dE) (l.getD (a) dE) (frOk_getD hfr (by omega)) (frOk_getD hfr (by omega))) ?_
      refine d_lss (fun _ => rfl) (fun _ => rfl) (fun _ => rfl) (fun q3 => ?_) (fun q3 => ?_)
      · skip
        refine d_nil (fun σ => ?_)
        refine l_nil ?_
        refine kt_norm ?_
        refine v_sel [10, 11, 0, 1, 4, 12, 50] [1000] rfl rfl ?_
        refine v_condT rfl ?_
        refine v_region ?_
        refine l_val rfl (o_move rfl) ?_
        refine l_val rfl (o_addi rfl rfl ?_) ?_
        · omega
        refine l_val rfl (o_assign rfl) ?_
        refine l_nil ?_
        refine kb_norm ?_
        refine kt_norm ?_
        refine ⟨(((i + j) / 2) + 1, j), ⟨by omega, by omega, hjb, fun q h1 h2 => by (by_cases c : q < i); exact hA q h1 c; (by_cases c2 : q = (i + j) / 2); (rw [c2]; omega); (have := hs2 q ((i + j) / 2) (by omega) (by omega) (by omega)); omega, hB⟩, (by show j - ((i + j) / 2 + 1) < j - i; omega), le_app (And.intro (congrArg (fun q => some (Value.int .i64 q)) (by omega)) (And.intro rfl (True.intro))) [0, 1, 4] rfl (True.intro) [1000] rfl⟩
      · skip
        refine d_nil (fun σ => ?_)
        refine l_nil ?_
        refine kt_norm ?_
        refine v_sel [10, 11, 0, 1, 4, 12, 50] [1000] rfl rfl ?_
        refine v_condF rfl ?_
        refine v_region ?_
        refine l_val rfl (o_move rfl) ?_
        refine l_val rfl (o_assign rfl) ?_
        refine l_nil ?_
        refine kb_norm ?_
        refine kt_norm ?_
        refine ⟨(i, ((i + j) / 2)), ⟨hmi, by omega, by omega, hA, fun q h1 h2 => by (by_cases c2 : q = (i + j) / 2); (rw [c2]; omega); (have := hs2 ((i + j) / 2) q (by omega) (by omega) h2); omega⟩, (by show (i + j) / 2 - i < j - i; omega), le_app (And.intro rfl (And.intro (congrArg (fun q => some (Value.int .i64 q)) (by omega)) (True.intro))) [0, 1, 4] rfl (True.intro) [1000] rfl⟩
    · skip
      refine l_nil ?_
      refine kt_norm ?_
      refine v_condF rfl ?_
      refine v_exit ?_
      refine kt_exit ?_
      refine kt_exit ?_
      refine kb_eq ?_
      refine kt_norm ?_
      refine v_seq ?_
      refine v_seq ?_
      refine v_region ?_
      obtain rfl : i = j := by omega
      refine l_val rfl (o_move rfl) ?_
      refine l_val rfl (o_assign rfl) ?_
      refine l_nil ?_
      refine kt_norm ?_
      refine v_sel [10, 0, 13] [1000] rfl rfl ?_
      refine v_block ?_
      refine v_loopS (α := Nat × List EdgeT) (fun ⟨k, cur⟩ => [(13, .int .i64 (k : Int))]) (fun ⟨k, cur⟩ => [(1000, Hp.own v 68 7 l.length (cur.flatMap eE))])  (fun ⟨k, cur⟩ => a ≤ k ∧ k + 1 ≤ i ∧ InsL l a k cur ∧ Mut a b l cur) (fun ⟨k, cur⟩ => i - k) (a, l) [10, 0] [] ⟨Nat.le_refl _, by omega, InsL.start l a, Mut.refl a b l⟩  (And.intro rfl (True.intro)) rfl (And.intro rfl (True.intro)) rfl ?_
      rintro ⟨k, cur⟩ ⟨hak, hki, hI, hM⟩
      have hcl : cur.length = l.length := hI.len
      refine v_seq ?_
      refine v_seq ?_
      refine v_region ?_
      refine l_val rfl (o_move rfl) ?_
      refine l_val rfl (o_move rfl) ?_
      refine l_val rfl (o_subi rfl rfl ?_) ?_
      · omega
      refine l_split rfl (o_lss rfl rfl) (fun q4 => ?_) (fun q4 => ?_)
      · skip
        refine l_nil ?_
        refine kt_norm ?_
        refine v_condT rfl ?_
        refine v_skip ?_
        refine kt_norm ?_
        refine v_seq ?_
        refine v_block ?_
        refine v_drawZ [[], [], [], [], [], [], [], [], [], [1000], [], [], [], [1000], [], [1000], [], [1000]] mixed ?_ (by kernel_rfl) (by kernel_rfl)
        refine d_val (fun _ => rfl) rfl rfl (fun _ => o_move rfl) ?_
        refine d_val (fun _ => rfl) rfl rfl (fun _ => o_move rfl) ?_
        refine d_val (fun _ => rfl) rfl rfl (fun _ => o_move rfl) ?_
        refine d_val (fun _ => rfl) rfl rfl (fun _ => o_move rfl) ?_
        refine d_val (fun _ => rfl) rfl rfl (fun _ => o_addi rfl rfl ?_) ?_
        · omega
        refine d_val (fun _ => rfl) rfl rfl (fun _ => o_move rfl) ?_
        refine d_val (fun _ => rfl) rfl rfl (fun _ => o_move rfl) ?_
        refine d_val (fun _ => rfl) rfl rfl (fun _ => o_addi rfl rfl ?_) ?_
        · omega
        refine d_val (fun _ => rfl) rfl rfl (fun _ => o_idx (k + 1) rfl hV rfl (by first | rfl | omega) (by omega)) ?_
        refine d_val (fun _ => rfl) rfl rfl (fun _ => o_loadRE (c' := [_, _, _, _, _, _, _]) rfl (row_own (key := 1000) rfl) (el_flat eE_len dE cur (k + 1) (by omega)) rfl) ?_
        refine d_val (fun _ => rfl) rfl rfl (fun _ => o_move rfl) ?_
        refine d_val (fun _ => rfl) rfl rfl (fun _ => o_move rfl) ?_
        refine d_val (fun _ => rfl) rfl rfl (fun _ => o_idx (k) rfl hV rfl (by first | rfl | omega) (by omega)) ?_
        refine d_val (fun _ => rfl) rfl rfl (fun _ => o_loadRE (c' := [_, _, _, _, _, _, _]) rfl (row_own (key := 1000) rfl) (el_flat eE_len dE cur (k) (by omega)) rfl) ?_
        refine d_val (fun _ => rfl) rfl rfl (fun _ => o_idx (k) rfl hV rfl (by first | rfl | omega) (by omega)) ?_
        refine d_store (fun _ => rfl) rfl rfl (fun _ => o_storeRE (key := 1000) (c := [_, _, _, _, _, _, _]) (by decide) rfl rfl rfl rfl rfl rfl (by omega)) ?_
        refine d_val (fun _ => rfl) rfl rfl (fun _ => o_idx (k + 1) rfl hV rfl (by first | rfl | omega) (by omega)) ?_
        refine d_store (fun _ => rfl) rfl rfl (fun _ => o_storeRE (key := 1000) (c := [_, _, _, _, _, _, _]) (by decide) rfl rfl rfl rfl rfl rfl (by omega)) ?_
        refine d_nil (fun σ => ?_)
        refine l_nil ?_
        refine kb_norm ?_
        refine kt_norm ?_
        refine v_sel [13, 10, 0] [1000] rfl rfl ?_
        refine v_region ?_
        refine l_val rfl (o_move rfl) ?_
        refine l_val rfl (o_addi rfl rfl ?_) ?_
        · omega
        refine l_val rfl (o_assign rfl) ?_
        refine l_nil ?_
        refine kt_norm ?_
        refine ⟨(k + 1, swapE cur k (k + 1)), ⟨by omega, by omega, hI.step hak (by omega), hI.mut hM hak (by omega) (by omega) (hA (k + 1) (by omega) (by omega))⟩, (by show i - (k + 1) < i - k; omega), le_app (And.intro rfl (True.intro)) [10, 0] rfl (And.intro (congrArg some (own_congr rfl (flat_swap (by omega) (by omega)))) (True.intro)) [] rfl⟩
      · skip
        refine l_nil ?_
        refine kt_norm ?_
        refine v_condF rfl ?_
        refine v_exit ?_
        refine kt_exit ?_
        refine kt_exit ?_
        refine kb_eq ?_
        refine kt_norm ?_
        refine v_sel [] [1000] rfl rfl ?_
        refine v_ret ?_
        refine kt_ret ?_
        refine ⟨[], ResAll.nil, ?_⟩
        first
          | exact ⟨cur, ⟨hM, InsL.srt (show InsL l a (i - 1) cur from (show k = i - 1 by omega) ▸ hI) (by omega) hjb (fun p q h1 h2 h3 => hs2 p q (by omega) h2 h3) (fun q h1 h2 => hA q (by omega) h2) hB⟩, rfl⟩
          | exact ⟨cur, ⟨hM, InsB.srt (show InsB l m i cur from (show k = i by omega) ▸ hI) hmi hjb (by omega) hs1 hA hB⟩, rfl⟩
          | exact ⟨_, hC.done hR hM1 hM2, rfl⟩
          | exact ⟨_, hC.done hR hM1 (SrtQ.same hsa2 hsb2 (by omega)), rfl⟩
  · skip
    refine l_nil ?_
    refine kt_norm ?_
    refine v_condF rfl ?_
    refine v_skip ?_
    refine kt_norm ?_
    refine v_seq ?_
    refine v_seq ?_
    refine v_region ?_
    refine l_val rfl (o_move rfl) ?_
    refine l_val rfl (o_move rfl) ?_
    refine l_val rfl (o_subi rfl rfl ?_) ?_
    · omega
    refine l_split rfl (o_eql rfl rfl) (fun q5 => ?_) (fun q5 => ?_)
    · skip
      refine l_nil ?_
      refine kt_norm ?_
      refine v_sel [0, 1, 2, 3, 4, 80] [1000] rfl rfl ?_
      refine v_condT rfl ?_
      refine v_seq ?_
      refine v_region ?_
      refine l_val rfl (o_move rfl) ?_
      refine l_val rfl (o_assign rfl) ?_
      refine l_nil ?_
      refine kt_norm ?_
      refine v_seq ?_
      refine v_region ?_
      refine l_val rfl (o_move rfl) ?_
      refine l_val rfl (o_assign rfl) ?_
      refine l_nil ?_
      refine kt_norm ?_
      refine v_seq ?_
      refine v_block ?_
      refine v_loopS (α := Nat × Nat) (fun ⟨i, j⟩ => [(14, .int .i64 (i : Int)), (15, .int .i64 (j : Int))]) (fun ⟨i, j⟩ => [])  (fun ⟨i, j⟩ => a ≤ i ∧ i ≤ j ∧ j ≤ m ∧ (∀ q, a ≤ q → q < i → (l.getD q dE).fr ≤ (l.getD m dE).fr) ∧ (∀ q, j ≤ q → q < m → (l.getD m dE).fr < (l.getD q dE).fr)) (fun ⟨i, j⟩ => j - i) (a, m) [0, 2, 4] [1000] ⟨Nat.le_refl _, by omega, Nat.le_refl _, fun q h1 h2 => by omega, fun q h1 h2 => by omega⟩  (And.intro rfl (And.intro rfl (True.intro))) rfl (True.intro) rfl ?_
      rintro ⟨i, j⟩ ⟨hmi, hij, hjb, hA, hB⟩
      refine v_seq ?_
      refine v_seq ?_
      refine v_region ?_
      refine l_val rfl (o_move rfl) ?_
      refine l_val rfl (o_move rfl) ?_
      refine l_split rfl (o_lss rfl rfl) (fun q6 => ?_) (fun q6 => ?_)
      · skip
        refine l_nil ?_
        refine kt_norm ?_
        refine v_condT rfl ?_
        refine v_skip ?_
        refine kt_norm ?_
        refine v_block ?_
        refine v_seq ?_
        refine v_region ?_
        refine l_val rfl (o_move rfl) ?_
        refine l_val rfl (o_move rfl) ?_
        refine l_val rfl (o_addi rfl rfl ?_) ?_
        · omega
        refine l_val rfl (o_convu rfl) ?_
        refine l_val rfl (o_shr (n := 1) (p := 2) rfl rfl (by decide) rfl (by decide)) ?_
        refine l_val rfl (o_convi rfl ?_) ?_
        · omega
        refine l_val rfl (o_assign rfl) ?_
        refine l_nil ?_
        refine kt_norm ?_
        refine v_sel [14, 15, 0, 2, 4, 16] [1000] rfl rfl ?_
        refine v_seq ?_
        refine v_drawZ [[], [], [], [], [1000], [], [], [], [1000], [], [], []] mixed ?_ (by kernel_rfl) (by kernel_rfl)
        refine d_val (fun _ => rfl) rfl rfl (fun _ => o_move rfl) ?_
        refine d_val (fun _ => rfl) rfl rfl (fun _ => o_move rfl) ?_
        refine d_val (fun _ => rfl) rfl rfl (fun _ => o_move rfl) ?_
        refine d_val (fun _ => rfl) rfl rfl (fun _ => o_idx (m) rfl hV rfl (by first | rfl | omega) (by omega)) ?_
        refine d_val (fun _ => rfl) rfl rfl (fun _ => o_loadRE (c' := [_, _, _, _, _, _, _]) rfl (row_own (key := 1000) rfl) (el_flat eE_len dE l (m) (by omega)) rfl) ?_
        refine d_val (fun _ => rfl) rfl rfl (fun _ => o_move rfl) ?_
        refine d_val (fun _ => rfl) rfl rfl (fun _ => o_move rfl) ?_
        refine d_val (fun _ => rfl) rfl rfl (fun _ => o_idx (((i + j) / 2)) rfl hV rfl (by first | rfl | omega) (by omega)) ?_
        refine d_val (fun _ => rfl) rfl rfl (fun _ => o_loadRE (c' := [_, _, _, _, _, _, _]) rfl (row_own (key := 1000) rfl) (el_flat eE_len dE l (((i + j) / 2)) (by omega)) rfl) ?_
        refine d_ansv (vs := [_, _]) (fun _ => rfl) (fun _ => rfl) (fun _ => rfl) (a_CmpF (l.getD (m) dE) (l.getD (((i + j) / 2)) dE) (frOk_getD hfr (by omega)) (frOk_getD hfr (by omega))) ?_
        refine d_lss (fun _ => rfl) (fun _ => rfl) (fun _ => rfl) (fun q7 => ?_) (fun q7 => ?_)
        · skip
          refine d_val (fun _ => rfl) rfl rfl (fun _ => o_not rfl rfl) ?_
          refine d_nil (fun σ => ?_)
          refine l_nil ?_
          refine kt_norm ?_
          refine v_sel [14, 15, 0, 2, 4, 16, 103] [1000] rfl rfl ?_
          refine v_condF rfl ?_
          refine v_region ?_
          refine l_val rfl (o_move rfl) ?_
          refine l_val rfl (o_assign rfl) ?_
          refine l_nil ?_
          refine kb_norm ?_
          refine kt_norm ?_
          refine ⟨(i, ((i + j) / 2)), ⟨hmi, by omega, by omega, hA, fun q h1 h2 => by (by_cases c : j ≤ q); exact hB q c h2; (by_cases c2 : q = (i + j) / 2); (rw [c2]; omega); (have := hs1 ((i + j) / 2) q (by omega) (by omega) h2); omega⟩, (by show (i + j) / 2 - i < j - i; omega), le_app (And.intro rfl (And.intro (congrArg (fun q => some (Value.int .i64 q)) (by omega)) (True.intro))) [0, 2, 4] rfl (True.intro) [1000] rfl⟩
        · skip
          refine d_val (fun _ => rfl) rfl rfl (fun _ => o_not rfl rfl) ?_
          refine d_nil (fun σ => ?_)
          refine l_nil ?_
          refine kt_norm ?_
          refine v_sel [14, 15, 0, 2, 4, 16, 103] [1000] rfl rfl ?_
          refine v_condT rfl ?_
          refine v_region ?_
          refine l_val rfl (o_move rfl) ?_
          refine l_val rfl (o_addi rfl rfl ?_) ?_
          · omega
          refine l_val rfl (o_assign rfl) ?_
          refine l_nil ?_
          refine kb_norm ?_
          refine kt_norm ?_
          refine ⟨(((i + j) / 2) + 1, j), ⟨by omega, by omega, hjb, fun q h1 h2 => by (by_cases c2 : q = (i + j) / 2); (rw [c2]; omega); (have := hs1 q ((i + j) / 2) h1 (by omega) (by omega)); omega, hB⟩, (by show j - ((i + j) / 2 + 1) < j - i; omega), le_app (And.intro (congrArg (fun q => some (Value.int .i64 q)) (by omega)) (And.intro rfl (True.intro))) [0, 2, 4] rfl (True.intro) [1000] rfl⟩
      · skip
        refine l_nil ?_
        refine kt_norm ?_
        refine v_condF rfl ?_
        refine v_exit ?_
        refine kt_exit ?_
        refine kt_exit ?_
        refine kb_eq ?_
        refine kt_norm ?_
        refine v_seq ?_
        refine v_seq ?_
        refine v_region ?_
        obtain rfl : i = j := by omega
        refine l_val rfl (o_move rfl) ?_
        refine l_val rfl (o_assign rfl) ?_
        refine l_nil ?_
        refine kt_norm ?_
        refine v_sel [14, 0, 17] [1000] rfl rfl ?_
        refine v_block ?_
        refine v_loopS (α := Nat × List EdgeT) (fun ⟨k, cur⟩ => [(17, .int .i64 (k : Int))]) (fun ⟨k, cur⟩ => [(1000, Hp.own v 68 7 l.length (cur.flatMap eE))])  (fun ⟨k, cur⟩ => i ≤ k ∧ k ≤ m ∧ InsB l m k cur ∧ Mut a b l cur) (fun ⟨k, cur⟩ => k) (m, l) [14, 0] [] ⟨by omega, Nat.le_refl _, InsB.start l m, Mut.refl a b l⟩  (And.intro rfl (True.intro)) rfl (And.intro rfl (True.intro)) rfl ?_
        rintro ⟨k, cur⟩ ⟨hik, hkm, hI, hM⟩
        have hcl : cur.length = l.length := hI.len
        refine v_seq ?_
        refine v_seq ?_
        refine v_region ?_
        refine l_val rfl (o_move rfl) ?_
        refine l_val rfl (o_move rfl) ?_
        refine l_split rfl (o_gtr rfl rfl) (fun q8 => ?_) (fun q8 => ?_)
        · skip
          refine l_nil ?_
          refine kt_norm ?_
          refine v_condT rfl ?_
          refine v_skip ?_
          refine kt_norm ?_
          refine v_seq ?_
          refine v_block ?_
          refine v_drawZ [[], [], [], [], [], [], [], [], [], [1000], [], [], [], [1000], [], [1000], [], [1000]] mixed ?_ (by kernel_rfl) (by kernel_rfl)
          refine d_val (fun _ => rfl) rfl rfl (fun _ => o_move rfl) ?_
          refine d_val (fun _ => rfl) rfl rfl (fun _ => o_move rfl) ?_
          refine d_val (fun _ => rfl) rfl rfl (fun _ => o_move rfl) ?_
          refine d_val (fun _ => rfl) rfl rfl (fun _ => o_move rfl) ?_
          refine d_val (fun _ => rfl) rfl rfl (fun _ => o_subi rfl rfl ?_) ?_
          · omega
          refine d_val (fun _ => rfl) rfl rfl (fun _ => o_move rfl) ?_
          refine d_val (fun _ => rfl) rfl rfl (fun _ => o_move rfl) ?_
          refine d_val (fun _ => rfl) rfl rfl (fun _ => o_subi rfl rfl ?_) ?_
          · omega
          refine d_val (fun _ => rfl) rfl rfl (fun _ => o_idx (k - 1) rfl hV rfl (by first | rfl | omega) (by omega)) ?_
          refine d_val (fun _ => rfl) rfl rfl (fun _ => o_loadRE (c' := [_, _, _, _, _, _, _]) rfl (row_own (key := 1000) rfl) (el_flat eE_len dE cur (k - 1) (by omega)) rfl) ?_
          refine d_val (fun _ => rfl) rfl rfl (fun _ => o_move rfl) ?_
          refine d_val (fun _ => rfl) rfl rfl (fun _ => o_move rfl) ?_
          refine d_val (fun _ => rfl) rfl rfl (fun _ => o_idx (k) rfl hV rfl (by first | rfl | omega) (by omega)) ?_
          refine d_val (fun _ => rfl) rfl rfl (fun _ => o_loadRE (c' := [_, _, _, _, _, _, _]) rfl (row_own (key := 1000) rfl) (el_flat eE_len dE cur (k) (by omega)) rfl) ?_
          refine d_val (fun _ => rfl) rfl rfl (fun _ => o_idx (k) rfl hV rfl (by first | rfl | omega) (by omega)) ?_
          refine d_store (fun _ => rfl) rfl rfl (fun _ => o_storeRE (key := 1000) (c := [_, _, _, _, _, _, _]) (by decide) rfl rfl rfl rfl rfl rfl (by omega)) ?_
          refine d_val (fun _ => rfl) rfl rfl (fun _ => o_idx (k - 1) rfl hV rfl (by first | rfl | omega) (by omega)) ?_
          refine d_store (fun _ => rfl) rfl rfl (fun _ => o_storeRE (key := 1000) (c := [_, _, _, _, _, _, _]) (by decide) rfl rfl rfl rfl rfl rfl (by omega)) ?_
          refine d_nil (fun σ => ?_)
          refine l_nil ?_
          refine kb_norm ?_
          refine kt_norm ?_
          refine v_sel [17, 14, 0] [1000] rfl rfl ?_
          refine v_region ?_
          refine l_val rfl (o_move rfl) ?_
          refine l_val rfl (o_subi rfl rfl ?_) ?_
          · omega
          refine l_val rfl (o_assign rfl) ?_
          refine l_nil ?_
          refine kt_norm ?_
          refine ⟨(k - 1, swapE cur k (k - 1)), ⟨by omega, by omega, hI.step hkm (by omega) (by omega), hI.mut hM hkm (by omega) (by omega) hmb (hB (k - 1) (by omega) (by omega))⟩, (by show k - 1 < k; omega), le_app (And.intro (congrArg (fun q => some (Value.int .i64 q)) (by omega)) (True.intro)) [14, 0] rfl (And.intro (congrArg some (own_congr rfl (flat_swap (by omega) (by omega)))) (True.intro)) [] rfl⟩
        · skip
          refine l_nil ?_
          refine kt_norm ?_
          refine v_condF rfl ?_
          refine v_exit ?_
          refine kt_exit ?_
          refine kt_exit ?_
          refine kb_eq ?_
          refine kt_norm ?_
          refine v_sel [] [1000] rfl rfl ?_
          refine v_ret ?_
          refine kt_ret ?_
          refine ⟨[], ResAll.nil, ?_⟩
          first
            | exact ⟨cur, ⟨hM, InsL.srt (show InsL l a (i - 1) cur from (show k = i - 1 by omega) ▸ hI) (by omega) hjb (fun p q h1 h2 h3 => hs2 p q (by omega) h2 h3) (fun q h1 h2 => hA q (by omega) h2) hB⟩, rfl⟩
            | exact ⟨cur, ⟨hM, InsB.srt (show InsB l m i cur from (show k = i by omega) ▸ hI) hmi hjb (by omega) hs1 hA hB⟩, rfl⟩
            | exact ⟨_, hC.done hR hM1 hM2, rfl⟩
            | exact ⟨_, hC.done hR hM1 (SrtQ.same hsa2 hsb2 (by omega)), rfl⟩
    · skip
      refine l_nil ?_
      refine kt_norm ?_
      refine v_sel [0, 1, 2, 3, 4, 80] [1000] rfl rfl ?_
      refine v_condF rfl ?_
      refine v_skip ?_
      refine kt_norm ?_
      refine v_seq ?_
      refine v_region ?_
      refine l_val rfl (o_move rfl) ?_
      refine l_val rfl (o_move rfl) ?_
      refine l_val rfl (o_addi rfl rfl ?_) ?_
      · omega
      refine l_val rfl (o_convu rfl) ?_
      refine l_val rfl (o_shr (n := 1) (p := 2) rfl rfl (by decide) rfl (by decide)) ?_
      refine l_val rfl (o_convi rfl ?_) ?_
      · omega
      refine l_val rfl (o_assign rfl) ?_
      refine l_nil ?_
      refine kt_norm ?_
      refine v_sel [0, 1, 2, 3, 4, 18] [1000] rfl rfl ?_
      refine v_seq ?_
      refine v_region ?_
      refine l_val rfl (o_move rfl) ?_
      refine l_val rfl (o_move rfl) ?_
      refine l_val rfl (o_addi rfl rfl ?_) ?_
      · omega
      refine l_val rfl (o_assign rfl) ?_
      refine l_nil ?_
      refine kt_norm ?_
      refine v_seq ?_
      refine v_region ?_
      refine l_val rfl (o_assign rfl) ?_
      refine l_val rfl (o_assign rfl) ?_
      refine l_nil ?_
      refine kt_norm ?_
      refine v_seq ?_
      refine v_seq ?_
      refine v_region ?_
      refine l_val rfl (o_move rfl) ?_
      refine l_val rfl (o_move rfl) ?_
      refine l_split rfl (o_gtr rfl rfl) (fun q9 => ?_) (fun q9 => ?_)
      · obtain ⟨lo, hlo⟩ : ∃ lo, lo = (a + b) / 2 + m - b := ⟨_, rfl⟩
        obtain ⟨hi, hhi⟩ : ∃ hi, hi = (a + b) / 2 := ⟨_, rfl⟩
        refine l_nil ?_
        refine kt_norm ?_
        refine v_sel [0, 1, 2, 3, 4, 18, 19, 140] [1000] rfl rfl ?_
        refine v_condT rfl ?_
        refine v_seq ?_
        refine v_region ?_
        refine l_val rfl (o_move rfl) ?_
        refine l_val rfl (o_move rfl) ?_
        refine l_val rfl (o_subi rfl rfl ?_) ?_
        · omega
        refine l_val rfl (o_assign rfl) ?_
        refine l_nil ?_
        refine kt_norm ?_
        refine v_region ?_
        refine l_val rfl (o_move rfl) ?_
        refine l_val rfl (o_assign rfl) ?_
        refine l_nil ?_
        refine kt_norm ?_
        refine v_seq ?_
        refine v_region ?_
        refine l_val rfl (o_move rfl) ?_
        refine l_val rfl (o_subi rfl rfl ?_) ?_
        · omega
        refine l_val rfl (o_assign rfl) ?_
        refine l_nil ?_
        refine kt_norm ?_
        refine v_sel [0, 1, 2, 3, 4, 18, 19, 20, 21, 22] [1000] rfl rfl ?_
        refine v_seq ?_
        refine v_block ?_
        refine v_loopS (α := Nat × Nat) (fun ⟨s, r⟩ => [(20, .int .i64 (s : Int)), (21, .int .i64 (r : Int))]) (fun ⟨s, r⟩ => [])  (fun ⟨s, r⟩ => lo ≤ s ∧ s ≤ r ∧ r ≤ hi ∧ (∀ c, lo ≤ c → c < s → (l.getD c dE).fr ≤ (l.getD ((a + b) / 2 + m - 1 - c) dE).fr) ∧ (∀ c, r ≤ c → c < hi → (l.getD ((a + b) / 2 + m - 1 - c) dE).fr < (l.getD c dE).fr)) (fun ⟨s, r⟩ => r - s) (lo, hi) [0, 1, 2, 3, 4, 18, 19, 22] [1000] ⟨Nat.le_refl _, by omega, Nat.le_refl _, fun c h1 h2 => by omega, fun c h1 h2 => by omega⟩  (And.intro (congrArg (fun q => some (Value.int .i64 q)) (by omega)) (And.intro (congrArg (fun q => some (Value.int .i64 q)) (by omega)) (True.intro))) rfl (True.intro) rfl ?_
        rintro ⟨s, r⟩ ⟨hls, hsr, hrh, hA, hB⟩
        refine v_seq ?_
        refine v_seq ?_
        refine v_region ?_
        refine l_val rfl (o_move rfl) ?_
        refine l_val rfl (o_move rfl) ?_
        refine l_split rfl (o_lss rfl rfl) (fun q10 => ?_) (fun q10 => ?_)
        · skip
          refine l_nil ?_
          refine kt_norm ?_
          refine v_condT rfl ?_
          refine v_skip ?_
          refine kt_norm ?_
          refine v_block ?_
          refine v_seq ?_
          refine v_region ?_
          refine l_val rfl (o_move rfl) ?_
          refine l_val rfl (o_move rfl) ?_
          refine l_val rfl (o_addi rfl rfl ?_) ?_
          · omega
          refine l_val rfl (o_convu rfl) ?_
          refine l_val rfl (o_shr (n := 1) (p := 2) rfl rfl (by decide) rfl (by decide)) ?_
          refine l_val rfl (o_convi rfl ?_) ?_
          · omega
          refine l_val rfl (o_assign rfl) ?_
          refine l_nil ?_
          refine kt_norm ?_
          refine v_sel [20, 21, 0, 1, 2, 3, 4, 18, 19, 22, 23] [1000] rfl rfl ?_
          refine v_seq ?_
          refine v_drawZ [[], [], [], [], [], [], [1000], [], [], [], [1000], [], [], []] mixed ?_ (by kernel_rfl) (by kernel_rfl)
          refine d_val (fun _ => rfl) rfl rfl (fun _ => o_move rfl) ?_
          refine d_val (fun _ => rfl) rfl rfl (fun _ => o_move rfl) ?_
          refine d_val (fun _ => rfl) rfl rfl (fun _ => o_move rfl) ?_
          refine d_val (fun _ => rfl) rfl rfl (fun _ => o_move rfl) ?_
          refine d_val (fun _ => rfl) rfl rfl (fun _ => o_subi rfl rfl ?_) ?_
          · omega
          refine d_val (fun _ => rfl) rfl rfl (fun _ => o_idx ((a + b) / 2 + m - 1 - (s + r) / 2) rfl hV rfl (by first | rfl | omega) (by omega)) ?_
          refine d_val (fun _ => rfl) rfl rfl (fun _ => o_loadRE (c' := [_, _, _, _, _, _, _]) rfl (row_own (key := 1000) rfl) (el_flat eE_len dE l ((a + b) / 2 + m - 1 - (s + r) / 2) (by omega)) rfl) ?_
          refine d_val (fun _ => rfl) rfl rfl (fun _ => o_move rfl) ?_
          refine d_val (fun _ => rfl) rfl rfl (fun _ => o_move rfl) ?_
          refine d_val (fun _ => rfl) rfl rfl (fun _ => o_idx (((s + r) / 2)) rfl hV rfl (by first | rfl | omega) (by omega)) ?_
          refine d_val (fun _ => rfl) rfl rfl (fun _ => o_loadRE (c' := [_, _, _, _, _, _, _]) rfl (row_own (key := 1000) rfl) (el_flat eE_len dE l (((s + r) / 2)) (by omega)) rfl) ?_
          refine d_ansv (vs := [_, _]) (fun _ => rfl) (fun _ => rfl) (fun _ => rfl) (a_CmpF (l.getD ((a + b) / 2 + m - 1 - (s + r) / 2) dE) (l.getD (((s + r) / 2)) dE) (frOk_getD hfr (by omega)) (frOk_getD hfr (by omega))) ?_
          refine d_lss (fun _ => rfl) (fun _ => rfl) (fun _ => rfl) (fun q11 => ?_) (fun q11 => ?_)
          · skip
            refine d_val (fun _ => rfl) rfl rfl (fun _ => o_not rfl rfl) ?_
            refine d_nil (fun σ => ?_)
            refine l_nil ?_
            refine kt_norm ?_
            refine v_sel [20, 21, 0, 1, 2, 3, 4, 18, 19, 22, 23, 171] [1000] rfl rfl ?_
            refine v_condF rfl ?_
            refine v_region ?_
            refine l_val rfl (o_move rfl) ?_
            refine l_val rfl (o_assign rfl) ?_
            refine l_nil ?_
            refine kb_norm ?_
            refine kt_norm ?_
            refine ⟨(s, ((s + r) / 2)), ⟨hls, by omega, by omega, hA, fun c h1 h2 => by (by_cases c2 : c = (s + r) / 2); (rw [c2]; omega); (by_cases c3 : r ≤ c); exact hB c c3 h2; (have := hs1 ((s + r) / 2) c (by omega) (by omega) (by omega)); (have := hs2 ((a + b) / 2 + m - 1 - c) ((a + b) / 2 + m - 1 - (s + r) / 2) (by omega) (by omega) (by omega)); omega⟩, (by show (s + r) / 2 - s < r - s; omega), le_app (And.intro rfl (And.intro (congrArg (fun q => some (Value.int .i64 q)) (by omega)) (True.intro))) [0, 1, 2, 3, 4, 18, 19, 22] rfl (True.intro) [1000] rfl⟩
          · skip
            refine d_val (fun _ => rfl) rfl rfl (fun _ => o_not rfl rfl) ?_
            refine d_nil (fun σ => ?_)
            refine l_nil ?_
            refine kt_norm ?_
            refine v_sel [20, 21, 0, 1, 2, 3, 4, 18, 19, 22, 23, 171] [1000] rfl rfl ?_
            refine v_condT rfl ?_
            refine v_region ?_
            refine l_val rfl (o_move rfl) ?_
            refine l_val rfl (o_addi rfl rfl ?_) ?_
            · omega
            refine l_val rfl (o_assign rfl) ?_
            refine l_nil ?_
            refine kb_norm ?_
            refine kt_norm ?_
            refine ⟨(((s + r) / 2) + 1, r), ⟨by omega, by omega, hrh, fun c h1 h2 => by (by_cases c2 : c = (s + r) / 2); (rw [c2]; omega); (by_cases c3 : c < s); exact hA c h1 c3; (have := hs1 c ((s + r) / 2) (by omega) (by omega) (by omega)); (have := hs2 ((a + b) / 2 + m - 1 - (s + r) / 2) ((a + b) / 2 + m - 1 - c) (by omega) (by omega) (by omega)); omega, hB⟩, (by show r - ((s + r) / 2 + 1) < r - s; omega), le_app (And.intro (congrArg (fun q => some (Value.int .i64 q)) (by omega)) (And.intro rfl (True.intro))) [0, 1, 2, 3, 4, 18, 19, 22] rfl (True.intro) [1000] rfl⟩
        · skip
          refine l_nil ?_
          refine kt_norm ?_
          refine v_condF rfl ?_
          refine v_exit ?_
          refine kt_exit ?_
          refine kt_exit ?_
          refine kb_eq ?_
          refine kt_norm ?_
          refine v_seq ?_
          refine v_region ?_
          obtain rfl : s = r := by omega
          have hC := cut_of (mid := (a + b) / 2) ham hmb hb rfl (lo := lo) (hi := hi) (s := s) (by omega) hls hrh hs1 hs2 hA hB
          refine l_val rfl (o_move rfl) ?_
          refine l_val rfl (o_move rfl) ?_
          refine l_val rfl (o_subi rfl rfl ?_) ?_
          · omega
          refine l_val rfl (o_assign rfl) ?_
          refine l_nil ?_
          refine kt_norm ?_
          refine v_sel [20, 0, 1, 2, 3, 4, 18, 24] [1000] rfl rfl ?_
          refine v_seq ?_
          refine v_seq ?_
          refine v_region ?_
          refine l_val rfl (o_move rfl) ?_
          refine l_val rfl (o_move rfl) ?_
          refine l_split rfl (o_lss rfl rfl) (fun q12 => ?_) (fun q12 => ?_)
          · skip
            refine l_val rfl (o_move rfl) ?_
            refine l_val rfl (o_move rfl) ?_
            refine l_val rfl (o_move rfl) ?_
            refine l_split rfl (o_lss rfl rfl) (fun q13 => ?_) (fun q13 => ?_)
            · skip
              refine l_val rfl (o_pickT rfl rfl) ?_
              refine l_nil ?_
              refine kt_norm ?_
              refine v_sel [20, 0, 1, 2, 3, 4, 18, 24, 185] [1000] rfl rfl ?_
              refine v_condT rfl ?_
              refine v_region ?_
              refine l_val rfl (o_move rfl) ?_
              refine l_val rfl (o_move rfl) ?_
              refine l_val rfl (o_move rfl) ?_
              refine l_val rfl (o_move rfl) ?_
              refine l_val rfl (o_move rfl) ?_
              refine l_gmutX (ks := []) 1000 (fun l1 => RotQ l s m ((a + b) / 2 + m - s) l1) (fun l1 => l1.flatMap eE) (n := l.length) (caps := #[]) (vs := [_, _, _, _, _]) rfl rfl (ent_of Try.func88 rfl rfl) rfl rfl (fun w' hg hh hok2 => ?_) (fun l1 y1 hR => ?_)
              · have hres := a_Rotate w' v l s m ((a + b) / 2 + m - s) (by omega) (by omega) (by omega) (by omega) hok2
                have e0 : (((a + b) / 2 + m - s : Nat) : Int) = ((a : Int) + (b : Int)) % 18446744073709551616 / 2 + (m : Int) - (s : Int) := by omega
                rw [e0] at hres
                exact hres
              refine l_nil ?_
              refine kt_norm ?_
              refine v_sel [20, 0, 1, 3, 4, 18, 24] [1000] rfl rfl ?_
              refine v_seq ?_
              refine v_seq ?_
              refine v_region ?_
              have hRm := hC.rot hR
              have hlen1 : l1.length = l.length := hR.len
              have hfo1 := hRm.st.frOk hfr
              have hsa1 := hC.p1 hR
              have hsb1 := hC.p2 hR
              refine l_val rfl (o_move rfl) ?_
              refine l_val rfl (o_move rfl) ?_
              refine l_split rfl (o_lss rfl rfl) (fun q14 => ?_) (fun q14 => ?_)
              · skip
                refine l_val rfl (o_move rfl) ?_
                refine l_val rfl (o_move rfl) ?_
                refine l_val rfl (o_move rfl) ?_
                refine l_split rfl (o_lss rfl rfl) (fun q15 => ?_) (fun q15 => ?_)
                · skip
                  refine l_val rfl (o_pickT rfl rfl) ?_
                  refine l_nil ?_
                  refine kt_norm ?_
                  refine v_sel [20, 0, 1, 3, 4, 18, 24, 199] [1000] rfl rfl ?_
                  refine v_condT rfl ?_
                  refine v_region ?_
                  refine l_val rfl (o_move rfl) ?_
                  refine l_val rfl (o_move rfl) ?_
                  refine l_val rfl (o_move rfl) ?_
                  refine l_val rfl (o_move rfl) ?_
                  refine l_val rfl (o_move rfl) ?_
                  refine l_gmutX (ks := []) 1000 (fun lz => SrtQ l1 a ((a + b) / 2) lz) (fun lz => lz.flatMap eE) (n := l.length) (caps := #[]) (vs := [_, _, _, _, _]) rfl rfl (ent_of Try.func79 rfl rfl) rfl rfl (fun w' hg hh hok2 => ?_) (fun l2 y1 hM1 => ?_)
                  · have hsl : l1.length = l.length := hlen1
                    have hres := ih w' v l1 a s ((a + b) / 2) (by omega) (by omega) (by omega) (by omega) (by rw [hsl]; omega) (by rw [hsl]; exact hok2) hfo1 hsa1 hsb1
                    rw [hsl] at hres
                    have e0 : (((a + b) / 2 : Nat) : Int) = ((a : Int) + (b : Int)) % 18446744073709551616 / 2 := by omega
                    rw [e0] at hres
                    exact hres
                  refine l_nil ?_
                  refine kt_norm ?_
                  refine v_sel [0, 3, 4, 18, 24] [1000] rfl rfl ?_
                  refine v_seq ?_
                  refine v_region ?_
                  have hlen2 : l2.length = l.length := hM1.mut_.st.len.trans hlen1
                  have hfo2 := hM1.mut_.st.frOk hfo1
                  have hsa2 : SrtOn l2 ((a + b) / 2) ((a + b) / 2 + m - s) := fun p q h1 h2 h3 => by rw [hM1.mut_.out p (.inr h1), hM1.mut_.out q (.inr (by omega))]; exact hC.p3 hR p q h1 h2 h3
                  have hsb2 : SrtOn l2 ((a + b) / 2 + m - s) b := fun p q h1 h2 h3 => by rw [hM1.mut_.out p (.inr (by omega)), hM1.mut_.out q (.inr (by omega))]; exact hC.p4 hR p q h1 h2 h3
                  refine l_val rfl (o_move rfl) ?_
                  refine l_val rfl (o_move rfl) ?_
                  refine l_split rfl (o_lss rfl rfl) (fun q16 => ?_) (fun q16 => ?_)
                  · skip
                    refine l_val rfl (o_move rfl) ?_
                    refine l_val rfl (o_move rfl) ?_
                    refine l_val rfl (o_move rfl) ?_
                    refine l_split rfl (o_lss rfl rfl) (fun q17 => ?_) (fun q17 => ?_)
                    · skip
                      refine l_val rfl (o_pickT rfl rfl) ?_
                      refine l_nil ?_
                      refine kt_norm ?_
                      refine v_sel [0, 3, 4, 18, 24, 213] [1000] rfl rfl ?_
                      refine v_condT rfl ?_
                      refine v_region ?_
                      refine l_val rfl (o_move rfl) ?_
                      refine l_val rfl (o_move rfl) ?_
                      refine l_val rfl (o_move rfl) ?_
                      refine l_val rfl (o_move rfl) ?_
                      refine l_val rfl (o_move rfl) ?_
                      refine l_gmutX (ks := []) 1000 (fun lz => SrtQ l2 ((a + b) / 2) b lz) (fun lz => lz.flatMap eE) (n := l.length) (caps := #[]) (vs := [_, _, _, _, _]) rfl rfl (ent_of Try.func79 rfl rfl) rfl rfl (fun w' hg hh hok2 => ?_) (fun l3 y2 hM2 => ?_)
                      · have hsl : l2.length = l.length := hlen2
                        have hres := ih w' v l2 ((a + b) / 2) ((a + b) / 2 + m - s) b (by omega) (by omega) (by omega) (by omega) (by rw [hsl]; omega) (by rw [hsl]; exact hok2) hfo2 hsa2 hsb2
                        rw [hsl] at hres
                        have e0 : (((a + b) / 2 : Nat) : Int) = ((a : Int) + (b : Int)) % 18446744073709551616 / 2 := by omega
                        have e1 : (((a + b) / 2 + m - s : Nat) : Int) = ((a : Int) + (b : Int)) % 18446744073709551616 / 2 + (m : Int) - (s : Int) := by omega
                        rw [e1] at hres
                        rw [e0] at hres
                        exact hres
                      refine l_nil ?_
                      refine ⟨[], ResAll.nil, ?_⟩
                      first
                        | exact ⟨cur, ⟨hM, InsL.srt (show InsL l a (i - 1) cur from (show k = i - 1 by omega) ▸ hI) (by omega) hjb (fun p q h1 h2 h3 => hs2 p q (by omega) h2 h3) (fun q h1 h2 => hA q (by omega) h2) hB⟩, rfl⟩
                        | exact ⟨cur, ⟨hM, InsB.srt (show InsB l m i cur from (show k = i by omega) ▸ hI) hmi hjb (by omega) hs1 hA hB⟩, rfl⟩
                        | exact ⟨_, hC.done hR hM1 hM2, rfl⟩
                        | exact ⟨_, hC.done hR hM1 (SrtQ.same hsa2 hsb2 (by omega)), rfl⟩
                    · skip
                      refine l_val rfl (o_pickT rfl rfl) ?_
                      refine l_nil ?_
                      refine kt_norm ?_
                      refine v_sel [0, 3, 4, 18, 24, 213] [1000] rfl rfl ?_
                      refine v_condF rfl ?_
                      refine v_skip ?_
                      refine ⟨[], ResAll.nil, ?_⟩
                      first
                        | exact ⟨cur, ⟨hM, InsL.srt (show InsL l a (i - 1) cur from (show k = i - 1 by omega) ▸ hI) (by omega) hjb (fun p q h1 h2 h3 => hs2 p q (by omega) h2 h3) (fun q h1 h2 => hA q (by omega) h2) hB⟩, rfl⟩
                        | exact ⟨cur, ⟨hM, InsB.srt (show InsB l m i cur from (show k = i by omega) ▸ hI) hmi hjb (by omega) hs1 hA hB⟩, rfl⟩
                        | exact ⟨_, hC.done hR hM1 hM2, rfl⟩
                        | exact ⟨_, hC.done hR hM1 (SrtQ.same hsa2 hsb2 (by omega)), rfl⟩
                  · skip
                    refine l_val rfl (o_move rfl) ?_
                    refine l_no rfl ?_
                    refine l_no rfl ?_
                    refine l_no rfl ?_
                    refine l_val rfl (o_pickF rfl rfl) ?_
                    refine l_nil ?_
                    refine kt_norm ?_
                    refine v_sel [0, 3, 4, 18, 24, 213] [1000] rfl rfl ?_
                    refine v_condF rfl ?_
                    refine v_skip ?_
                    refine ⟨[], ResAll.nil, ?_⟩
                    first
                      | exact ⟨cur, ⟨hM, InsL.srt (show InsL l a (i - 1) cur from (show k = i - 1 by omega) ▸ hI) (by omega) hjb (fun p q h1 h2 h3 => hs2 p q (by omega) h2 h3) (fun q h1 h2 => hA q (by omega) h2) hB⟩, rfl⟩
                      | exact ⟨cur, ⟨hM, InsB.srt (show InsB l m i cur from (show k = i by omega) ▸ hI) hmi hjb (by omega) hs1 hA hB⟩, rfl⟩
                      | exact ⟨_, hC.done hR hM1 hM2, rfl⟩
                      | exact ⟨_, hC.done hR hM1 (SrtQ.same hsa2 hsb2 (by omega)), rfl⟩
                · skip
                  refine l_val rfl (o_pickT rfl rfl) ?_
                  refine l_nil ?_
                  refine kt_norm ?_
                  refine v_sel [20, 0, 1, 3, 4, 18, 24, 199] [1000] rfl rfl ?_
                  refine v_condF rfl ?_
                  refine v_skip ?_
                  refine kt_norm ?_
                  refine v_seq ?_
                  refine v_region ?_
                  have hM1 : SrtQ l1 a ((a + b) / 2) l1 := SrtQ.same hsa1 hsb1 (by omega)
                  have hlen2 : l1.length = l.length := hM1.mut_.st.len.trans hlen1
                  have hfo2 := hM1.mut_.st.frOk hfo1
                  have hsa2 : SrtOn l1 ((a + b) / 2) ((a + b) / 2 + m - s) := fun p q h1 h2 h3 => by rw [hM1.mut_.out p (.inr h1), hM1.mut_.out q (.inr (by omega))]; exact hC.p3 hR p q h1 h2 h3
                  have hsb2 : SrtOn l1 ((a + b) / 2 + m - s) b := fun p q h1 h2 h3 => by rw [hM1.mut_.out p (.inr (by omega)), hM1.mut_.out q (.inr (by omega))]; exact hC.p4 hR p q h1 h2 h3
                  refine l_val rfl (o_move rfl) ?_
                  refine l_val rfl (o_move rfl) ?_
                  refine l_split rfl (o_lss rfl rfl) (fun q18 => ?_) (fun q18 => ?_)
                  · skip
                    refine l_val rfl (o_move rfl) ?_
                    refine l_val rfl (o_move rfl) ?_
                    refine l_val rfl (o_move rfl) ?_
                    refine l_split rfl (o_lss rfl rfl) (fun q19 => ?_) (fun q19 => ?_)
                    · skip
                      refine l_val rfl (o_pickT rfl rfl) ?_
                      refine l_nil ?_
                      refine kt_norm ?_
                      refine v_sel [0, 3, 4, 18, 24, 213] [1000] rfl rfl ?_
                      refine v_condT rfl ?_
                      refine v_region ?_
                      refine l_val rfl (o_move rfl) ?_
                      refine l_val rfl (o_move rfl) ?_
                      refine l_val rfl (o_move rfl) ?_
                      refine l_val rfl (o_move rfl) ?_
                      refine l_val rfl (o_move rfl) ?_
                      refine l_gmutX (ks := []) 1000 (fun lz => SrtQ l1 ((a + b) / 2) b lz) (fun lz => lz.flatMap eE) (n := l.length) (caps := #[]) (vs := [_, _, _, _, _]) rfl rfl (ent_of Try.func79 rfl rfl) rfl rfl (fun w' hg hh hok2 => ?_) (fun l3 y2 hM2 => ?_)
                      · have hsl : l1.length = l.length := hlen2
                        have hres := ih w' v l1 ((a + b) / 2) ((a + b) / 2 + m - s) b (by omega) (by omega) (by omega) (by omega) (by rw [hsl]; omega) (by rw [hsl]; exact hok2) hfo2 hsa2 hsb2
                        rw [hsl] at hres
                        have e0 : (((a + b) / 2 : Nat) : Int) = ((a : Int) + (b : Int)) % 18446744073709551616 / 2 := by omega
                        have e1 : (((a + b) / 2 + m - s : Nat) : Int) = ((a : Int) + (b : Int)) % 18446744073709551616 / 2 + (m : Int) - (s : Int) := by omega
                        rw [e1] at hres
                        rw [e0] at hres
                        exact hres
                      refine l_nil ?_
                      refine ⟨[], ResAll.nil, ?_⟩
                      first
                        | exact ⟨cur, ⟨hM, InsL.srt (show InsL l a (i - 1) cur from (show k = i - 1 by omega) ▸ hI) (by omega) hjb (fun p q h1 h2 h3 => hs2 p q (by omega) h2 h3) (fun q h1 h2 => hA q (by omega) h2) hB⟩, rfl⟩
                        | exact ⟨cur, ⟨hM, InsB.srt (show InsB l m i cur from (show k = i by omega) ▸ hI) hmi hjb (by omega) hs1 hA hB⟩, rfl⟩
                        | exact ⟨_, hC.done hR hM1 hM2, rfl⟩
                        | exact ⟨_, hC.done hR hM1 (SrtQ.same hsa2 hsb2 (by omega)), rfl⟩
                    · skip
                      refine l_val rfl (o_pickT rfl rfl) ?_
                      refine l_nil ?_
                      refine kt_norm ?_
                      refine v_sel [0, 3, 4, 18, 24, 213] [1000] rfl rfl ?_
                      refine v_condF rfl ?_
                      refine v_skip ?_
                      refine ⟨[], ResAll.nil, ?_⟩
                      first
                        | exact ⟨cur, ⟨hM, InsL.srt (show InsL l a (i - 1) cur from (show k = i - 1 by omega) ▸ hI) (by omega) hjb (fun p q h1 h2 h3 => hs2 p q (by omega) h2 h3) (fun q h1 h2 => hA q (by omega) h2) hB⟩, rfl⟩
                        | exact ⟨cur, ⟨hM, InsB.srt (show InsB l m i cur from (show k = i by omega) ▸ hI) hmi hjb (by omega) hs1 hA hB⟩, rfl⟩
                        | exact ⟨_, hC.done hR hM1 hM2, rfl⟩
                        | exact ⟨_, hC.done hR hM1 (SrtQ.same hsa2 hsb2 (by omega)), rfl⟩
                  · skip
                    refine l_val rfl (o_move rfl) ?_
                    refine l_no rfl ?_
                    refine l_no rfl ?_
                    refine l_no rfl ?_
                    refine l_val rfl (o_pickF rfl rfl) ?_
                    refine l_nil ?_
                    refine kt_norm ?_
                    refine v_sel [0, 3, 4, 18, 24, 213] [1000] rfl rfl ?_
                    refine v_condF rfl ?_
                    refine v_skip ?_
                    refine ⟨[], ResAll.nil, ?_⟩
                    first
                      | exact ⟨cur, ⟨hM, InsL.srt (show InsL l a (i - 1) cur from (show k = i - 1 by omega) ▸ hI) (by omega) hjb (fun p q h1 h2 h3 => hs2 p q (by omega) h2 h3) (fun q h1 h2 => hA q (by omega) h2) hB⟩, rfl⟩
                      | exact ⟨cur, ⟨hM, InsB.srt (show InsB l m i cur from (show k = i by omega) ▸ hI) hmi hjb (by omega) hs1 hA hB⟩, rfl⟩
                      | exact ⟨_, hC.done hR hM1 hM2, rfl⟩
                      | exact ⟨_, hC.done hR hM1 (SrtQ.same hsa2 hsb2 (by omega)), rfl⟩
              · skip
                refine l_val rfl (o_move rfl) ?_
                refine l_no rfl ?_
                refine l_no rfl ?_
                refine l_no rfl ?_
                refine l_val rfl (o_pickF rfl rfl) ?_
                refine l_nil ?_
                refine kt_norm ?_
                refine v_sel [20, 0, 1, 3, 4, 18, 24, 199] [1000] rfl rfl ?_
                refine v_condF rfl ?_
                refine v_skip ?_
                refine kt_norm ?_
                refine v_seq ?_
                refine v_region ?_
                have hM1 : SrtQ l1 a ((a + b) / 2) l1 := SrtQ.same hsa1 hsb1 (by omega)
                have hlen2 : l1.length = l.length := hM1.mut_.st.len.trans hlen1
                have hfo2 := hM1.mut_.st.frOk hfo1
                have hsa2 : SrtOn l1 ((a + b) / 2) ((a + b) / 2 + m - s) := fun p q h1 h2 h3 => by rw [hM1.mut_.out p (.inr h1), hM1.mut_.out q (.inr (by omega))]; exact hC.p3 hR p q h1 h2 h3
                have hsb2 : SrtOn l1 ((a + b) / 2 + m - s) b := fun p q h1 h2 h3 => by rw [hM1.mut_.out p (.inr (by omega)), hM1.mut_.out q (.inr (by omega))]; exact hC.p4 hR p q h1 h2 h3
                refine l_val rfl (o_move rfl) ?_
                refine l_val rfl (o_move rfl) ?_
                refine l_split rfl (o_lss rfl rfl) (fun q20 => ?_) (fun q20 => ?_)
                · skip
                  refine l_val rfl (o_move rfl) ?_
                  refine l_val rfl (o_move rfl) ?_
                  refine l_val rfl (o_move rfl) ?_
                  refine l_split rfl (o_lss rfl rfl) (fun q21 => ?_) (fun q21 => ?_)
                  · skip
                    refine l_val rfl (o_pickT rfl rfl) ?_
                    refine l_nil ?_
                    refine kt_norm ?_
                    refine v_sel [0, 3, 4, 18, 24, 213] [1000] rfl rfl ?_
                    refine v_condT rfl ?_
                    refine v_region ?_
                    refine l_val rfl (o_move rfl) ?_
                    refine l_val rfl (o_move rfl) ?_
                    refine l_val rfl (o_move rfl) ?_
                    refine l_val rfl (o_move rfl) ?_
                    refine l_val rfl (o_move rfl) ?_
                    refine l_gmutX (ks := []) 1000 (fun lz => SrtQ l1 ((a + b) / 2) b lz) (fun lz => lz.flatMap eE) (n := l.length) (caps := #[]) (vs := [_, _, _, _, _]) rfl rfl (ent_of Try.func79 rfl rfl) rfl rfl (fun w' hg hh hok2 => ?_) (fun l3 y2 hM2 => ?_)
                    · have hsl : l1.length = l.length := hlen2
                      have hres := ih w' v l1 ((a + b) / 2) ((a + b) / 2 + m - s) b (by omega) (by omega) (by omega) (by omega) (by rw [hsl]; omega) (by rw [hsl]; exact hok2) hfo2 hsa2 hsb2
                      rw [hsl] at hres
                      have e0 : (((a + b) / 2 : Nat) : Int) = ((a : Int) + (b : Int)) % 18446744073709551616 / 2 := by omega
                      have e1 : (((a + b) / 2 + m - s : Nat) : Int) = ((a : Int) + (b : Int)) % 18446744073709551616 / 2 + (m : Int) - (s : Int) := by omega
                      rw [e1] at hres
                      rw [e0] at hres
                      exact hres
                    refine l_nil ?_
                    refine ⟨[], ResAll.nil, ?_⟩
                    first
                      | exact ⟨cur, ⟨hM, InsL.srt (show InsL l a (i - 1) cur from (show k = i - 1 by omega) ▸ hI) (by omega) hjb (fun p q h1 h2 h3 => hs2 p q (by omega) h2 h3) (fun q h1 h2 => hA q (by omega) h2) hB⟩, rfl⟩
                      | exact ⟨cur, ⟨hM, InsB.srt (show InsB l m i cur from (show k = i by omega) ▸ hI) hmi hjb (by omega) hs1 hA hB⟩, rfl⟩
                      | exact ⟨_, hC.done hR hM1 hM2, rfl⟩
                      | exact ⟨_, hC.done hR hM1 (SrtQ.same hsa2 hsb2 (by omega)), rfl⟩
                  · skip
                    refine l_val rfl (o_pickT rfl rfl) ?_
                    refine l_nil ?_
                    refine kt_norm ?_
                    refine v_sel [0, 3, 4, 18, 24, 213] [1000] rfl rfl ?_
                    refine v_condF rfl ?_
                    refine v_skip ?_
                    refine ⟨[], ResAll.nil, ?_⟩
                    first
                      | exact ⟨cur, ⟨hM, InsL.srt (show InsL l a (i - 1) cur from (show k = i - 1 by omega) ▸ hI) (by omega) hjb (fun p q h1 h2 h3 => hs2 p q (by omega) h2 h3) (fun q h1 h2 => hA q (by omega) h2) hB⟩, rfl⟩
                      | exact ⟨cur, ⟨hM, InsB.srt (show InsB l m i cur from (show k = i by omega) ▸ hI) hmi hjb (by omega) hs1 hA hB⟩, rfl⟩
                      | exact ⟨_, hC.done hR hM1 hM2, rfl⟩
                      | exact ⟨_, hC.done hR hM1 (SrtQ.same hsa2 hsb2 (by omega)), rfl⟩
                · skip
                  refine l_val rfl (o_move rfl) ?_
                  refine l_no rfl ?_
                  refine l_no rfl ?_
                  refine l_no rfl ?_
                  refine l_val rfl (o_pickF rfl rfl) ?_
                  refine l_nil ?_
                  refine kt_norm ?_
                  refine v_sel [0, 3, 4, 18, 24, 213] [1000] rfl rfl ?_
                  refine v_condF rfl ?_
                  refine v_skip ?_
                  refine ⟨[], ResAll.nil, ?_⟩
                  first
                    | exact ⟨cur, ⟨hM, InsL.srt (show InsL l a (i - 1) cur from (show k = i - 1 by omega) ▸ hI) (by omega) hjb (fun p q h1 h2 h3 => hs2 p q (by omega) h2 h3) (fun q h1 h2 => hA q (by omega) h2) hB⟩, rfl⟩
                    | exact ⟨cur, ⟨hM, InsB.srt (show InsB l m i cur from (show k = i by omega) ▸ hI) hmi hjb (by omega) hs1 hA hB⟩, rfl⟩
                    | exact ⟨_, hC.done hR hM1 hM2, rfl⟩
                    | exact ⟨_, hC.done hR hM1 (SrtQ.same hsa2 hsb2 (by omega)), rfl⟩
            · skip
              refine l_val rfl (o_pickT rfl rfl) ?_
              refine l_nil ?_
              refine kt_norm ?_
              refine v_sel [20, 0, 1, 2, 3, 4, 18, 24, 185] [1000] rfl rfl ?_
              refine v_condF rfl ?_
              refine v_skip ?_
              refine kt_norm ?_
              refine v_seq ?_
              refine v_seq ?_
              refine v_region ?_
              have hR : RotQ l s m ((a + b) / 2 + m - s) l := RotQ.id (by omega) (by omega) (by omega)
              have hRm := hC.rot hR
              have hlen1 : l.length = l.length := hR.len
              have hfo1 := hRm.st.frOk hfr
              have hsa1 := hC.p1 hR
              have hsb1 := hC.p2 hR
              refine l_val rfl (o_move rfl) ?_
              refine l_val rfl (o_move rfl) ?_
              refine l_split rfl (o_lss rfl rfl) (fun q22 => ?_) (fun q22 => ?_)
              · skip
                refine l_val rfl (o_move rfl) ?_
                refine l_val rfl (o_move rfl) ?_
                refine l_val rfl (o_move rfl) ?_
                refine l_split rfl (o_lss rfl rfl) (fun q23 => ?_) (fun q23 => ?_)
                · skip
                  refine l_val rfl (o_pickT rfl rfl) ?_
                  refine l_nil ?_
                  refine kt_norm ?_
                  refine v_sel [20, 0, 1, 3, 4, 18, 24, 199] [1000] rfl rfl ?_
                  refine v_condT rfl ?_
                  refine v_region ?_
                  refine l_val rfl (o_move rfl) ?_
                  refine l_val rfl (o_move rfl) ?_
                  refine l_val rfl (o_move rfl) ?_
                  refine l_val rfl (o_move rfl) ?_
                  refine l_val rfl (o_move rfl) ?_
                  refine l_gmutX (ks := []) 1000 (fun lz => SrtQ l a ((a + b) / 2) lz) (fun lz => lz.flatMap eE) (n := l.length) (caps := #[]) (vs := [_, _, _, _, _]) rfl rfl (ent_of Try.func79 rfl rfl) rfl rfl (fun w' hg hh hok2 => ?_) (fun l2 y1 hM1 => ?_)
                  · have hsl : l.length = l.length := hlen1
                    have hres := ih w' v l a s ((a + b) / 2) (by omega) (by omega) (by omega) (by omega) (by rw [hsl]; omega) (by rw [hsl]; exact hok2) hfo1 hsa1 hsb1
                    rw [hsl] at hres
                    have e0 : (((a + b) / 2 : Nat) : Int) = ((a : Int) + (b : Int)) % 18446744073709551616 / 2 := by omega
                    rw [e0] at hres
                    exact hres
                  refine l_nil ?_
                  refine kt_norm ?_
                  refine v_sel [0, 3, 4, 18, 24] [1000] rfl rfl ?_
                  refine v_seq ?_
                  refine v_region ?_
                  have hlen2 : l2.length = l.length := hM1.mut_.st.len.trans hlen1
                  have hfo2 := hM1.mut_.st.frOk hfo1
                  have hsa2 : SrtOn l2 ((a + b) / 2) ((a + b) / 2 + m - s) := fun p q h1 h2 h3 => by rw [hM1.mut_.out p (.inr h1), hM1.mut_.out q (.inr (by omega))]; exact hC.p3 hR p q h1 h2 h3
                  have hsb2 : SrtOn l2 ((a + b) / 2 + m - s) b := fun p q h1 h2 h3 => by rw [hM1.mut_.out p (.inr (by omega)), hM1.mut_.out q (.inr (by omega))]; exact hC.p4 hR p q h1 h2 h3
                  refine l_val rfl (o_move rfl) ?_
                  refine l_val rfl (o_move rfl) ?_
                  refine l_split rfl (o_lss rfl rfl) (fun q24 => ?_) (fun q24 => ?_)
                  · skip
                    refine l_val rfl (o_move rfl) ?_
                    refine l_val rfl (o_move rfl) ?_
                    refine l_val rfl (o_move rfl) ?_
                    refine l_split rfl (o_lss rfl rfl) (fun q25 => ?_) (fun q25 => ?_)
                    · skip
                      refine l_val rfl (o_pickT rfl rfl) ?_
                      refine l_nil ?_
                      refine kt_norm ?_
                      refine v_sel [0, 3, 4, 18, 24, 213] [1000] rfl rfl ?_
                      refine v_condT rfl ?_
                      refine v_region ?_
                      refine l_val rfl (o_move rfl) ?_
                      refine l_val rfl (o_move rfl) ?_
                      refine l_val rfl (o_move rfl) ?_
                      refine l_val rfl (o_move rfl) ?_
                      refine l_val rfl (o_move rfl) ?_
                      refine l_gmutX (ks := []) 1000 (fun lz => SrtQ l2 ((a + b) / 2) b lz) (fun lz => lz.flatMap eE) (n := l.length) (caps := #[]) (vs := [_, _, _, _, _]) rfl rfl (ent_of Try.func79 rfl rfl) rfl rfl (fun w' hg hh hok2 => ?_) (fun l3 y2 hM2 => ?_)
                      · have hsl : l2.length = l.length := hlen2
                        have hres := ih w' v l2 ((a + b) / 2) ((a + b) / 2 + m - s) b (by omega) (by omega) (by omega) (by omega) (by rw [hsl]; omega) (by rw [hsl]; exact hok2) hfo2 hsa2 hsb2
                        rw [hsl] at hres
                        have e0 : (((a + b) / 2 : Nat) : Int) = ((a : Int) + (b : Int)) % 18446744073709551616 / 2 := by omega
                        have e1 : (((a + b) / 2 + m - s : Nat) : Int) = ((a : Int) + (b : Int)) % 18446744073709551616 / 2 + (m : Int) - (s : Int) := by omega
                        rw [e1] at hres
                        rw [e0] at hres
                        exact hres
                      refine l_nil ?_
                      refine ⟨[], ResAll.nil, ?_⟩
                      first
                        | exact ⟨cur, ⟨hM, InsL.srt (show InsL l a (i - 1) cur from (show k = i - 1 by omega) ▸ hI) (by omega) hjb (fun p q h1 h2 h3 => hs2 p q (by omega) h2 h3) (fun q h1 h2 => hA q (by omega) h2) hB⟩, rfl⟩
                        | exact ⟨cur, ⟨hM, InsB.srt (show InsB l m i cur from (show k = i by omega) ▸ hI) hmi hjb (by omega) hs1 hA hB⟩, rfl⟩
                        | exact ⟨_, hC.done hR hM1 hM2, rfl⟩
                        | exact ⟨_, hC.done hR hM1 (SrtQ.same hsa2 hsb2 (by omega)), rfl⟩
                    · skip
                      refine l_val rfl (o_pickT rfl rfl) ?_
                      refine l_nil ?_
                      refine kt_norm ?_
                      refine v_sel [0, 3, 4, 18, 24, 213] [1000] rfl rfl ?_
                      refine v_condF rfl ?_
                      refine v_skip ?_
                      refine ⟨[], ResAll.nil, ?_⟩
                      first
                        | exact ⟨cur, ⟨hM, InsL.srt (show InsL l a (i - 1) cur from (show k = i - 1 by omega) ▸ hI) (by omega) hjb (fun p q h1 h2 h3 => hs2 p q (by omega) h2 h3) (fun q h1 h2 => hA q (by omega) h2) hB⟩, rfl⟩
                        | exact ⟨cur, ⟨hM, InsB.srt (show InsB l m i cur from (show k = i by omega) ▸ hI) hmi hjb (by omega) hs1 hA hB⟩, rfl⟩
                        | exact ⟨_, hC.done hR hM1 hM2, rfl⟩
                        | exact ⟨_, hC.done hR hM1 (SrtQ.same hsa2 hsb2 (by omega)), rfl⟩
                  · skip
                    refine l_val rfl (o_move rfl) ?_
                    refine l_no rfl ?_
                    refine l_no rfl ?_
                    refine l_no rfl ?_
                    refine l_val rfl (o_pickF rfl rfl) ?_
                    refine l_nil ?_
                    refine kt_norm ?_
                    refine v_sel [0, 3, 4, 18, 24, 213] [1000] rfl rfl ?_
                    refine v_condF rfl ?_
                    refine v_skip ?_
                    refine ⟨[], ResAll.nil, ?_⟩
                    first
                      | exact ⟨cur, ⟨hM, InsL.srt (show InsL l a (i - 1) cur from (show k = i - 1 by omega) ▸ hI) (by omega) hjb (fun p q h1 h2 h3 => hs2 p q (by omega) h2 h3) (fun q h1 h2 => hA q (by omega) h2) hB⟩, rfl⟩
                      | exact ⟨cur, ⟨hM, InsB.srt (show InsB l m i cur from (show k = i by omega) ▸ hI) hmi hjb (by omega) hs1 hA hB⟩, rfl⟩
                      | exact ⟨_, hC.done hR hM1 hM2, rfl⟩
                      | exact ⟨_, hC.done hR hM1 (SrtQ.same hsa2 hsb2 (by omega)), rfl⟩
                · skip
                  refine l_val rfl (o_pickT rfl rfl) ?_
                  refine l_nil ?_
                  refine kt_norm ?_
                  refine v_sel [20, 0, 1, 3, 4, 18, 24, 199] [1000] rfl rfl ?_
                  refine v_condF rfl ?_
                  refine v_skip ?_
                  refine kt_norm ?_
                  refine v_seq ?_
                  refine v_region ?_
                  have hM1 : SrtQ l a ((a + b) / 2) l := SrtQ.same hsa1 hsb1 (by omega)
                  have hlen2 : l.length = l.length := hM1.mut_.st.len.trans hlen1
                  have hfo2 := hM1.mut_.st.frOk hfo1
                  have hsa2 : SrtOn l ((a + b) / 2) ((a + b) / 2 + m - s) := fun p q h1 h2 h3 => by rw [hM1.mut_.out p (.inr h1), hM1.mut_.out q (.inr (by omega))]; exact hC.p3 hR p q h1 h2 h3
                  have hsb2 : SrtOn l ((a + b) / 2 + m - s) b := fun p q h1 h2 h3 => by rw [hM1.mut_.out p (.inr (by omega)), hM1.mut_.out q (.inr (by omega))]; exact hC.p4 hR p q h1 h2 h3
                  refine l_val rfl (o_move rfl) ?_
                  refine l_val rfl (o_move rfl) ?_
                  refine l_split rfl (o_lss rfl rfl) (fun q26 => ?_) (fun q26 => ?_)
                  · skip
                    refine l_val rfl (o_move rfl) ?_
                    refine l_val rfl (o_move rfl) ?_
                    refine l_val rfl (o_move rfl) ?_
                    refine l_split rfl (o_lss rfl rfl) (fun q27 => ?_) (fun q27 => ?_)
                    · skip
                      refine l_val rfl (o_pickT rfl rfl) ?_
                      refine l_nil ?_
                      refine kt_norm ?_
                      refine v_sel [0, 3, 4, 18, 24, 213] [1000] rfl rfl ?_
                      refine v_condT rfl ?_
                      refine v_region ?_
                      refine l_val rfl (o_move rfl) ?_
                      refine l_val rfl (o_move rfl) ?_
                      refine l_val rfl (o_move rfl) ?_
                      refine l_val rfl (o_move rfl) ?_
                      refine l_val rfl (o_move rfl) ?_
                      refine l_gmutX (ks := []) 1000 (fun lz => SrtQ l ((a + b) / 2) b lz) (fun lz => lz.flatMap eE) (n := l.length) (caps := #[]) (vs := [_, _, _, _, _]) rfl rfl (ent_of Try.func79 rfl rfl) rfl rfl (fun w' hg hh hok2 => ?_) (fun l3 y2 hM2 => ?_)
                      · have hsl : l.length = l.length := hlen2
                        have hres := ih w' v l ((a + b) / 2) ((a + b) / 2 + m - s) b (by omega) (by omega) (by omega) (by omega) (by rw [hsl]; omega) (by rw [hsl]; exact hok2) hfo2 hsa2 hsb2
                        rw [hsl] at hres
                        have e0 : (((a + b) / 2 : Nat) : Int) = ((a : Int) + (b : Int)) % 18446744073709551616 / 2 := by omega
                        have e1 : (((a + b) / 2 + m - s : Nat) : Int) = ((a : Int) + (b : Int)) % 18446744073709551616 / 2 + (m : Int) - (s : Int) := by omega
                        rw [e1] at hres
                        rw [e0] at hres
                        exact hres
                      refine l_nil ?_
                      refine ⟨[], ResAll.nil, ?_⟩
                      first
                        | exact ⟨cur, ⟨hM, InsL.srt (show InsL l a (i - 1) cur from (show k = i - 1 by omega) ▸ hI) (by omega) hjb (fun p q h1 h2 h3 => hs2 p q (by omega) h2 h3) (fun q h1 h2 => hA q (by omega) h2) hB⟩, rfl⟩
                        | exact ⟨cur, ⟨hM, InsB.srt (show InsB l m i cur from (show k = i by omega) ▸ hI) hmi hjb (by omega) hs1 hA hB⟩, rfl⟩
                        | exact ⟨_, hC.done hR hM1 hM2, rfl⟩
                        | exact ⟨_, hC.done hR hM1 (SrtQ.same hsa2 hsb2 (by omega)), rfl⟩
                    · skip
                      refine l_val rfl (o_pickT rfl rfl) ?_
                      refine l_nil ?_
                      refine kt_norm ?_
                      refine v_sel [0, 3, 4, 18, 24, 213] [1000] rfl rfl ?_
                      refine v_condF rfl ?_
                      refine v_skip ?_
                      refine ⟨[], ResAll.nil, ?_⟩
                      first
                        | exact ⟨cur, ⟨hM, InsL.srt (show InsL l a (i - 1) cur from (show k = i - 1 by omega) ▸ hI) (by omega) hjb (fun p q h1 h2 h3 => hs2 p q (by omega) h2 h3) (fun q h1 h2 => hA q (by omega) h2) hB⟩, rfl⟩
                        | exact ⟨cur, ⟨hM, InsB.srt (show InsB l m i cur from (show k = i by omega) ▸ hI) hmi hjb (by omega) hs1 hA hB⟩, rfl⟩
                        | exact ⟨_, hC.done hR hM1 hM2, rfl⟩
                        | exact ⟨_, hC.done hR hM1 (SrtQ.same hsa2 hsb2 (by omega)), rfl⟩
                  · skip
                    refine l_val rfl (o_move rfl) ?_
                    refine l_no rfl ?_
                    refine l_no rfl ?_
                    refine l_no rfl ?_
                    refine l_val rfl (o_pickF rfl rfl) ?_
                    refine l_nil ?_
                    refine kt_norm ?_
                    refine v_sel [0, 3, 4, 18, 24, 213] [1000] rfl rfl ?_
                    refine v_condF rfl ?_
                    refine v_skip ?_
                    refine ⟨[], ResAll.nil, ?_⟩
                    first
                      | exact ⟨cur, ⟨hM, InsL.srt (show InsL l a (i - 1) cur from (show k = i - 1 by omega) ▸ hI) (by omega) hjb (fun p q h1 h2 h3 => hs2 p q (by omega) h2 h3) (fun q h1 h2 => hA q (by omega) h2) hB⟩, rfl⟩
                      | exact ⟨cur, ⟨hM, InsB.srt (show InsB l m i cur from (show k = i by omega) ▸ hI) hmi hjb (by omega) hs1 hA hB⟩, rfl⟩
                      | exact ⟨_, hC.done hR hM1 hM2, rfl⟩
                      | exact ⟨_, hC.done hR hM1 (SrtQ.same hsa2 hsb2 (by omega)), rfl⟩
              · skip
                refine l_val rfl (o_move rfl) ?_
                refine l_no rfl ?_
                refine l_no rfl ?_
                refine l_no rfl ?_
                refine l_val rfl (o_pickF rfl rfl) ?_
                refine l_nil ?_
                refine kt_norm ?_
                refine v_sel [20, 0, 1, 3, 4, 18, 24, 199] [1000] rfl rfl ?_
                refine v_condF rfl ?_
                refine v_skip ?_
                refine kt_norm ?_
                refine v_seq ?_
                refine v_region ?_
                have hM1 : SrtQ l a ((a + b) / 2) l := SrtQ.same hsa1 hsb1 (by omega)
                have hlen2 : l.length = l.length := hM1.mut_.st.len.trans hlen1
                have hfo2 := hM1.mut_.st.frOk hfo1
                have hsa2 : SrtOn l ((a + b) / 2) ((a + b) / 2 + m - s) := fun p q h1 h2 h3 => by rw [hM1.mut_.out p (.inr h1), hM1.mut_.out q (.inr (by omega))]; exact hC.p3 hR p q h1 h2 h3
                have hsb2 : SrtOn l ((a + b) / 2 + m - s) b := fun p q h1 h2 h3 => by rw [hM1.mut_.out p (.inr (by omega)), hM1.mut_.out q (.inr (by omega))]; exact hC.p4 hR p q h1 h2 h3
                refine l_val rfl (o_move rfl) ?_
                refine l_val rfl (o_move rfl) ?_
                refine l_split rfl (o_lss rfl rfl) (fun q28 => ?_) (fun q28 => ?_)
                · skip
                  refine l_val rfl (o_move rfl) ?_
                  refine l_val rfl (o_move rfl) ?_
                  refine l_val rfl (o_move rfl) ?_
                  refine l_split rfl (o_lss rfl rfl) (fun q29 => ?_) (fun q29 => ?_)
                  · skip
                    refine l_val rfl (o_pickT rfl rfl) ?_
                    refine l_nil ?_
                    refine kt_norm ?_
                    refine v_sel [0, 3, 4, 18, 24, 213] [1000] rfl rfl ?_
                    refine v_condT rfl ?_
                    refine v_region ?_
                    refine l_val rfl (o_move rfl) ?_
                    refine l_val rfl (o_move rfl) ?_
                    refine l_val rfl (o_move rfl) ?_
                    refine l_val rfl (o_move rfl) ?_
                    refine l_val rfl (o_move rfl) ?_
                    refine l_gmutX (ks := []) 1000 (fun lz => SrtQ l ((a + b) / 2) b lz) (fun lz => lz.flatMap eE) (n := l.length) (caps := #[]) (vs := [_, _, _, _, _]) rfl rfl (ent_of Try.func79 rfl rfl) rfl rfl (fun w' hg hh hok2 => ?_) (fun l3 y2 hM2 => ?_)
                    · have hsl : l.length = l.length := hlen2
                      have hres := ih w' v l ((a + b) / 2) ((a + b) / 2 + m - s) b (by omega) (by omega) (by omega) (by omega) (by rw [hsl]; omega) (by rw [hsl]; exact hok2) hfo2 hsa2 hsb2
                      rw [hsl] at hres
                      have e0 : (((a + b) / 2 : Nat) : Int) = ((a : Int) + (b : Int)) % 18446744073709551616 / 2 := by omega
                      have e1 : (((a + b) / 2 + m - s : Nat) : Int) = ((a : Int) + (b : Int)) % 18446744073709551616 / 2 + (m : Int) - (s : Int) := by omega
                      rw [e1] at hres
                      rw [e0] at hres
                      exact hres
                    refine l_nil ?_
                    refine ⟨[], ResAll.nil, ?_⟩
                    first
                      | exact ⟨cur, ⟨hM, InsL.srt (show InsL l a (i - 1) cur from (show k = i - 1 by omega) ▸ hI) (by omega) hjb (fun p q h1 h2 h3 => hs2 p q (by omega) h2 h3) (fun q h1 h2 => hA q (by omega) h2) hB⟩, rfl⟩
                      | exact ⟨cur, ⟨hM, InsB.srt (show InsB l m i cur from (show k = i by omega) ▸ hI) hmi hjb (by omega) hs1 hA hB⟩, rfl⟩
                      | exact ⟨_, hC.done hR hM1 hM2, rfl⟩
                      | exact ⟨_, hC.done hR hM1 (SrtQ.same hsa2 hsb2 (by omega)), rfl⟩
                  · skip
                    refine l_val rfl (o_pickT rfl rfl) ?_
                    refine l_nil ?_
                    refine kt_norm ?_
                    refine v_sel [0, 3, 4, 18, 24, 213] [1000] rfl rfl ?_
                    refine v_condF rfl ?_
                    refine v_skip ?_
                    refine ⟨[], ResAll.nil, ?_⟩
                    first
                      | exact ⟨cur, ⟨hM, InsL.srt (show InsL l a (i - 1) cur from (show k = i - 1 by omega) ▸ hI) (by omega) hjb (fun p q h1 h2 h3 => hs2 p q (by omega) h2 h3) (fun q h1 h2 => hA q (by omega) h2) hB⟩, rfl⟩
                      | exact ⟨cur, ⟨hM, InsB.srt (show InsB l m i cur from (show k = i by omega) ▸ hI) hmi hjb (by omega) hs1 hA hB⟩, rfl⟩
                      | exact ⟨_, hC.done hR hM1 hM2, rfl⟩
                      | exact ⟨_, hC.done hR hM1 (SrtQ.same hsa2 hsb2 (by omega)), rfl⟩
                · skip
                  refine l_val rfl (o_move rfl) ?_
                  refine l_no rfl ?_
                  refine l_no rfl ?_
                  refine l_no rfl ?_
                  refine l_val rfl (o_pickF rfl rfl) ?_
                  refine l_nil ?_
                  refine kt_norm ?_
                  refine v_sel [0, 3, 4, 18, 24, 213] [1000] rfl rfl ?_
                  refine v_condF rfl ?_
                  refine v_skip ?_
                  refine ⟨[], ResAll.nil, ?_⟩
                  first
                    | exact ⟨cur, ⟨hM, InsL.srt (show InsL l a (i - 1) cur from (show k = i - 1 by omega) ▸ hI) (by omega) hjb (fun p q h1 h2 h3 => hs2 p q (by omega) h2 h3) (fun q h1 h2 => hA q (by omega) h2) hB⟩, rfl⟩
                    | exact ⟨cur, ⟨hM, InsB.srt (show InsB l m i cur from (show k = i by omega) ▸ hI) hmi hjb (by omega) hs1 hA hB⟩, rfl⟩
                    | exact ⟨_, hC.done hR hM1 hM2, rfl⟩
                    | exact ⟨_, hC.done hR hM1 (SrtQ.same hsa2 hsb2 (by omega)), rfl⟩
          · skip
            refine l_val rfl (o_move rfl) ?_
            refine l_no rfl ?_
            refine l_no rfl ?_
            refine l_no rfl ?_
            refine l_val rfl (o_pickF rfl rfl) ?_
            refine l_nil ?_
            refine kt_norm ?_
            refine v_sel [20, 0, 1, 2, 3, 4, 18, 24, 185] [1000] rfl rfl ?_
            refine v_condF rfl ?_
            refine v_skip ?_
            refine kt_norm ?_
            refine v_seq ?_
            refine v_seq ?_
            refine v_region ?_
            have hR : RotQ l s m ((a + b) / 2 + m - s) l := RotQ.id (by omega) (by omega) (by omega)
            have hRm := hC.rot hR
            have hlen1 : l.length = l.length := hR.len
            have hfo1 := hRm.st.frOk hfr
            have hsa1 := hC.p1 hR
            have hsb1 := hC.p2 hR
            refine l_val rfl (o_move rfl) ?_
            refine l_val rfl (o_move rfl) ?_
            refine l_split rfl (o_lss rfl rfl) (fun q30 => ?_) (fun q30 => ?_)
            · skip
              refine l_val rfl (o_move rfl) ?_
              refine l_val rfl (o_move rfl) ?_
              refine l_val rfl (o_move rfl) ?_
              refine l_split rfl (o_lss rfl rfl) (fun q31 => ?_) (fun q31 => ?_)
              · skip
                refine l_val rfl (o_pickT rfl rfl) ?_
                refine l_nil ?_
                refine kt_norm ?_
                refine v_sel [20, 0, 1, 3, 4, 18, 24, 199] [1000] rfl rfl ?_
                refine v_condT rfl ?_
                refine v_region ?_
                refine l_val rfl (o_move rfl) ?_
                refine l_val rfl (o_move rfl) ?_
                refine l_val rfl (o_move rfl) ?_
                refine l_val rfl (o_move rfl) ?_
                refine l_val rfl (o_move rfl) ?_
                refine l_gmutX (ks := []) 1000 (fun lz => SrtQ l a ((a + b) / 2) lz) (fun lz => lz.flatMap eE) (n := l.length) (caps := #[]) (vs := [_, _, _, _, _]) rfl rfl (ent_of Try.func79 rfl rfl) rfl rfl (fun w' hg hh hok2 => ?_) (fun l2 y1 hM1 => ?_)
                · have hsl : l.length = l.length := hlen1
                  have hres := ih w' v l a s ((a + b) / 2) (by omega) (by omega) (by omega) (by omega) (by rw [hsl]; omega) (by rw [hsl]; exact hok2) hfo1 hsa1 hsb1
                  rw [hsl] at hres
                  have e0 : (((a + b) / 2 : Nat) : Int) = ((a : Int) + (b : Int)) % 18446744073709551616 / 2 := by omega
                  rw [e0] at hres
                  exact hres
                refine l_nil ?_
                refine kt_norm ?_
                refine v_sel [0, 3, 4, 18, 24] [1000] rfl rfl ?_
                refine v_seq ?_
                refine v_region ?_
                have hlen2 : l2.length = l.length := hM1.mut_.st.len.trans hlen1
                have hfo2 := hM1.mut_.st.frOk hfo1
                have hsa2 : SrtOn l2 ((a + b) / 2) ((a + b) / 2 + m - s) := fun p q h1 h2 h3 => by rw [hM1.mut_.out p (.inr h1), hM1.mut_.out q (.inr (by omega))]; exact hC.p3 hR p q h1 h2 h3
                have hsb2 : SrtOn l2 ((a + b) / 2 + m - s) b := fun p q h1 h2 h3 => by rw [hM1.mut_.out p (.inr (by omega)), hM1.mut_.out q (.inr (by omega))]; exact hC.p4 hR p q h1 h2 h3
                refine l_val rfl (o_move rfl) ?_
                refine l_val rfl (o_move rfl) ?_
                refine l_split rfl (o_lss rfl rfl) (fun q32 => ?_) (fun q32 => ?_)
                · skip
                  refine l_val rfl (o_move rfl) ?_
                  refine l_val rfl (o_move rfl) ?_
                  refine l_val rfl (o_move rfl) ?_
                  refine l_split rfl (o_lss rfl rfl) (fun q33 => ?_) (fun q33 => ?_)
                  · skip
                    refine l_val rfl (o_pickT rfl rfl) ?_
                    refine l_nil ?_
                    refine kt_norm ?_
                    refine v_sel [0, 3, 4, 18, 24, 213] [1000] rfl rfl ?_
                    refine v_condT rfl ?_
                    refine v_region ?_
                    refine l_val rfl (o_move rfl) ?_
                    refine l_val rfl (o_move rfl) ?_
                    refine l_val rfl (o_move rfl) ?_
                    refine l_val rfl (o_move rfl) ?_
                    refine l_val rfl (o_move rfl) ?_
                    refine l_gmutX (ks := []) 1000 (fun lz => SrtQ l2 ((a + b) / 2) b lz) (fun lz => lz.flatMap eE) (n := l.length) (caps := #[]) (vs := [_, _, _, _, _]) rfl rfl (ent_of Try.func79 rfl rfl) rfl rfl (fun w' hg hh hok2 => ?_) (fun l3 y2 hM2 => ?_)
                    · have hsl : l2.length = l.length := hlen2
                      have hres := ih w' v l2 ((a + b) / 2) ((a + b) / 2 + m - s) b (by omega) (by omega) (by omega) (by omega) (by rw [hsl]; omega) (by rw [hsl]; exact hok2) hfo2 hsa2 hsb2
                      rw [hsl] at hres
                      have e0 : (((a + b) / 2 : Nat) : Int) = ((a : Int) + (b : Int)) % 18446744073709551616 / 2 := by omega
                      have e1 : (((a + b) / 2 + m - s : Nat) : Int) = ((a : Int) + (b : Int)) % 18446744073709551616 / 2 + (m : Int) - (s : Int) := by omega
                      rw [e1] at hres
                      rw [e0] at hres
                      exact hres
                    refine l_nil ?_
                    refine ⟨[], ResAll.nil, ?_⟩
                    first
                      | exact ⟨cur, ⟨hM, InsL.srt (show InsL l a (i - 1) cur from (show k = i - 1 by omega) ▸ hI) (by omega) hjb (fun p q h1 h2 h3 => hs2 p q (by omega) h2 h3) (fun q h1 h2 => hA q (by omega) h2) hB⟩, rfl⟩
                      | exact ⟨cur, ⟨hM, InsB.srt (show InsB l m i cur from (show k = i by omega) ▸ hI) hmi hjb (by omega) hs1 hA hB⟩, rfl⟩
                      | exact ⟨_, hC.done hR hM1 hM2, rfl⟩
                      | exact ⟨_, hC.done hR hM1 (SrtQ.same hsa2 hsb2 (by omega)), rfl⟩
                  · skip
                    refine l_val rfl (o_pickT rfl rfl) ?_
                    refine l_nil ?_
                    refine kt_norm ?_
                    refine v_sel [0, 3, 4, 18, 24, 213] [1000] rfl rfl ?_
                    refine v_condF rfl ?_
                    refine v_skip ?_
                    refine ⟨[], ResAll.nil, ?_⟩
                    first
                      | exact ⟨cur, ⟨hM, InsL.srt (show InsL l a (i - 1) cur from (show k = i - 1 by omega) ▸ hI) (by omega) hjb (fun p q h1 h2 h3 => hs2 p q (by omega) h2 h3) (fun q h1 h2 => hA q (by omega) h2) hB⟩, rfl⟩
                      | exact ⟨cur, ⟨hM, InsB.srt (show InsB l m i cur from (show k = i by omega) ▸ hI) hmi hjb (by omega) hs1 hA hB⟩, rfl⟩
                      | exact ⟨_, hC.done hR hM1 hM2, rfl⟩
                      | exact ⟨_, hC.done hR hM1 (SrtQ.same hsa2 hsb2 (by omega)), rfl⟩
                · skip
                  refine l_val rfl (o_move rfl) ?_
                  refine l_no rfl ?_
                  refine l_no rfl ?_
                  refine l_no rfl ?_
                  refine l_val rfl (o_pickF rfl rfl) ?_
                  refine l_nil ?_
                  refine kt_norm ?_
                  refine v_sel [0, 3, 4, 18, 24, 213] [1000] rfl rfl ?_
                  refine v_condF rfl ?_
                  refine v_skip ?_
                  refine ⟨[], ResAll.nil, ?_⟩
                  first
                    | exact ⟨cur, ⟨hM, InsL.srt (show InsL l a (i - 1) cur from (show k = i - 1 by omega) ▸ hI) (by omega) hjb (fun p q h1 h2 h3 => hs2 p q (by omega) h2 h3) (fun q h1 h2 => hA q (by omega) h2) hB⟩, rfl⟩
                    | exact ⟨cur, ⟨hM, InsB.srt (show InsB l m i cur from (show k = i by omega) ▸ hI) hmi hjb (by omega) hs1 hA hB⟩, rfl⟩
                    | exact ⟨_, hC.done hR hM1 hM2, rfl⟩
                    | exact ⟨_, hC.done hR hM1 (SrtQ.same hsa2 hsb2 (by omega)), rfl⟩
              · skip
                refine l_val rfl (o_pickT rfl rfl) ?_
                refine l_nil ?_
                refine kt_norm ?_
                refine v_sel [20, 0, 1, 3, 4, 18, 24, 199] [1000] rfl rfl ?_
                refine v_condF rfl ?_
                refine v_skip ?_
                refine kt_norm ?_
                refine v_seq ?_
                refine v_region ?_
                have hM1 : SrtQ l a ((a + b) / 2) l := SrtQ.same hsa1 hsb1 (by omega)
                have hlen2 : l.length = l.length := hM1.mut_.st.len.trans hlen1
                have hfo2 := hM1.mut_.st.frOk hfo1
                have hsa2 : SrtOn l ((a + b) / 2) ((a + b) / 2 + m - s) := fun p q h1 h2 h3 => by rw [hM1.mut_.out p (.inr h1), hM1.mut_.out q (.inr (by omega))]; exact hC.p3 hR p q h1 h2 h3
                have hsb2 : SrtOn l ((a + b) / 2 + m - s) b := fun p q h1 h2 h3 => by rw [hM1.mut_.out p (.inr (by omega)), hM1.mut_.out q (.inr (by omega))]; exact hC.p4 hR p q h1 h2 h3
                refine l_val rfl (o_move rfl) ?_
                refine l_val rfl (o_move rfl) ?_
                refine l_split rfl (o_lss rfl rfl) (fun q34 => ?_) (fun q34 => ?_)
                · skip
                  refine l_val rfl (o_move rfl) ?_
                  refine l_val rfl (o_move rfl) ?_
                  refine l_val rfl (o_move rfl) ?_
                  refine l_split rfl (o_lss rfl rfl) (fun q35 => ?_) (fun q35 => ?_)
                  · skip
                    refine l_val rfl (o_pickT rfl rfl) ?_
                    refine l_nil ?_
                    refine kt_norm ?_
                    refine v_sel [0, 3, 4, 18, 24, 213] [1000] rfl rfl ?_
                    refine v_condT rfl ?_
                    refine v_region ?_
                    refine l_val rfl (o_move rfl) ?_
                    refine l_val rfl (o_move rfl) ?_
                    refine l_val rfl (o_move rfl) ?_
                    refine l_val rfl (o_move rfl) ?_
                    refine l_val rfl (o_move rfl) ?_
                    refine l_gmutX (ks := []) 1000 (fun lz => SrtQ l ((a + b) / 2) b lz) (fun lz => lz.flatMap eE) (n := l.length) (caps := #[]) (vs := [_, _, _, _, _]) rfl rfl (ent_of Try.func79 rfl rfl) rfl rfl (fun w' hg hh hok2 => ?_) (fun l3 y2 hM2 => ?_)
                    · have hsl : l.length = l.length := hlen2
                      have hres := ih w' v l ((a + b) / 2) ((a + b) / 2 + m - s) b (by omega) (by omega) (by omega) (by omega) (by rw [hsl]; omega) (by rw [hsl]; exact hok2) hfo2 hsa2 hsb2
                      rw [hsl] at hres
                      have e0 : (((a + b) / 2 : Nat) : Int) = ((a : Int) + (b : Int)) % 18446744073709551616 / 2 := by omega
                      have e1 : (((a + b) / 2 + m - s : Nat) : Int) = ((a : Int) + (b : Int)) % 18446744073709551616 / 2 + (m : Int) - (s : Int) := by omega
                      rw [e1] at hres
                      rw [e0] at hres
                      exact hres
                    refine l_nil ?_
                    refine ⟨[], ResAll.nil, ?_⟩
                    first
                      | exact ⟨cur, ⟨hM, InsL.srt (show InsL l a (i - 1) cur from (show k = i - 1 by omega) ▸ hI) (by omega) hjb (fun p q h1 h2 h3 => hs2 p q (by omega) h2 h3) (fun q h1 h2 => hA q (by omega) h2) hB⟩, rfl⟩
                      | exact ⟨cur, ⟨hM, InsB.srt (show InsB l m i cur from (show k = i by omega) ▸ hI) hmi hjb (by omega) hs1 hA hB⟩, rfl⟩
                      | exact ⟨_, hC.done hR hM1 hM2, rfl⟩
                      | exact ⟨_, hC.done hR hM1 (SrtQ.same hsa2 hsb2 (by omega)), rfl⟩
                  · skip
                    refine l_val rfl (o_pickT rfl rfl) ?_
                    refine l_nil ?_
                    refine kt_norm ?_
                    refine v_sel [0, 3, 4, 18, 24, 213] [1000] rfl rfl ?_
                    refine v_condF rfl ?_
                    refine v_skip ?_
                    refine ⟨[], ResAll.nil, ?_⟩
                    first
                      | exact ⟨cur, ⟨hM, InsL.srt (show InsL l a (i - 1) cur from (show k = i - 1 by omega) ▸ hI) (by omega) hjb (fun p q h1 h2 h3 => hs2 p q (by omega) h2 h3) (fun q h1 h2 => hA q (by omega) h2) hB⟩, rfl⟩
                      | exact ⟨cur, ⟨hM, InsB.srt (show InsB l m i cur from (show k = i by omega) ▸ hI) hmi hjb (by omega) hs1 hA hB⟩, rfl⟩
                      | exact ⟨_, hC.done hR hM1 hM2, rfl⟩
                      | exact ⟨_, hC.done hR hM1 (SrtQ.same hsa2 hsb2 (by omega)), rfl⟩
                · skip
                  refine l_val rfl (o_move rfl) ?_
                  refine l_no rfl ?_
                  refine l_no rfl ?_
                  refine l_no rfl ?_
                  refine l_val rfl (o_pickF rfl rfl) ?_
                  refine l_nil ?_
                  refine kt_norm ?_
                  refine v_sel [0, 3, 4, 18, 24, 213] [1000] rfl rfl ?_
                  refine v_condF rfl ?_
                  refine v_skip ?_
                  refine ⟨[], ResAll.nil, ?_⟩
                  first
                    | exact ⟨cur, ⟨hM, InsL.srt (show InsL l a (i - 1) cur from (show k = i - 1 by omega) ▸ hI) (by omega) hjb (fun p q h1 h2 h3 => hs2 p q (by omega) h2 h3) (fun q h1 h2 => hA q (by omega) h2) hB⟩, rfl⟩
                    | exact ⟨cur, ⟨hM, InsB.srt (show InsB l m i cur from (show k = i by omega) ▸ hI) hmi hjb (by omega) hs1 hA hB⟩, rfl⟩
                    | exact ⟨_, hC.done hR hM1 hM2, rfl⟩
                    | exact ⟨_, hC.done hR hM1 (SrtQ.same hsa2 hsb2 (by omega)), rfl⟩
            · skip
              refine l_val rfl (o_move rfl) ?_
              refine l_no rfl ?_
              refine l_no rfl ?_
              refine l_no rfl ?_
              refine l_val rfl (o_pickF rfl rfl) ?_
              refine l_nil ?_
              refine kt_norm ?_
              refine v_sel [20, 0, 1, 3, 4, 18, 24, 199] [1000] rfl rfl ?_
              refine v_condF rfl ?_
              refine v_skip ?_
              refine kt_norm ?_
              refine v_seq ?_
              refine v_region ?_
              have hM1 : SrtQ l a ((a + b) / 2) l := SrtQ.same hsa1 hsb1 (by omega)
              have hlen2 : l.length = l.length := hM1.mut_.st.len.trans hlen1
              have hfo2 := hM1.mut_.st.frOk hfo1
              have hsa2 : SrtOn l ((a + b) / 2) ((a + b) / 2 + m - s) := fun p q h1 h2 h3 => by rw [hM1.mut_.out p (.inr h1), hM1.mut_.out q (.inr (by omega))]; exact hC.p3 hR p q h1 h2 h3
              have hsb2 : SrtOn l ((a + b) / 2 + m - s) b := fun p q h1 h2 h3 => by rw [hM1.mut_.out p (.inr (by omega)), hM1.mut_.out q (.inr (by omega))]; exact hC.p4 hR p q h1 h2 h3
              refine l_val rfl (o_move rfl) ?_
              refine l_val rfl (o_move rfl) ?_
              refine l_split rfl (o_lss rfl rfl) (fun q36 => ?_) (fun q36 => ?_)
              · skip
                refine l_val rfl (o_move rfl) ?_
                refine l_val rfl (o_move rfl) ?_
                refine l_val rfl (o_move rfl) ?_
                refine l_split rfl (o_lss rfl rfl) (fun q37 => ?_) (fun q37 => ?_)
                · skip
                  refine l_val rfl (o_pickT rfl rfl) ?_
                  refine l_nil ?_
                  refine kt_norm ?_
                  refine v_sel [0, 3, 4, 18, 24, 213] [1000] rfl rfl ?_
                  refine v_condT rfl ?_
                  refine v_region ?_
                  refine l_val rfl (o_move rfl) ?_
                  refine l_val rfl (o_move rfl) ?_
                  refine l_val rfl (o_move rfl) ?_
                  refine l_val rfl (o_move rfl) ?_
                  refine l_val rfl (o_move rfl) ?_
                  refine l_gmutX (ks := []) 1000 (fun lz => SrtQ l ((a + b) / 2) b lz) (fun lz => lz.flatMap eE) (n := l.length) (caps := #[]) (vs := [_, _, _, _, _]) rfl rfl (ent_of Try.func79 rfl rfl) rfl rfl (fun w' hg hh hok2 => ?_) (fun l3 y2 hM2 => ?_)
                  · have hsl : l.length = l.length := hlen2
                    have hres := ih w' v l ((a + b) / 2) ((a + b) / 2 + m - s) b (by omega) (by omega) (by omega) (by omega) (by rw [hsl]; omega) (by rw [hsl]; exact hok2) hfo2 hsa2 hsb2
                    rw [hsl] at hres
                    have e0 : (((a + b) / 2 : Nat) : Int) = ((a : Int) + (b : Int)) % 18446744073709551616 / 2 := by omega
                    have e1 : (((a + b) / 2 + m - s : Nat) : Int) = ((a : Int) + (b : Int)) % 18446744073709551616 / 2 + (m : Int) - (s : Int) := by omega
                    rw [e1] at hres
                    rw [e0] at hres
                    exact hres
                  refine l_nil ?_
                  refine ⟨[], ResAll.nil, ?_⟩
                  first
                    | exact ⟨cur, ⟨hM, InsL.srt (show InsL l a (i - 1) cur from (show k = i - 1 by omega) ▸ hI) (by omega) hjb (fun p q h1 h2 h3 => hs2 p q (by omega) h2 h3) (fun q h1 h2 => hA q (by omega) h2) hB⟩, rfl⟩
                    | exact ⟨cur, ⟨hM, InsB.srt (show InsB l m i cur from (show k = i by omega) ▸ hI) hmi hjb (by omega) hs1 hA hB⟩, rfl⟩
                    | exact ⟨_, hC.done hR hM1 hM2, rfl⟩
                    | exact ⟨_, hC.done hR hM1 (SrtQ.same hsa2 hsb2 (by omega)), rfl⟩
                · skip
                  refine l_val rfl (o_pickT rfl rfl) ?_
                  refine l_nil ?_
                  refine kt_norm ?_
                  refine v_sel [0, 3, 4, 18, 24, 213] [1000] rfl rfl ?_
                  refine v_condF rfl ?_
                  refine v_skip ?_
                  refine ⟨[], ResAll.nil, ?_⟩
                  first
                    | exact ⟨cur, ⟨hM, InsL.srt (show InsL l a (i - 1) cur from (show k = i - 1 by omega) ▸ hI) (by omega) hjb (fun p q h1 h2 h3 => hs2 p q (by omega) h2 h3) (fun q h1 h2 => hA q (by omega) h2) hB⟩, rfl⟩
                    | exact ⟨cur, ⟨hM, InsB.srt (show InsB l m i cur from (show k = i by omega) ▸ hI) hmi hjb (by omega) hs1 hA hB⟩, rfl⟩
                    | exact ⟨_, hC.done hR hM1 hM2, rfl⟩
                    | exact ⟨_, hC.done hR hM1 (SrtQ.same hsa2 hsb2 (by omega)), rfl⟩
              · skip
                refine l_val rfl (o_move rfl) ?_
                refine l_no rfl ?_
                refine l_no rfl ?_
                refine l_no rfl ?_
                refine l_val rfl (o_pickF rfl rfl) ?_
                refine l_nil ?_
                refine kt_norm ?_
                refine v_sel [0, 3, 4, 18, 24, 213] [1000] rfl rfl ?_
                refine v_condF rfl ?_
                refine v_skip ?_
                refine ⟨[], ResAll.nil, ?_⟩
                first
                  | exact ⟨cur, ⟨hM, InsL.srt (show InsL l a (i - 1) cur from (show k = i - 1 by omega) ▸ hI) (by omega) hjb (fun p q h1 h2 h3 => hs2 p q (by omega) h2 h3) (fun q h1 h2 => hA q (by omega) h2) hB⟩, rfl⟩
                  | exact ⟨cur, ⟨hM, InsB.srt (show InsB l m i cur from (show k = i by omega) ▸ hI) hmi hjb (by omega) hs1 hA hB⟩, rfl⟩
                  | exact ⟨_, hC.done hR hM1 hM2, rfl⟩
                  | exact ⟨_, hC.done hR hM1 (SrtQ.same hsa2 hsb2 (by omega)), rfl⟩
      · obtain ⟨lo, hlo⟩ : ∃ lo, lo = a := ⟨_, rfl⟩
        obtain ⟨hi, hhi⟩ : ∃ hi, hi = m := ⟨_, rfl⟩
        refine l_nil ?_
        refine kt_norm ?_
        refine v_sel [0, 1, 2, 3, 4, 18, 19, 140] [1000] rfl rfl ?_
        refine v_condF rfl ?_
        refine v_seq ?_
        refine v_region ?_
        refine l_val rfl (o_move rfl) ?_
        refine l_val rfl (o_assign rfl) ?_
        refine l_nil ?_
        refine kt_norm ?_
        refine v_region ?_
        refine l_val rfl (o_move rfl) ?_
        refine l_val rfl (o_assign rfl) ?_
        refine l_nil ?_
        refine kt_norm ?_
        refine v_seq ?_
        refine v_region ?_
        refine l_val rfl (o_move rfl) ?_
        refine l_val rfl (o_subi rfl rfl ?_) ?_
        · omega
        refine l_val rfl (o_assign rfl) ?_
        refine l_nil ?_
        refine kt_norm ?_
        refine v_seq ?_
        refine v_block ?_
        refine v_loopS (α := Nat × Nat) (fun ⟨s, r⟩ => [(20, .int .i64 (s : Int)), (21, .int .i64 (r : Int))]) (fun ⟨s, r⟩ => [])  (fun ⟨s, r⟩ => lo ≤ s ∧ s ≤ r ∧ r ≤ hi ∧ (∀ c, lo ≤ c → c < s → (l.getD c dE).fr ≤ (l.getD ((a + b) / 2 + m - 1 - c) dE).fr) ∧ (∀ c, r ≤ c → c < hi → (l.getD ((a + b) / 2 + m - 1 - c) dE).fr < (l.getD c dE).fr)) (fun ⟨s, r⟩ => r - s) (lo, hi) [0, 1, 2, 3, 4, 18, 19, 22] [1000] ⟨Nat.le_refl _, by omega, Nat.le_refl _, fun c h1 h2 => by omega, fun c h1 h2 => by omega⟩  (And.intro (congrArg (fun q => some (Value.int .i64 q)) (by omega)) (And.intro (congrArg (fun q => some (Value.int .i64 q)) (by omega)) (True.intro))) rfl (True.intro) rfl ?_
        rintro ⟨s, r⟩ ⟨hls, hsr, hrh, hA, hB⟩
        refine v_seq ?_
        refine v_seq ?_
        refine v_region ?_
        refine l_val rfl (o_move rfl) ?_
        refine l_val rfl (o_move rfl) ?_
        refine l_split rfl (o_lss rfl rfl) (fun q38 => ?_) (fun q38 => ?_)
        · skip
          refine l_nil ?_
          refine kt_norm ?_
          refine v_condT rfl ?_
          refine v_skip ?_
          refine kt_norm ?_
          refine v_block ?_
          refine v_seq ?_
          refine v_region ?_
          refine l_val rfl (o_move rfl) ?_
          refine l_val rfl (o_move rfl) ?_
          refine l_val rfl (o_addi rfl rfl ?_) ?_
          · omega
          refine l_val rfl (o_convu rfl) ?_
          refine l_val rfl (o_shr (n := 1) (p := 2) rfl rfl (by decide) rfl (by decide)) ?_
          refine l_val rfl (o_convi rfl ?_) ?_
          · omega
          refine l_val rfl (o_assign rfl) ?_
          refine l_nil ?_
          refine kt_norm ?_
          refine v_sel [20, 21, 0, 1, 2, 3, 4, 18, 19, 22, 23] [1000] rfl rfl ?_
          refine v_seq ?_
          refine v_drawZ [[], [], [], [], [], [], [1000], [], [], [], [1000], [], [], []] mixed ?_ (by kernel_rfl) (by kernel_rfl)
          refine d_val (fun _ => rfl) rfl rfl (fun _ => o_move rfl) ?_
          refine d_val (fun _ => rfl) rfl rfl (fun _ => o_move rfl) ?_
          refine d_val (fun _ => rfl) rfl rfl (fun _ => o_move rfl) ?_
          refine d_val (fun _ => rfl) rfl rfl (fun _ => o_move rfl) ?_
          refine d_val (fun _ => rfl) rfl rfl (fun _ => o_subi rfl rfl ?_) ?_
          · omega
          refine d_val (fun _ => rfl) rfl rfl (fun _ => o_idx ((a + b) / 2 + m - 1 - (s + r) / 2) rfl hV rfl (by first | rfl | omega) (by omega)) ?_
          refine d_val (fun _ => rfl) rfl rfl (fun _ => o_loadRE (c' := [_, _, _, _, _, _, _]) rfl (row_own (key := 1000) rfl) (el_flat eE_len dE l ((a + b) / 2 + m - 1 - (s + r) / 2) (by omega)) rfl) ?_
          refine d_val (fun _ => rfl) rfl rfl (fun _ => o_move rfl) ?_
          refine d_val (fun _ => rfl) rfl rfl (fun _ => o_move rfl) ?_
          refine d_val (fun _ => rfl) rfl rfl (fun _ => o_idx (((s + r) / 2)) rfl hV rfl (by first | rfl | omega) (by omega)) ?_
          refine d_val (fun _ => rfl) rfl rfl (fun _ => o_loadRE (c' := [_, _, _, _, _, _, _]) rfl (row_own (key := 1000) rfl) (el_flat eE_len dE l (((s + r) / 2)) (by omega)) rfl) ?_
          refine d_ansv (vs := [_, _]) (fun _ => rfl) (fun _ => rfl) (fun _ => rfl) (a_CmpF (l.getD ((a + b) / 2 + m - 1 - (s + r) / 2) dE) (l.getD (((s + r) / 2)) dE) (frOk_getD hfr (by omega)) (frOk_getD hfr (by omega))) ?_
          refine d_lss (fun _ => rfl) (fun _ => rfl) (fun _ => rfl) (fun q39 => ?_) (fun q39 => ?_)
          · skip
            refine d_val (fun _ => rfl) rfl rfl (fun _ => o_not rfl rfl) ?_
            refine d_nil (fun σ => ?_)
            refine l_nil ?_
            refine kt_norm ?_
            refine v_sel [20, 21, 0, 1, 2, 3, 4, 18, 19, 22, 23, 171] [1000] rfl rfl ?_
            refine v_condF rfl ?_
            refine v_region ?_
            refine l_val rfl (o_move rfl) ?_
            refine l_val rfl (o_assign rfl) ?_
            refine l_nil ?_
            refine kb_norm ?_
            refine kt_norm ?_
            refine ⟨(s, ((s + r) / 2)), ⟨hls, by omega, by omega, hA, fun c h1 h2 => by (by_cases c2 : c = (s + r) / 2); (rw [c2]; omega); (by_cases c3 : r ≤ c); exact hB c c3 h2; (have := hs1 ((s + r) / 2) c (by omega) (by omega) (by omega)); (have := hs2 ((a + b) / 2 + m - 1 - c) ((a + b) / 2 + m - 1 - (s + r) / 2) (by omega) (by omega) (by omega)); omega⟩, (by show (s + r) / 2 - s < r - s; omega), le_app (And.intro rfl (And.intro (congrArg (fun q => some (Value.int .i64 q)) (by omega)) (True.intro))) [0, 1, 2, 3, 4, 18, 19, 22] rfl (True.intro) [1000] rfl⟩
          · skip
            refine d_val (fun _ => rfl) rfl rfl (fun _ => o_not rfl rfl) ?_
            refine d_nil (fun σ => ?_)
            refine l_nil ?_
            refine kt_norm ?_
            refine v_sel [20, 21, 0, 1, 2, 3, 4, 18, 19, 22, 23, 171] [1000] rfl rfl ?_
            refine v_condT rfl ?_
            refine v_region ?_
            refine l_val rfl (o_move rfl) ?_
            refine l_val rfl (o_addi rfl rfl ?_) ?_
            · omega
            refine l_val rfl (o_assign rfl) ?_
            refine l_nil ?_
            refine kb_norm ?_
            refine kt_norm ?_
            refine ⟨(((s + r) / 2) + 1, r), ⟨by omega, by omega, hrh, fun c h1 h2 => by (by_cases c2 : c = (s + r) / 2); (rw [c2]; omega); (by_cases c3 : c < s); exact hA c h1 c3; (have := hs1 c ((s + r) / 2) (by omega) (by omega) (by omega)); (have := hs2 ((a + b) / 2 + m - 1 - (s + r) / 2) ((a + b) / 2 + m - 1 - c) (by omega) (by omega) (by omega)); omega, hB⟩, (by show r - ((s + r) / 2 + 1) < r - s; omega), le_app (And.intro (congrArg (fun q => some (Value.int .i64 q)) (by omega)) (And.intro rfl (True.intro))) [0, 1, 2, 3, 4, 18, 19, 22] rfl (True.intro) [1000] rfl⟩
        · skip
          refine l_nil ?_
          refine kt_norm ?_
          refine v_condF rfl ?_
          refine v_exit ?_
          refine kt_exit ?_
          refine kt_exit ?_
          refine kb_eq ?_
          refine kt_norm ?_
          refine v_seq ?_
          refine v_region ?_
          obtain rfl : s = r := by omega
          have hC := cut_of (mid := (a + b) / 2) ham hmb hb rfl (lo := lo) (hi := hi) (s := s) (by omega) hls hrh hs1 hs2 hA hB
          refine l_val rfl (o_move rfl) ?_
          refine l_val rfl (o_move rfl) ?_
          refine l_val rfl (o_subi rfl rfl ?_) ?_
          · omega
          refine l_val rfl (o_assign rfl) ?_
          refine l_nil ?_
          refine kt_norm ?_
          refine v_sel [20, 0, 1, 2, 3, 4, 18, 24] [1000] rfl rfl ?_
          refine v_seq ?_
          refine v_seq ?_
          refine v_region ?_
          refine l_val rfl (o_move rfl) ?_
          refine l_val rfl (o_move rfl) ?_
          refine l_split rfl (o_lss rfl rfl) (fun q40 => ?_) (fun q40 => ?_)
          · skip
            refine l_val rfl (o_move rfl) ?_
            refine l_val rfl (o_move rfl) ?_
            refine l_val rfl (o_move rfl) ?_
            refine l_split rfl (o_lss rfl rfl) (fun q41 => ?_) (fun q41 => ?_)
            · skip
              refine l_val rfl (o_pickT rfl rfl) ?_
              refine l_nil ?_
              refine kt_norm ?_
              refine v_sel [20, 0, 1, 2, 3, 4, 18, 24, 185] [1000] rfl rfl ?_
              refine v_condT rfl ?_
              refine v_region ?_
              refine l_val rfl (o_move rfl) ?_
              refine l_val rfl (o_move rfl) ?_
              refine l_val rfl (o_move rfl) ?_
              refine l_val rfl (o_move rfl) ?_
              refine l_val rfl (o_move rfl) ?_
              refine l_gmutX (ks := []) 1000 (fun l1 => RotQ l s m ((a + b) / 2 + m - s) l1) (fun l1 => l1.flatMap eE) (n := l.length) (caps := #[]) (vs := [_, _, _, _, _]) rfl rfl (ent_of Try.func88 rfl rfl) rfl rfl (fun w' hg hh hok2 => ?_) (fun l1 y1 hR => ?_)
              · have hres := a_Rotate w' v l s m ((a + b) / 2 + m - s) (by omega) (by omega) (by omega) (by omega) hok2
                have e0 : (((a + b) / 2 + m - s : Nat) : Int) = ((a : Int) + (b : Int)) % 18446744073709551616 / 2 + (m : Int) - (s : Int) := by omega
                rw [e0] at hres
                exact hres
              refine l_nil ?_
              refine kt_norm ?_
              refine v_sel [20, 0, 1, 3, 4, 18, 24] [1000] rfl rfl ?_
              refine v_seq ?_
              refine v_seq ?_
              refine v_region ?_
              have hRm := hC.rot hR
              have hlen1 : l1.length = l.length := hR.len
              have hfo1 := hRm.st.frOk hfr
              have hsa1 := hC.p1 hR
              have hsb1 := hC.p2 hR
              refine l_val rfl (o_move rfl) ?_
              refine l_val rfl (o_move rfl) ?_
              refine l_split rfl (o_lss rfl rfl) (fun q42 => ?_) (fun q42 => ?_)
              · skip
                refine l_val rfl (o_move rfl) ?_
                refine l_val rfl (o_move rfl) ?_
                refine l_val rfl (o_move rfl) ?_
                refine l_split rfl (o_lss rfl rfl) (fun q43 => ?_) (fun q43 => ?_)
                · skip
                  refine l_val rfl (o_pickT rfl rfl) ?_
                  refine l_nil ?_
                  refine kt_norm ?_
                  refine v_sel [20, 0, 1, 3, 4, 18, 24, 199] [1000] rfl rfl ?_
                  refine v_condT rfl ?_
                  refine v_region ?_
                  refine l_val rfl (o_move rfl) ?_
                  refine l_val rfl (o_move rfl) ?_
                  refine l_val rfl (o_move rfl) ?_
                  refine l_val rfl (o_move rfl) ?_
                  refine l_val rfl (o_move rfl) ?_
                  refine l_gmutX (ks := []) 1000 (fun lz => SrtQ l1 a ((a + b) / 2) lz) (fun lz => lz.flatMap eE) (n := l.length) (caps := #[]) (vs := [_, _, _, _, _]) rfl rfl (ent_of Try.func79 rfl rfl) rfl rfl (fun w' hg hh hok2 => ?_) (fun l2 y1 hM1 => ?_)
                  · have hsl : l1.length = l.length := hlen1
                    have hres := ih w' v l1 a s ((a + b) / 2) (by omega) (by omega) (by omega) (by omega) (by rw [hsl]; omega) (by rw [hsl]; exact hok2) hfo1 hsa1 hsb1
                    rw [hsl] at hres
                    have e0 : (((a + b) / 2 : Nat) : Int) = ((a : Int) + (b : Int)) % 18446744073709551616 / 2 := by omega
                    rw [e0] at hres
                    exact hres
                  refine l_nil ?_
                  refine kt_norm ?_
                  refine v_sel [0, 3, 4, 18, 24] [1000] rfl rfl ?_
                  refine v_seq ?_
                  refine v_region ?_
                  have hlen2 : l2.length = l.length := hM1.mut_.st.len.trans hlen1
                  have hfo2 := hM1.mut_.st.frOk hfo1
                  have hsa2 : SrtOn l2 ((a + b) / 2) ((a + b) / 2 + m - s) := fun p q h1 h2 h3 => by rw [hM1.mut_.out p (.inr h1), hM1.mut_.out q (.inr (by omega))]; exact hC.p3 hR p q h1 h2 h3
                  have hsb2 : SrtOn l2 ((a + b) / 2 + m - s) b := fun p q h1 h2 h3 => by rw [hM1.mut_.out p (.inr (by omega)), hM1.mut_.out q (.inr (by omega))]; exact hC.p4 hR p q h1 h2 h3
                  refine l_val rfl (o_move rfl) ?_
                  refine l_val rfl (o_move rfl) ?_
                  refine l_split rfl (o_lss rfl rfl) (fun q44 => ?_) (fun q44 => ?_)
                  · skip
                    refine l_val rfl (o_move rfl) ?_
                    refine l_val rfl (o_move rfl) ?_
                    refine l_val rfl (o_move rfl) ?_
                    refine l_split rfl (o_lss rfl rfl) (fun q45 => ?_) (fun q45 => ?_)
                    · skip
                      refine l_val rfl (o_pickT rfl rfl) ?_
                      refine l_nil ?_
                      refine kt_norm ?_
                      refine v_sel [0, 3, 4, 18, 24, 213] [1000] rfl rfl ?_
                      refine v_condT rfl ?_
                      refine v_region ?_
                      refine l_val rfl (o_move rfl) ?_
                      refine l_val rfl (o_move rfl) ?_
                      refine l_val rfl (o_move rfl) ?_
                      refine l_val rfl (o_move rfl) ?_
                      refine l_val rfl (o_move rfl) ?_
                      refine l_gmutX (ks := []) 1000 (fun lz => SrtQ l2 ((a + b) / 2) b lz) (fun lz => lz.flatMap eE) (n := l.length) (caps := #[]) (vs := [_, _, _, _, _]) rfl rfl (ent_of Try.func79 rfl rfl) rfl rfl (fun w' hg hh hok2 => ?_) (fun l3 y2 hM2 => ?_)
                      · have hsl : l2.length = l.length := hlen2
                        have hres := ih w' v l2 ((a + b) / 2) ((a + b) / 2 + m - s) b (by omega) (by omega) (by omega) (by omega) (by rw [hsl]; omega) (by rw [hsl]; exact hok2) hfo2 hsa2 hsb2
                        rw [hsl] at hres
                        have e0 : (((a + b) / 2 : Nat) : Int) = ((a : Int) + (b : Int)) % 18446744073709551616 / 2 := by omega
                        have e1 : (((a + b) / 2 + m - s : Nat) : Int) = ((a : Int) + (b : Int)) % 18446744073709551616 / 2 + (m : Int) - (s : Int) := by omega
                        rw [e1] at hres
                        rw [e0] at hres
                        exact hres
                      refine l_nil ?_
                      refine ⟨[], ResAll.nil, ?_⟩
                      first
                        | exact ⟨cur, ⟨hM, InsL.srt (show InsL l a (i - 1) cur from (show k = i - 1 by omega) ▸ hI) (by omega) hjb (fun p q h1 h2 h3 => hs2 p q (by omega) h2 h3) (fun q h1 h2 => hA q (by omega) h2) hB⟩, rfl⟩
                        | exact ⟨cur, ⟨hM, InsB.srt (show InsB l m i cur from (show k = i by omega) ▸ hI) hmi hjb (by omega) hs1 hA hB⟩, rfl⟩
                        | exact ⟨_, hC.done hR hM1 hM2, rfl⟩
                        | exact ⟨_, hC.done hR hM1 (SrtQ.same hsa2 hsb2 (by omega)), rfl⟩
                    · skip
                      refine l_val rfl (o_pickT rfl rfl) ?_
                      refine l_nil ?_
                      refine kt_norm ?_
                      refine v_sel [0, 3, 4, 18, 24, 213] [1000] rfl rfl ?_
                      refine v_condF rfl ?_
                      refine v_skip ?_
                      refine ⟨[], ResAll.nil, ?_⟩
                      first
                        | exact ⟨cur, ⟨hM, InsL.srt (show InsL l a (i - 1) cur from (show k = i - 1 by omega) ▸ hI) (by omega) hjb (fun p q h1 h2 h3 => hs2 p q (by omega) h2 h3) (fun q h1 h2 => hA q (by omega) h2) hB⟩, rfl⟩
                        | exact ⟨cur, ⟨hM, InsB.srt (show InsB l m i cur from (show k = i by omega) ▸ hI) hmi hjb (by omega) hs1 hA hB⟩, rfl⟩
                        | exact ⟨_, hC.done hR hM1 hM2, rfl⟩
                        | exact ⟨_, hC.done hR hM1 (SrtQ.same hsa2 hsb2 (by omega)), rfl⟩
                  · skip
                    refine l_val rfl (o_move rfl) ?_
                    refine l_no rfl ?_
                    refine l_no rfl ?_
                    refine l_no rfl ?_
                    refine l_val rfl (o_pickF rfl rfl) ?_
                    refine l_nil ?_
                    refine kt_norm ?_
                    refine v_sel [0, 3, 4, 18, 24, 213] [1000] rfl rfl ?_
                    refine v_condF rfl ?_
                    refine v_skip ?_
                    refine ⟨[], ResAll.nil, ?_⟩
                    first
                      | exact ⟨cur, ⟨hM, InsL.srt (show InsL l a (i - 1) cur from (show k = i - 1 by omega) ▸ hI) (by omega) hjb (fun p q h1 h2 h3 => hs2 p q (by omega) h2 h3) (fun q h1 h2 => hA q (by omega) h2) hB⟩, rfl⟩
                      | exact ⟨cur, ⟨hM, InsB.srt (show InsB l m i cur from (show k = i by omega) ▸ hI) hmi hjb (by omega) hs1 hA hB⟩, rfl⟩
                      | exact ⟨_, hC.done hR hM1 hM2, rfl⟩
                      | exact ⟨_, hC.done hR hM1 (SrtQ.same hsa2 hsb2 (by omega)), rfl⟩
                · skip
                  refine l_val rfl (o_pickT rfl rfl) ?_
                  refine l_nil ?_
                  refine kt_norm ?_
                  refine v_sel [20, 0, 1, 3, 4, 18, 24, 199] [1000] rfl rfl ?_
                  refine v_condF rfl ?_
                  refine v_skip ?_
                  refine kt_norm ?_
                  refine v_seq ?_
                  refine v_region ?_
                  have hM1 : SrtQ l1 a ((a + b) / 2) l1 := SrtQ.same hsa1 hsb1 (by omega)
                  have hlen2 : l1.length = l.length := hM1.mut_.st.len.trans hlen1
                  have hfo2 := hM1.mut_.st.frOk hfo1
                  have hsa2 : SrtOn l1 ((a + b) / 2) ((a + b) / 2 + m - s) := fun p q h1 h2 h3 => by rw [hM1.mut_.out p (.inr h1), hM1.mut_.out q (.inr (by omega))]; exact hC.p3 hR p q h1 h2 h3
                  have hsb2 : SrtOn l1 ((a + b) / 2 + m - s) b := fun p q h1 h2 h3 => by rw [hM1.mut_.out p (.inr (by omega)), hM1.mut_.out q (.inr (by omega))]; exact hC.p4 hR p q h1 h2 h3
                  refine l_val rfl (o_move rfl) ?_
                  refine l_val rfl (o_move rfl) ?_
                  refine l_split rfl (o_lss rfl rfl) (fun q46 => ?_) (fun q46 => ?_)
                  · skip
                    refine l_val rfl (o_move rfl) ?_
                    refine l_val rfl (o_move rfl) ?_
                    refine l_val rfl (o_move rfl) ?_
                    refine l_split rfl (o_lss rfl rfl) (fun q47 => ?_) (fun q47 => ?_)
                    · skip
                      refine l_val rfl (o_pickT rfl rfl) ?_
                      refine l_nil ?_
                      refine kt_norm ?_
                      refine v_sel [0, 3, 4, 18, 24, 213] [1000] rfl rfl ?_
                      refine v_condT rfl ?_
                      refine v_region ?_
                      refine l_val rfl (o_move rfl) ?_
                      refine l_val rfl (o_move rfl) ?_
                      refine l_val rfl (o_move rfl) ?_
                      refine l_val rfl (o_move rfl) ?_
                      refine l_val rfl (o_move rfl) ?_
                      refine l_gmutX (ks := []) 1000 (fun lz => SrtQ l1 ((a + b) / 2) b lz) (fun lz => lz.flatMap eE) (n := l.length) (caps := #[]) (vs := [_, _, _, _, _]) rfl rfl (ent_of Try.func79 rfl rfl) rfl rfl (fun w' hg hh hok2 => ?_) (fun l3 y2 hM2 => ?_)
                      · have hsl : l1.length = l.length := hlen2
                        have hres := ih w' v l1 ((a + b) / 2) ((a + b) / 2 + m - s) b (by omega) (by omega) (by omega) (by omega) (by rw [hsl]; omega) (by rw [hsl]; exact hok2) hfo2 hsa2 hsb2
                        rw [hsl] at hres
                        have e0 : (((a + b) / 2 : Nat) : Int) = ((a : Int) + (b : Int)) % 18446744073709551616 / 2 := by omega
                        have e1 : (((a + b) / 2 + m - s : Nat) : Int) = ((a : Int) + (b : Int)) % 18446744073709551616 / 2 + (m : Int) - (s : Int) := by omega
                        rw [e1] at hres
                        rw [e0] at hres
                        exact hres
                      refine l_nil ?_
                      refine ⟨[], ResAll.nil, ?_⟩
                      first
                        | exact ⟨cur, ⟨hM, InsL.srt (show InsL l a (i - 1) cur from (show k = i - 1 by omega) ▸ hI) (by omega) hjb (fun p q h1 h2 h3 => hs2 p q (by omega) h2 h3) (fun q h1 h2 => hA q (by omega) h2) hB⟩, rfl⟩
                        | exact ⟨cur, ⟨hM, InsB.srt (show InsB l m i cur from (show k = i by omega) ▸ hI) hmi hjb (by omega) hs1 hA hB⟩, rfl⟩
                        | exact ⟨_, hC.done hR hM1 hM2, rfl⟩
                        | exact ⟨_, hC.done hR hM1 (SrtQ.same hsa2 hsb2 (by omega)), rfl⟩
                    · skip
                      refine l_val rfl (o_pickT rfl rfl) ?_
                      refine l_nil ?_
                      refine kt_norm ?_
                      refine v_sel [0, 3, 4, 18, 24, 213] [1000] rfl rfl ?_
                      refine v_condF rfl ?_
                      refine v_skip ?_
                      refine ⟨[], ResAll.nil, ?_⟩
                      first
                        | exact ⟨cur, ⟨hM, InsL.srt (show InsL l a (i - 1) cur from (show k = i - 1 by omega) ▸ hI) (by omega) hjb (fun p q h1 h2 h3 => hs2 p q (by omega) h2 h3) (fun q h1 h2 => hA q (by omega) h2) hB⟩, rfl⟩
                        | exact ⟨cur, ⟨hM, InsB.srt (show InsB l m i cur from (show k = i by omega) ▸ hI) hmi hjb (by omega) hs1 hA hB⟩, rfl⟩
                        | exact ⟨_, hC.done hR hM1 hM2, rfl⟩
                        | exact ⟨_, hC.done hR hM1 (SrtQ.same hsa2 hsb2 (by omega)), rfl⟩
                  · skip
                    refine l_val rfl (o_move rfl) ?_
                    refine l_no rfl ?_
                    refine l_no rfl ?_
                    refine l_no rfl ?_
                    refine l_val rfl (o_pickF rfl rfl) ?_
                    refine l_nil ?_
                    refine kt_norm ?_
                    refine v_sel [0, 3, 4, 18, 24, 213] [1000] rfl rfl ?_
                    refine v_condF rfl ?_
                    refine v_skip ?_
                    refine ⟨[], ResAll.nil, ?_⟩
                    first
                      | exact ⟨cur, ⟨hM, InsL.srt (show InsL l a (i - 1) cur from (show k = i - 1 by omega) ▸ hI) (by omega) hjb (fun p q h1 h2 h3 => hs2 p q (by omega) h2 h3) (fun q h1 h2 => hA q (by omega) h2) hB⟩, rfl⟩
                      | exact ⟨cur, ⟨hM, InsB.srt (show InsB l m i cur from (show k = i by omega) ▸ hI) hmi hjb (by omega) hs1 hA hB⟩, rfl⟩
                      | exact ⟨_, hC.done hR hM1 hM2, rfl⟩
                      | exact ⟨_, hC.done hR hM1 (SrtQ.same hsa2 hsb2 (by omega)), rfl⟩
              · skip
                refine l_val rfl (o_move rfl) ?_
                refine l_no rfl ?_
                refine l_no rfl ?_
                refine l_no rfl ?_
                refine l_val rfl (o_pickF rfl rfl) ?_
                refine l_nil ?_
                refine kt_norm ?_
                refine v_sel [20, 0, 1, 3, 4, 18, 24, 199] [1000] rfl rfl ?_
                refine v_condF rfl ?_
                refine v_skip ?_
                refine kt_norm ?_
                refine v_seq ?_
                refine v_region ?_
                have hM1 : SrtQ l1 a ((a + b) / 2) l1 := SrtQ.same hsa1 hsb1 (by omega)
                have hlen2 : l1.length = l.length := hM1.mut_.st.len.trans hlen1
                have hfo2 := hM1.mut_.st.frOk hfo1
                have hsa2 : SrtOn l1 ((a + b) / 2) ((a + b) / 2 + m - s) := fun p q h1 h2 h3 => by rw [hM1.mut_.out p (.inr h1), hM1.mut_.out q (.inr (by omega))]; exact hC.p3 hR p q h1 h2 h3
                have hsb2 : SrtOn l1 ((a + b) / 2 + m - s) b := fun p q h1 h2 h3 => by rw [hM1.mut_.out p (.inr (by omega)), hM1.mut_.out q (.inr (by omega))]; exact hC.p4 hR p q h1 h2 h3
                refine l_val rfl (o_move rfl) ?_
                refine l_val rfl (o_move rfl) ?_
                refine l_split rfl (o_lss rfl rfl) (fun q48 => ?_) (fun q48 => ?_)
                · skip
                  refine l_val rfl (o_move rfl) ?_
                  refine l_val rfl (o_move rfl) ?_
                  refine l_val rfl (o_move rfl) ?_
                  refine l_split rfl (o_lss rfl rfl) (fun q49 => ?_) (fun q49 => ?_)
                  · skip
                    refine l_val rfl (o_pickT rfl rfl) ?_
                    refine l_nil ?_
                    refine kt_norm ?_
                    refine v_sel [0, 3, 4, 18, 24, 213] [1000] rfl rfl ?_
                    refine v_condT rfl ?_
                    refine v_region ?_
                    refine l_val rfl (o_move rfl) ?_
                    refine l_val rfl (o_move rfl) ?_
                    refine l_val rfl (o_move rfl) ?_
                    refine l_val rfl (o_move rfl) ?_
                    refine l_val rfl (o_move rfl) ?_
                    refine l_gmutX (ks := []) 1000 (fun lz => SrtQ l1 ((a + b) / 2) b lz) (fun lz => lz.flatMap eE) (n := l.length) (caps := #[]) (vs := [_, _, _, _, _]) rfl rfl (ent_of Try.func79 rfl rfl) rfl rfl (fun w' hg hh hok2 => ?_) (fun l3 y2 hM2 => ?_)
                    · have hsl : l1.length = l.length := hlen2
                      have hres := ih w' v l1 ((a + b) / 2) ((a + b) / 2 + m - s) b (by omega) (by omega) (by omega) (by omega) (by rw [hsl]; omega) (by rw [hsl]; exact hok2) hfo2 hsa2 hsb2
                      rw [hsl] at hres
                      have e0 : (((a + b) / 2 : Nat) : Int) = ((a : Int) + (b : Int)) % 18446744073709551616 / 2 := by omega
                      have e1 : (((a + b) / 2 + m - s : Nat) : Int) = ((a : Int) + (b : Int)) % 18446744073709551616 / 2 + (m : Int) - (s : Int) := by omega
                      rw [e1] at hres
                      rw [e0] at hres
                      exact hres
                    refine l_nil ?_
                    refine ⟨[], ResAll.nil, ?_⟩
                    first
                      | exact ⟨cur, ⟨hM, InsL.srt (show InsL l a (i - 1) cur from (show k = i - 1 by omega) ▸ hI) (by omega) hjb (fun p q h1 h2 h3 => hs2 p q (by omega) h2 h3) (fun q h1 h2 => hA q (by omega) h2) hB⟩, rfl⟩
                      | exact ⟨cur, ⟨hM, InsB.srt (show InsB l m i cur from (show k = i by omega) ▸ hI) hmi hjb (by omega) hs1 hA hB⟩, rfl⟩
                      | exact ⟨_, hC.done hR hM1 hM2, rfl⟩
                      | exact ⟨_, hC.done hR hM1 (SrtQ.same hsa2 hsb2 (by omega)), rfl⟩
                  · skip
                    refine l_val rfl (o_pickT rfl rfl) ?_
                    refine l_nil ?_
                    refine kt_norm ?_
                    refine v_sel [0, 3, 4, 18, 24, 213] [1000] rfl rfl ?_
                    refine v_condF rfl ?_
                    refine v_skip ?_
                    refine ⟨[], ResAll.nil, ?_⟩
                    first
                      | exact ⟨cur, ⟨hM, InsL.srt (show InsL l a (i - 1) cur from (show k = i - 1 by omega) ▸ hI) (by omega) hjb (fun p q h1 h2 h3 => hs2 p q (by omega) h2 h3) (fun q h1 h2 => hA q (by omega) h2) hB⟩, rfl⟩
                      | exact ⟨cur, ⟨hM, InsB.srt (show InsB l m i cur from (show k = i by omega) ▸ hI) hmi hjb (by omega) hs1 hA hB⟩, rfl⟩
                      | exact ⟨_, hC.done hR hM1 hM2, rfl⟩
                      | exact ⟨_, hC.done hR hM1 (SrtQ.same hsa2 hsb2 (by omega)), rfl⟩
                · skip
                  refine l_val rfl (o_move rfl) ?_
                  refine l_no rfl ?_
                  refine l_no rfl ?_
                  refine l_no rfl ?_
                  refine l_val rfl (o_pickF rfl rfl) ?_
                  refine l_nil ?_
                  refine kt_norm ?_
                  refine v_sel [0, 3, 4, 18, 24, 213] [1000] rfl rfl ?_
                  refine v_condF rfl ?_
                  refine v_skip ?_
                  refine ⟨[], ResAll.nil, ?_⟩
                  first
                    | exact ⟨cur, ⟨hM, InsL.srt (show InsL l a (i - 1) cur from (show k = i - 1 by omega) ▸ hI) (by omega) hjb (fun p q h1 h2 h3 => hs2 p q (by omega) h2 h3) (fun q h1 h2 => hA q (by omega) h2) hB⟩, rfl⟩
                    | exact ⟨cur, ⟨hM, InsB.srt (show InsB l m i cur from (show k = i by omega) ▸ hI) hmi hjb (by omega) hs1 hA hB⟩, rfl⟩
                    | exact ⟨_, hC.done hR hM1 hM2, rfl⟩
                    | exact ⟨_, hC.done hR hM1 (SrtQ.same hsa2 hsb2 (by omega)), rfl⟩
            · skip
              refine l_val rfl (o_pickT rfl rfl) ?_
              refine l_nil ?_
              refine kt_norm ?_
              refine v_sel [20, 0, 1, 2, 3, 4, 18, 24, 185] [1000] rfl rfl ?_
              refine v_condF rfl ?_
              refine v_skip ?_
              refine kt_norm ?_
              refine v_seq ?_
              refine v_seq ?_
              refine v_region ?_
              have hR : RotQ l s m ((a + b) / 2 + m - s) l := RotQ.id (by omega) (by omega) (by omega)
              have hRm := hC.rot hR
              have hlen1 : l.length = l.length := hR.len
              have hfo1 := hRm.st.frOk hfr
              have hsa1 := hC.p1 hR
              have hsb1 := hC.p2 hR
              refine l_val rfl (o_move rfl) ?_
              refine l_val rfl (o_move rfl) ?_
              refine l_split rfl (o_lss rfl rfl) (fun q50 => ?_) (fun q50 => ?_)
              · skip
                refine l_val rfl (o_move rfl) ?_
                refine l_val rfl (o_move rfl) ?_
                refine l_val rfl (o_move rfl) ?_
                refine l_split rfl (o_lss rfl rfl) (fun q51 => ?_) (fun q51 => ?_)
                · skip
                  refine l_val rfl (o_pickT rfl rfl) ?_
                  refine l_nil ?_
                  refine kt_norm ?_
                  refine v_sel [20, 0, 1, 3, 4, 18, 24, 199] [1000] rfl rfl ?_
                  refine v_condT rfl ?_
                  refine v_region ?_
                  refine l_val rfl (o_move rfl) ?_
                  refine l_val rfl (o_move rfl) ?_
                  refine l_val rfl (o_move rfl) ?_
                  refine l_val rfl (o_move rfl) ?_
                  refine l_val rfl (o_move rfl) ?_
                  refine l_gmutX (ks := []) 1000 (fun lz => SrtQ l a ((a + b) / 2) lz) (fun lz => lz.flatMap eE) (n := l.length) (caps := #[]) (vs := [_, _, _, _, _]) rfl rfl (ent_of Try.func79 rfl rfl) rfl rfl (fun w' hg hh hok2 => ?_) (fun l2 y1 hM1 => ?_)
                  · have hsl : l.length = l.length := hlen1
                    have hres := ih w' v l a s ((a + b) / 2) (by omega) (by omega) (by omega) (by omega) (by rw [hsl]; omega) (by rw [hsl]; exact hok2) hfo1 hsa1 hsb1
                    rw [hsl] at hres
                    have e0 : (((a + b) / 2 : Nat) : Int) = ((a : Int) + (b : Int)) % 18446744073709551616 / 2 := by omega
                    rw [e0] at hres
                    exact hres
                  refine l_nil ?_
                  refine kt_norm ?_
                  refine v_sel [0, 3, 4, 18, 24] [1000] rfl rfl ?_
                  refine v_seq ?_
                  refine v_region ?_
                  have hlen2 : l2.length = l.length := hM1.mut_.st.len.trans hlen1
                  have hfo2 := hM1.mut_.st.frOk hfo1
                  have hsa2 : SrtOn l2 ((a + b) / 2) ((a + b) / 2 + m - s) := fun p q h1 h2 h3 => by rw [hM1.mut_.out p (.inr h1), hM1.mut_.out q (.inr (by omega))]; exact hC.p3 hR p q h1 h2 h3
                  have hsb2 : SrtOn l2 ((a + b) / 2 + m - s) b := fun p q h1 h2 h3 => by rw [hM1.mut_.out p (.inr (by omega)), hM1.mut_.out q (.inr (by omega))]; exact hC.p4 hR p q h1 h2 h3
                  refine l_val rfl (o_move rfl) ?_
                  refine l_val rfl (o_move rfl) ?_
                  refine l_split rfl (o_lss rfl rfl) (fun q52 => ?_) (fun q52 => ?_)
                  · skip
                    refine l_val rfl (o_move rfl) ?_
                    refine l_val rfl (o_move rfl) ?_
                    refine l_val rfl (o_move rfl) ?_
                    refine l_split rfl (o_lss rfl rfl) (fun q53 => ?_) (fun q53 => ?_)
                    · skip
                      refine l_val rfl (o_pickT rfl rfl) ?_
                      refine l_nil ?_
                      refine kt_norm ?_
                      refine v_sel [0, 3, 4, 18, 24, 213] [1000] rfl rfl ?_
                      refine v_condT rfl ?_
                      refine v_region ?_
                      refine l_val rfl (o_move rfl) ?_
                      refine l_val rfl (o_move rfl) ?_
                      refine l_val rfl (o_move rfl) ?_
                      refine l_val rfl (o_move rfl) ?_
                      refine l_val rfl (o_move rfl) ?_
                      refine l_gmutX (ks := []) 1000 (fun lz => SrtQ l2 ((a + b) / 2) b lz) (fun lz => lz.flatMap eE) (n := l.length) (caps := #[]) (vs := [_, _, _, _, _]) rfl rfl (ent_of Try.func79 rfl rfl) rfl rfl (fun w' hg hh hok2 => ?_) (fun l3 y2 hM2 => ?_)
                      · have hsl : l2.length = l.length := hlen2
                        have hres := ih w' v l2 ((a + b) / 2) ((a + b) / 2 + m - s) b (by omega) (by omega) (by omega) (by omega) (by rw [hsl]; omega) (by rw [hsl]; exact hok2) hfo2 hsa2 hsb2
                        rw [hsl] at hres
                        have e0 : (((a + b) / 2 : Nat) : Int) = ((a : Int) + (b : Int)) % 18446744073709551616 / 2 := by omega
                        have e1 : (((a + b) / 2 + m - s : Nat) : Int) = ((a : Int) + (b : Int)) % 18446744073709551616 / 2 + (m : Int) - (s : Int) := by omega
                        rw [e1] at hres
                        rw [e0] at hres
                        exact hres
                      refine l_nil ?_
                      refine ⟨[], ResAll.nil, ?_⟩
                      first
                        | exact ⟨cur, ⟨hM, InsL.srt (show InsL l a (i - 1) cur from (show k = i - 1 by omega) ▸ hI) (by omega) hjb (fun p q h1 h2 h3 => hs2 p q (by omega) h2 h3) (fun q h1 h2 => hA q (by omega) h2) hB⟩, rfl⟩
                        | exact ⟨cur, ⟨hM, InsB.srt (show InsB l m i cur from (show k = i by omega) ▸ hI) hmi hjb (by omega) hs1 hA hB⟩, rfl⟩
                        | exact ⟨_, hC.done hR hM1 hM2, rfl⟩
                        | exact ⟨_, hC.done hR hM1 (SrtQ.same hsa2 hsb2 (by omega)), rfl⟩
                    · skip
                      refine l_val rfl (o_pickT rfl rfl) ?_
                      refine l_nil ?_
                      refine kt_norm ?_
                      refine v_sel [0, 3, 4, 18, 24, 213] [1000] rfl rfl ?_
                      refine v_condF rfl ?_
                      refine v_skip ?_
                      refine ⟨[], ResAll.nil, ?_⟩
                      first
                        | exact ⟨cur, ⟨hM, InsL.srt (show InsL l a (i - 1) cur from (show k = i - 1 by omega) ▸ hI) (by omega) hjb (fun p q h1 h2 h3 => hs2 p q (by omega) h2 h3) (fun q h1 h2 => hA q (by omega) h2) hB⟩, rfl⟩
                        | exact ⟨cur, ⟨hM, InsB.srt (show InsB l m i cur from (show k = i by omega) ▸ hI) hmi hjb (by omega) hs1 hA hB⟩, rfl⟩
                        | exact ⟨_, hC.done hR hM1 hM2, rfl⟩
                        | exact ⟨_, hC.done hR hM1 (SrtQ.same hsa2 hsb2 (by omega)), rfl⟩
                  · skip
                    refine l_val rfl (o_move rfl) ?_
                    refine l_no rfl ?_
                    refine l_no rfl ?_
                    refine l_no rfl ?_
                    refine l_val rfl (o_pickF rfl rfl) ?_
                    refine l_nil ?_
                    refine kt_norm ?_
                    refine v_sel [0, 3, 4, 18, 24, 213] [1000] rfl rfl ?_
                    refine v_condF rfl ?_
                    refine v_skip ?_
                    refine ⟨[], ResAll.nil, ?_⟩
                    first
                      | exact ⟨cur, ⟨hM, InsL.srt (show InsL l a (i - 1) cur from (show k = i - 1 by omega) ▸ hI) (by omega) hjb (fun p q h1 h2 h3 => hs2 p q (by omega) h2 h3) (fun q h1 h2 => hA q (by omega) h2) hB⟩, rfl⟩
                      | exact ⟨cur, ⟨hM, InsB.srt (show InsB l m i cur from (show k = i by omega) ▸ hI) hmi hjb (by omega) hs1 hA hB⟩, rfl⟩
                      | exact ⟨_, hC.done hR hM1 hM2, rfl⟩
                      | exact ⟨_, hC.done hR hM1 (SrtQ.same hsa2 hsb2 (by omega)), rfl⟩
                · skip
                  refine l_val rfl (o_pickT rfl rfl) ?_
                  refine l_nil ?_
                  refine kt_norm ?_
                  refine v_sel [20, 0, 1, 3, 4, 18, 24, 199] [1000] rfl rfl ?_
                  refine v_condF rfl ?_
                  refine v_skip ?_
                  refine kt_norm ?_
                  refine v_seq ?_
                  refine v_region ?_
                  have hM1 : SrtQ l a ((a + b) / 2) l := SrtQ.same hsa1 hsb1 (by omega)
                  have hlen2 : l.length = l.length := hM1.mut_.st.len.trans hlen1
                  have hfo2 := hM1.mut_.st.frOk hfo1
                  have hsa2 : SrtOn l ((a + b) / 2) ((a + b) / 2 + m - s) := fun p q h1 h2 h3 => by rw [hM1.mut_.out p (.inr h1), hM1.mut_.out q (.inr (by omega))]; exact hC.p3 hR p q h1 h2 h3
                  have hsb2 : SrtOn l ((a + b) / 2 + m - s) b := fun p q h1 h2 h3 => by rw [hM1.mut_.out p (.inr (by omega)), hM1.mut_.out q (.inr (by omega))]; exact hC.p4 hR p q h1 h2 h3
                  refine l_val rfl (o_move rfl) ?_
                  refine l_val rfl (o_move rfl) ?_
                  refine l_split rfl (o_lss rfl rfl) (fun q54 => ?_) (fun q54 => ?_)
                  · skip
                    refine l_val rfl (o_move rfl) ?_
                    refine l_val rfl (o_move rfl) ?_
                    refine l_val rfl (o_move rfl) ?_
                    refine l_split rfl (o_lss rfl rfl) (fun q55 => ?_) (fun q55 => ?_)
                    · skip
                      refine l_val rfl (o_pickT rfl rfl) ?_
                      refine l_nil ?_
                      refine kt_norm ?_
                      refine v_sel [0, 3, 4, 18, 24, 213] [1000] rfl rfl ?_
                      refine v_condT rfl ?_
                      refine v_region ?_
                      refine l_val rfl (o_move rfl) ?_
                      refine l_val rfl (o_move rfl) ?_
                      refine l_val rfl (o_move rfl) ?_
                      refine l_val rfl (o_move rfl) ?_
                      refine l_val rfl (o_move rfl) ?_
                      refine l_gmutX (ks := []) 1000 (fun lz => SrtQ l ((a + b) / 2) b lz) (fun lz => lz.flatMap eE) (n := l.length) (caps := #[]) (vs := [_, _, _, _, _]) rfl rfl (ent_of Try.func79 rfl rfl) rfl rfl (fun w' hg hh hok2 => ?_) (fun l3 y2 hM2 => ?_)
                      · have hsl : l.length = l.length := hlen2
                        have hres := ih w' v l ((a + b) / 2) ((a + b) / 2 + m - s) b (by omega) (by omega) (by omega) (by omega) (by rw [hsl]; omega) (by rw [hsl]; exact hok2) hfo2 hsa2 hsb2
                        rw [hsl] at hres
                        have e0 : (((a + b) / 2 : Nat) : Int) = ((a : Int) + (b : Int)) % 18446744073709551616 / 2 := by omega
                        have e1 : (((a + b) / 2 + m - s : Nat) : Int) = ((a : Int) + (b : Int)) % 18446744073709551616 / 2 + (m : Int) - (s : Int) := by omega
                        rw [e1] at hres
                        rw [e0] at hres
                        exact hres
                      refine l_nil ?_
                      refine ⟨[], ResAll.nil, ?_⟩
                      first
                        | exact ⟨cur, ⟨hM, InsL.srt (show InsL l a (i - 1) cur from (show k = i - 1 by omega) ▸ hI) (by omega) hjb (fun p q h1 h2 h3 => hs2 p q (by omega) h2 h3) (fun q h1 h2 => hA q (by omega) h2) hB⟩, rfl⟩
                        | exact ⟨cur, ⟨hM, InsB.srt (show InsB l m i cur from (show k = i by omega) ▸ hI) hmi hjb (by omega) hs1 hA hB⟩, rfl⟩
                        | exact ⟨_, hC.done hR hM1 hM2, rfl⟩
                        | exact ⟨_, hC.done hR hM1 (SrtQ.same hsa2 hsb2 (by omega)), rfl⟩
                    · skip
                      refine l_val rfl (o_pickT rfl rfl) ?_
                      refine l_nil ?_
                      refine kt_norm ?_
                      refine v_sel [0, 3, 4, 18, 24, 213] [1000] rfl rfl ?_
                      refine v_condF rfl ?_
                      refine v_skip ?_
                      refine ⟨[], ResAll.nil, ?_⟩
                      first
                        | exact ⟨cur, ⟨hM, InsL.srt (show InsL l a (i - 1) cur from (show k = i - 1 by omega) ▸ hI) (by omega) hjb (fun p q h1 h2 h3 => hs2 p q (by omega) h2 h3) (fun q h1 h2 => hA q (by omega) h2) hB⟩, rfl⟩
                        | exact ⟨cur, ⟨hM, InsB.srt (show InsB l m i cur from (show k = i by omega) ▸ hI) hmi hjb (by omega) hs1 hA hB⟩, rfl⟩
                        | exact ⟨_, hC.done hR hM1 hM2, rfl⟩
                        | exact ⟨_, hC.done hR hM1 (SrtQ.same hsa2 hsb2 (by omega)), rfl⟩
                  · skip
                    refine l_val rfl (o_move rfl) ?_
                    refine l_no rfl ?_
                    refine l_no rfl ?_
                    refine l_no rfl ?_
                    refine l_val rfl (o_pickF rfl rfl) ?_
                    refine l_nil ?_
                    refine kt_norm ?_
                    refine v_sel [0, 3, 4, 18, 24, 213] [1000] rfl rfl ?_
                    refine v_condF rfl ?_
                    refine v_skip ?_
                    refine ⟨[], ResAll.nil, ?_⟩
                    first
                      | exact ⟨cur, ⟨hM, InsL.srt (show InsL l a (i - 1) cur from (show k = i - 1 by omega) ▸ hI) (by omega) hjb (fun p q h1 h2 h3 => hs2 p q (by omega) h2 h3) (fun q h1 h2 => hA q (by omega) h2) hB⟩, rfl⟩
                      | exact ⟨cur, ⟨hM, InsB.srt (show InsB l m i cur from (show k = i by omega) ▸ hI) hmi hjb (by omega) hs1 hA hB⟩, rfl⟩
                      | exact ⟨_, hC.done hR hM1 hM2, rfl⟩
                      | exact ⟨_, hC.done hR hM1 (SrtQ.same hsa2 hsb2 (by omega)), rfl⟩
              · skip
                refine l_val rfl (o_move rfl) ?_
                refine l_no rfl ?_
                refine l_no rfl ?_
                refine l_no rfl ?_
                refine l_val rfl (o_pickF rfl rfl) ?_
                refine l_nil ?_
                refine kt_norm ?_
                refine v_sel [20, 0, 1, 3, 4, 18, 24, 199] [1000] rfl rfl ?_
                refine v_condF rfl ?_
                refine v_skip ?_
                refine kt_norm ?_
                refine v_seq ?_
                refine v_region ?_
                have hM1 : SrtQ l a ((a + b) / 2) l := SrtQ.same hsa1 hsb1 (by omega)
                have hlen2 : l.length = l.length := hM1.mut_.st.len.trans hlen1
                have hfo2 := hM1.mut_.st.frOk hfo1
                have hsa2 : SrtOn l ((a + b) / 2) ((a + b) / 2 + m - s) := fun p q h1 h2 h3 => by rw [hM1.mut_.out p (.inr h1), hM1.mut_.out q (.inr (by omega))]; exact hC.p3 hR p q h1 h2 h3
                have hsb2 : SrtOn l ((a + b) / 2 + m - s) b := fun p q h1 h2 h3 => by rw [hM1.mut_.out p (.inr (by omega)), hM1.mut_.out q (.inr (by omega))]; exact hC.p4 hR p q h1 h2 h3
                refine l_val rfl (o_move rfl) ?_
                refine l_val rfl (o_move rfl) ?_
                refine l_split rfl (o_lss rfl rfl) (fun q56 => ?_) (fun q56 => ?_)
                · skip
                  refine l_val rfl (o_move rfl) ?_
                  refine l_val rfl (o_move rfl) ?_
                  refine l_val rfl (o_move rfl) ?_
                  refine l_split rfl (o_lss rfl rfl) (fun q57 => ?_) (fun q57 => ?_)
                  · skip
                    refine l_val rfl (o_pickT rfl rfl) ?_
                    refine l_nil ?_
                    refine kt_norm ?_
                    refine v_sel [0, 3, 4, 18, 24, 213] [1000] rfl rfl ?_
                    refine v_condT rfl ?_
                    refine v_region ?_
                    refine l_val rfl (o_move rfl) ?_
                    refine l_val rfl (o_move rfl) ?_
                    refine l_val rfl (o_move rfl) ?_
                    refine l_val rfl (o_move rfl) ?_
                    refine l_val rfl (o_move rfl) ?_
                    refine l_gmutX (ks := []) 1000 (fun lz => SrtQ l ((a + b) / 2) b lz) (fun lz => lz.flatMap eE) (n := l.length) (caps := #[]) (vs := [_, _, _, _, _]) rfl rfl (ent_of Try.func79 rfl rfl) rfl rfl (fun w' hg hh hok2 => ?_) (fun l3 y2 hM2 => ?_)
                    · have hsl : l.length = l.length := hlen2
                      have hres := ih w' v l ((a + b) / 2) ((a + b) / 2 + m - s) b (by omega) (by omega) (by omega) (by omega) (by rw [hsl]; omega) (by rw [hsl]; exact hok2) hfo2 hsa2 hsb2
                      rw [hsl] at hres
                      have e0 : (((a + b) / 2 : Nat) : Int) = ((a : Int) + (b : Int)) % 18446744073709551616 / 2 := by omega
                      have e1 : (((a + b) / 2 + m - s : Nat) : Int) = ((a : Int) + (b : Int)) % 18446744073709551616 / 2 + (m : Int) - (s : Int) := by omega
                      rw [e1] at hres
                      rw [e0] at hres
                      exact hres
                    refine l_nil ?_
                    refine ⟨[], ResAll.nil, ?_⟩
                    first
                      | exact ⟨cur, ⟨hM, InsL.srt (show InsL l a (i - 1) cur from (show k = i - 1 by omega) ▸ hI) (by omega) hjb (fun p q h1 h2 h3 => hs2 p q (by omega) h2 h3) (fun q h1 h2 => hA q (by omega) h2) hB⟩, rfl⟩
                      | exact ⟨cur, ⟨hM, InsB.srt (show InsB l m i cur from (show k = i by omega) ▸ hI) hmi hjb (by omega) hs1 hA hB⟩, rfl⟩
                      | exact ⟨_, hC.done hR hM1 hM2, rfl⟩
                      | exact ⟨_, hC.done hR hM1 (SrtQ.same hsa2 hsb2 (by omega)), rfl⟩
                  · skip
                    refine l_val rfl (o_pickT rfl rfl) ?_
                    refine l_nil ?_
                    refine kt_norm ?_
                    refine v_sel [0, 3, 4, 18, 24, 213] [1000] rfl rfl ?_
                    refine v_condF rfl ?_
                    refine v_skip ?_
                    refine ⟨[], ResAll.nil, ?_⟩
                    first
                      | exact ⟨cur, ⟨hM, InsL.srt (show InsL l a (i - 1) cur from (show k = i - 1 by omega) ▸ hI) (by omega) hjb (fun p q h1 h2 h3 => hs2 p q (by omega) h2 h3) (fun q h1 h2 => hA q (by omega) h2) hB⟩, rfl⟩
                      | exact ⟨cur, ⟨hM, InsB.srt (show InsB l m i cur from (show k = i by omega) ▸ hI) hmi hjb (by omega) hs1 hA hB⟩, rfl⟩
                      | exact ⟨_, hC.done hR hM1 hM2, rfl⟩
                      | exact ⟨_, hC.done hR hM1 (SrtQ.same hsa2 hsb2 (by omega)), rfl⟩
                · skip
                  refine l_val rfl (o_move rfl) ?_
                  refine l_no rfl ?_
                  refine l_no rfl ?_
                  refine l_no rfl ?_
                  refine l_val rfl (o_pickF rfl rfl) ?_
                  refine l_nil ?_
                  refine kt_norm ?_
                  refine v_sel [0, 3, 4, 18, 24, 213] [1000] rfl rfl ?_
                  refine v_condF rfl ?_
                  refine v_skip ?_
                  refine ⟨[], ResAll.nil, ?_⟩
                  first
                    | exact ⟨cur, ⟨hM, InsL.srt (show InsL l a (i - 1) cur from (show k = i - 1 by omega) ▸ hI) (by omega) hjb (fun p q h1 h2 h3 => hs2 p q (by omega) h2 h3) (fun q h1 h2 => hA q (by omega) h2) hB⟩, rfl⟩
                    | exact ⟨cur, ⟨hM, InsB.srt (show InsB l m i cur from (show k = i by omega) ▸ hI) hmi hjb (by omega) hs1 hA hB⟩, rfl⟩
                    | exact ⟨_, hC.done hR hM1 hM2, rfl⟩
                    | exact ⟨_, hC.done hR hM1 (SrtQ.same hsa2 hsb2 (by omega)), rfl⟩
          · skip
            refine l_val rfl (o_move rfl) ?_
            refine l_no rfl ?_
            refine l_no rfl ?_
            refine l_no rfl ?_
            refine l_val rfl (o_pickF rfl rfl) ?_
            refine l_nil ?_
            refine kt_norm ?_
            refine v_sel [20, 0, 1, 2, 3, 4, 18, 24, 185] [1000] rfl rfl ?_
            refine v_condF rfl ?_
            refine v_skip ?_
            refine kt_norm ?_
            refine v_seq ?_
            refine v_seq ?_
            refine v_region ?_
            have hR : RotQ l s m ((a + b) / 2 + m - s) l := RotQ.id (by omega) (by omega) (by omega)
            have hRm := hC.rot hR
            have hlen1 : l.length = l.length := hR.len
            have hfo1 := hRm.st.frOk hfr
            have hsa1 := hC.p1 hR
            have hsb1 := hC.p2 hR
            refine l_val rfl (o_move rfl) ?_
            refine l_val rfl (o_move rfl) ?_
            refine l_split rfl (o_lss rfl rfl) (fun q58 => ?_) (fun q58 => ?_)
            · skip
              refine l_val rfl (o_move rfl) ?_
              refine l_val rfl (o_move rfl) ?_
              refine l_val rfl (o_move rfl) ?_
              refine l_split rfl (o_lss rfl rfl) (fun q59 => ?_) (fun q59 => ?_)
              · skip
                refine l_val rfl (o_pickT rfl rfl) ?_
                refine l_nil ?_
                refine kt_norm ?_
                refine v_sel [20, 0, 1, 3, 4, 18, 24, 199] [1000] rfl rfl ?_
                refine v_condT rfl ?_
                refine v_region ?_
                refine l_val rfl (o_move rfl) ?_
                refine l_val rfl (o_move rfl) ?_
                refine l_val rfl (o_move rfl) ?_
                refine l_val rfl (o_move rfl) ?_
                refine l_val rfl (o_move rfl) ?_
                refine l_gmutX (ks := []) 1000 (fun lz => SrtQ l a ((a + b) / 2) lz) (fun lz => lz.flatMap eE) (n := l.length) (caps := #[]) (vs := [_, _, _, _, _]) rfl rfl (ent_of Try.func79 rfl rfl) rfl rfl (fun w' hg hh hok2 => ?_) (fun l2 y1 hM1 => ?_)
                · have hsl : l.length = l.length := hlen1
                  have hres := ih w' v l a s ((a + b) / 2) (by omega) (by omega) (by omega) (by omega) (by rw [hsl]; omega) (by rw [hsl]; exact hok2) hfo1 hsa1 hsb1
                  rw [hsl] at hres
                  have e0 : (((a + b) / 2 : Nat) : Int) = ((a : Int) + (b : Int)) % 18446744073709551616 / 2 := by omega
                  rw [e0] at hres
                  exact hres
                refine l_nil ?_
                refine kt_norm ?_
                refine v_sel [0, 3, 4, 18, 24] [1000] rfl rfl ?_
                refine v_seq ?_
                refine v_region ?_
                have hlen2 : l2.length = l.length := hM1.mut_.st.len.trans hlen1
                have hfo2 := hM1.mut_.st.frOk hfo1
                have hsa2 : SrtOn l2 ((a + b) / 2) ((a + b) / 2 + m - s) := fun p q h1 h2 h3 => by rw [hM1.mut_.out p (.inr h1), hM1.mut_.out q (.inr (by omega))]; exact hC.p3 hR p q h1 h2 h3
                have hsb2 : SrtOn l2 ((a + b) / 2 + m - s) b := fun p q h1 h2 h3 => by rw [hM1.mut_.out p (.inr (by omega)), hM1.mut_.out q (.inr (by omega))]; exact hC.p4 hR p q h1 h2 h3
                refine l_val rfl (o_move rfl) ?_
                refine l_val rfl (o_move rfl) ?_
                refine l_split rfl (o_lss rfl rfl) (fun q60 => ?_) (fun q60 => ?_)
                · skip
                  refine l_val rfl (o_move rfl) ?_
                  refine l_val rfl (o_move rfl) ?_
                  refine l_val rfl (o_move rfl) ?_
                  refine l_split rfl (o_lss rfl rfl) (fun q61 => ?_) (fun q61 => ?_)
                  · skip
                    refine l_val rfl (o_pickT rfl rfl) ?_
                    refine l_nil ?_
                    refine kt_norm ?_
                    refine v_sel [0, 3, 4, 18, 24, 213] [1000] rfl rfl ?_
                    refine v_condT rfl ?_
                    refine v_region ?_
                    refine l_val rfl (o_move rfl) ?_
                    refine l_val rfl (o_move rfl) ?_
                    refine l_val rfl (o_move rfl) ?_
                    refine l_val rfl (o_move rfl) ?_
                    refine l_val rfl (o_move rfl) ?_
                    refine l_gmutX (ks := []) 1000 (fun lz => SrtQ l2 ((a + b) / 2) b lz) (fun lz => lz.flatMap eE) (n := l.length) (caps := #[]) (vs := [_, _, _, _, _]) rfl rfl (ent_of Try.func79 rfl rfl) rfl rfl (fun w' hg hh hok2 => ?_) (fun l3 y2 hM2 => ?_)
                    · have hsl : l2.length = l.length := hlen2
                      have hres := ih w' v l2 ((a + b) / 2) ((a + b) / 2 + m - s) b (by omega) (by omega) (by omega) (by omega) (by rw [hsl]; omega) (by rw [hsl]; exact hok2) hfo2 hsa2 hsb2
                      rw [hsl] at hres
                      have e0 : (((a + b) / 2 : Nat) : Int) = ((a : Int) + (b : Int)) % 18446744073709551616 / 2 := by omega
                      have e1 : (((a + b) / 2 + m - s : Nat) : Int) = ((a : Int) + (b : Int)) % 18446744073709551616 / 2 + (m : Int) - (s : Int) := by omega
                      rw [e1] at hres
                      rw [e0] at hres
                      exact hres
                    refine l_nil ?_
                    refine ⟨[], ResAll.nil, ?_⟩
                    first
                      | exact ⟨cur, ⟨hM, InsL.srt (show InsL l a (i - 1) cur from (show k = i - 1 by omega) ▸ hI) (by omega) hjb (fun p q h1 h2 h3 => hs2 p q (by omega) h2 h3) (fun q h1 h2 => hA q (by omega) h2) hB⟩, rfl⟩
                      | exact ⟨cur, ⟨hM, InsB.srt (show InsB l m i cur from (show k = i by omega) ▸ hI) hmi hjb (by omega) hs1 hA hB⟩, rfl⟩
                      | exact ⟨_, hC.done hR hM1 hM2, rfl⟩
                      | exact ⟨_, hC.done hR hM1 (SrtQ.same hsa2 hsb2 (by omega)), rfl⟩
                  · skip
                    refine l_val rfl (o_pickT rfl rfl) ?_
                    refine l_nil ?_
                    refine kt_norm ?_
                    refine v_sel [0, 3, 4, 18, 24, 213] [1000] rfl rfl ?_
                    refine v_condF rfl ?_
                    refine v_skip ?_
                    refine ⟨[], ResAll.nil, ?_⟩
                    first
                      | exact ⟨cur, ⟨hM, InsL.srt (show InsL l a (i - 1) cur from (show k = i - 1 by omega) ▸ hI) (by omega) hjb (fun p q h1 h2 h3 => hs2 p q (by omega) h2 h3) (fun q h1 h2 => hA q (by omega) h2) hB⟩, rfl⟩
                      | exact ⟨cur, ⟨hM, InsB.srt (show InsB l m i cur from (show k = i by omega) ▸ hI) hmi hjb (by omega) hs1 hA hB⟩, rfl⟩
                      | exact ⟨_, hC.done hR hM1 hM2, rfl⟩
                      | exact ⟨_, hC.done hR hM1 (SrtQ.same hsa2 hsb2 (by omega)), rfl⟩
                · skip
                  refine l_val rfl (o_move rfl) ?_
                  refine l_no rfl ?_
                  refine l_no rfl ?_
                  refine l_no rfl ?_
                  refine l_val rfl (o_pickF rfl rfl) ?_
                  refine l_nil ?_
                  refine kt_norm ?_
                  refine v_sel [0, 3, 4, 18, 24, 213] [1000] rfl rfl ?_
                  refine v_condF rfl ?_
                  refine v_skip ?_
                  refine ⟨[], ResAll.nil, ?_⟩
                  first
                    | exact ⟨cur, ⟨hM, InsL.srt (show InsL l a (i - 1) cur from (show k = i - 1 by omega) ▸ hI) (by omega) hjb (fun p q h1 h2 h3 => hs2 p q (by omega) h2 h3) (fun q h1 h2 => hA q (by omega) h2) hB⟩, rfl⟩
                    | exact ⟨cur, ⟨hM, InsB.srt (show InsB l m i cur from (show k = i by omega) ▸ hI) hmi hjb (by omega) hs1 hA hB⟩, rfl⟩
                    | exact ⟨_, hC.done hR hM1 hM2, rfl⟩
                    | exact ⟨_, hC.done hR hM1 (SrtQ.same hsa2 hsb2 (by omega)), rfl⟩
              · skip
                refine l_val rfl (o_pickT rfl rfl) ?_
                refine l_nil ?_
                refine kt_norm ?_
                refine v_sel [20, 0, 1, 3, 4, 18, 24, 199] [1000] rfl rfl ?_
                refine v_condF rfl ?_
                refine v_skip ?_
                refine kt_norm ?_
                refine v_seq ?_
                refine v_region ?_
                have hM1 : SrtQ l a ((a + b) / 2) l := SrtQ.same hsa1 hsb1 (by omega)
                have hlen2 : l.length = l.length := hM1.mut_.st.len.trans hlen1
                have hfo2 := hM1.mut_.st.frOk hfo1
                have hsa2 : SrtOn l ((a + b) / 2) ((a + b) / 2 + m - s) := fun p q h1 h2 h3 => by rw [hM1.mut_.out p (.inr h1), hM1.mut_.out q (.inr (by omega))]; exact hC.p3 hR p q h1 h2 h3
                have hsb2 : SrtOn l ((a + b) / 2 + m - s) b := fun p q h1 h2 h3 => by rw [hM1.mut_.out p (.inr (by omega)), hM1.mut_.out q (.inr (by omega))]; exact hC.p4 hR p q h1 h2 h3
                refine l_val rfl (o_move rfl) ?_
                refine l_val rfl (o_move rfl) ?_
                refine l_split rfl (o_lss rfl rfl) (fun q62 => ?_) (fun q62 => ?_)
                · skip
                  refine l_val rfl (o_move rfl) ?_
                  refine l_val rfl (o_move rfl) ?_
                  refine l_val rfl (o_move rfl) ?_
                  refine l_split rfl (o_lss rfl rfl) (fun q63 => ?_) (fun q63 => ?_)
                  · skip
                    refine l_val rfl (o_pickT rfl rfl) ?_
                    refine l_nil ?_
                    refine kt_norm ?_
                    refine v_sel [0, 3, 4, 18, 24, 213] [1000] rfl rfl ?_
                    refine v_condT rfl ?_
                    refine v_region ?_
                    refine l_val rfl (o_move rfl) ?_
                    refine l_val rfl (o_move rfl) ?_
                    refine l_val rfl (o_move rfl) ?_
                    refine l_val rfl (o_move rfl) ?_
                    refine l_val rfl (o_move rfl) ?_
                    refine l_gmutX (ks := []) 1000 (fun lz => SrtQ l ((a + b) / 2) b lz) (fun lz => lz.flatMap eE) (n := l.length) (caps := #[]) (vs := [_, _, _, _, _]) rfl rfl (ent_of Try.func79 rfl rfl) rfl rfl (fun w' hg hh hok2 => ?_) (fun l3 y2 hM2 => ?_)
                    · have hsl : l.length = l.length := hlen2
                      have hres := ih w' v l ((a + b) / 2) ((a + b) / 2 + m - s) b (by omega) (by omega) (by omega) (by omega) (by rw [hsl]; omega) (by rw [hsl]; exact hok2) hfo2 hsa2 hsb2
                      rw [hsl] at hres
                      have e0 : (((a + b) / 2 : Nat) : Int) = ((a : Int) + (b : Int)) % 18446744073709551616 / 2 := by omega
                      have e1 : (((a + b) / 2 + m - s : Nat) : Int) = ((a : Int) + (b : Int)) % 18446744073709551616 / 2 + (m : Int) - (s : Int) := by omega
                      rw [e1] at hres
                      rw [e0] at hres
                      exact hres
                    refine l_nil ?_
                    refine ⟨[], ResAll.nil, ?_⟩
                    first
                      | exact ⟨cur, ⟨hM, InsL.srt (show InsL l a (i - 1) cur from (show k = i - 1 by omega) ▸ hI) (by omega) hjb (fun p q h1 h2 h3 => hs2 p q (by omega) h2 h3) (fun q h1 h2 => hA q (by omega) h2) hB⟩, rfl⟩
                      | exact ⟨cur, ⟨hM, InsB.srt (show InsB l m i cur from (show k = i by omega) ▸ hI) hmi hjb (by omega) hs1 hA hB⟩, rfl⟩
                      | exact ⟨_, hC.done hR hM1 hM2, rfl⟩
                      | exact ⟨_, hC.done hR hM1 (SrtQ.same hsa2 hsb2 (by omega)), rfl⟩
                  · skip
                    refine l_val rfl (o_pickT rfl rfl) ?_
                    refine l_nil ?_
                    refine kt_norm ?_
                    refine v_sel [0, 3, 4, 18, 24, 213] [1000] rfl rfl ?_
                    refine v_condF rfl ?_
                    refine v_skip ?_
                    refine ⟨[], ResAll.nil, ?_⟩
                    first
                      | exact ⟨cur, ⟨hM, InsL.srt (show InsL l a (i - 1) cur from (show k = i - 1 by omega) ▸ hI) (by omega) hjb (fun p q h1 h2 h3 => hs2 p q (by omega) h2 h3) (fun q h1 h2 => hA q (by omega) h2) hB⟩, rfl⟩
                      | exact ⟨cur, ⟨hM, InsB.srt (show InsB l m i cur from (show k = i by omega) ▸ hI) hmi hjb (by omega) hs1 hA hB⟩, rfl⟩
                      | exact ⟨_, hC.done hR hM1 hM2, rfl⟩
                      | exact ⟨_, hC.done hR hM1 (SrtQ.same hsa2 hsb2 (by omega)), rfl⟩
                · skip
                  refine l_val rfl (o_move rfl) ?_
                  refine l_no rfl ?_
                  refine l_no rfl ?_
                  refine l_no rfl ?_
                  refine l_val rfl (o_pickF rfl rfl) ?_
                  refine l_nil ?_
                  refine kt_norm ?_
                  refine v_sel [0, 3, 4, 18, 24, 213] [1000] rfl rfl ?_
                  refine v_condF rfl ?_
                  refine v_skip ?_
                  refine ⟨[], ResAll.nil, ?_⟩
                  first
                    | exact ⟨cur, ⟨hM, InsL.srt (show InsL l a (i - 1) cur from (show k = i - 1 by omega) ▸ hI) (by omega) hjb (fun p q h1 h2 h3 => hs2 p q (by omega) h2 h3) (fun q h1 h2 => hA q (by omega) h2) hB⟩, rfl⟩
                    | exact ⟨cur, ⟨hM, InsB.srt (show InsB l m i cur from (show k = i by omega) ▸ hI) hmi hjb (by omega) hs1 hA hB⟩, rfl⟩
                    | exact ⟨_, hC.done hR hM1 hM2, rfl⟩
                    | exact ⟨_, hC.done hR hM1 (SrtQ.same hsa2 hsb2 (by omega)), rfl⟩
            · skip
              refine l_val rfl (o_move rfl) ?_
              refine l_no rfl ?_
              refine l_no rfl ?_
              refine l_no rfl ?_
              refine l_val rfl (o_pickF rfl rfl) ?_
              refine l_nil ?_
              refine kt_norm ?_
              refine v_sel [20, 0, 1, 3, 4, 18, 24, 199] [1000] rfl rfl ?_
              refine v_condF rfl ?_
              refine v_skip ?_
              refine kt_norm ?_
              refine v_seq ?_
              refine v_region ?_
              have hM1 : SrtQ l a ((a + b) / 2) l := SrtQ.same hsa1 hsb1 (by omega)
              have hlen2 : l.length = l.length := hM1.mut_.st.len.trans hlen1
              have hfo2 := hM1.mut_.st.frOk hfo1
              have hsa2 : SrtOn l ((a + b) / 2) ((a + b) / 2 + m - s) := fun p q h1 h2 h3 => by rw [hM1.mut_.out p (.inr h1), hM1.mut_.out q (.inr (by omega))]; exact hC.p3 hR p q h1 h2 h3
              have hsb2 : SrtOn l ((a + b) / 2 + m - s) b := fun p q h1 h2 h3 => by rw [hM1.mut_.out p (.inr (by omega)), hM1.mut_.out q (.inr (by omega))]; exact hC.p4 hR p q h1 h2 h3
              refine l_val rfl (o_move rfl) ?_
              refine l_val rfl (o_move rfl) ?_
              refine l_split rfl (o_lss rfl rfl) (fun q64 => ?_) (fun q64 => ?_)
              · skip
                refine l_val rfl (o_move rfl) ?_
                refine l_val rfl (o_move rfl) ?_
                refine l_val rfl (o_move rfl) ?_
                refine l_split rfl (o_lss rfl rfl) (fun q65 => ?_) (fun q65 => ?_)
                · skip
                  refine l_val rfl (o_pickT rfl rfl) ?_
                  refine l_nil ?_
                  refine kt_norm ?_
                  refine v_sel [0, 3, 4, 18, 24, 213] [1000] rfl rfl ?_
                  refine v_condT rfl ?_
                  refine v_region ?_
                  refine l_val rfl (o_move rfl) ?_
                  refine l_val rfl (o_move rfl) ?_
                  refine l_val rfl (o_move rfl) ?_
                  refine l_val rfl (o_move rfl) ?_
                  refine l_val rfl (o_move rfl) ?_
                  refine l_gmutX (ks := []) 1000 (fun lz => SrtQ l ((a + b) / 2) b lz) (fun lz => lz.flatMap eE) (n := l.length) (caps := #[]) (vs := [_, _, _, _, _]) rfl rfl (ent_of Try.func79 rfl rfl) rfl rfl (fun w' hg hh hok2 => ?_) (fun l3 y2 hM2 => ?_)
                  · have hsl : l.length = l.length := hlen2
                    have hres := ih w' v l ((a + b) / 2) ((a + b) / 2 + m - s) b (by omega) (by omega) (by omega) (by omega) (by rw [hsl]; omega) (by rw [hsl]; exact hok2) hfo2 hsa2 hsb2
                    rw [hsl] at hres
                    have e0 : (((a + b) / 2 : Nat) : Int) = ((a : Int) + (b : Int)) % 18446744073709551616 / 2 := by omega
                    have e1 : (((a + b) / 2 + m - s : Nat) : Int) = ((a : Int) + (b : Int)) % 18446744073709551616 / 2 + (m : Int) - (s : Int) := by omega
                    rw [e1] at hres
                    rw [e0] at hres
                    exact hres
                  refine l_nil ?_
                  refine ⟨[], ResAll.nil, ?_⟩
                  first
                    | exact ⟨cur, ⟨hM, InsL.srt (show InsL l a (i - 1) cur from (show k = i - 1 by omega) ▸ hI) (by omega) hjb (fun p q h1 h2 h3 => hs2 p q (by omega) h2 h3) (fun q h1 h2 => hA q (by omega) h2) hB⟩, rfl⟩
                    | exact ⟨cur, ⟨hM, InsB.srt (show InsB l m i cur from (show k = i by omega) ▸ hI) hmi hjb (by omega) hs1 hA hB⟩, rfl⟩
                    | exact ⟨_, hC.done hR hM1 hM2, rfl⟩
                    | exact ⟨_, hC.done hR hM1 (SrtQ.same hsa2 hsb2 (by omega)), rfl⟩
                · skip
                  refine l_val rfl (o_pickT rfl rfl) ?_
                  refine l_nil ?_
                  refine kt_norm ?_
                  refine v_sel [0, 3, 4, 18, 24, 213] [1000] rfl rfl ?_
                  refine v_condF rfl ?_
                  refine v_skip ?_
                  refine ⟨[], ResAll.nil, ?_⟩
                  first
                    | exact ⟨cur, ⟨hM, InsL.srt (show InsL l a (i - 1) cur from (show k = i - 1 by omega) ▸ hI) (by omega) hjb (fun p q h1 h2 h3 => hs2 p q (by omega) h2 h3) (fun q h1 h2 => hA q (by omega) h2) hB⟩, rfl⟩
                    | exact ⟨cur, ⟨hM, InsB.srt (show InsB l m i cur from (show k = i by omega) ▸ hI) hmi hjb (by omega) hs1 hA hB⟩, rfl⟩
                    | exact ⟨_, hC.done hR hM1 hM2, rfl⟩
                    | exact ⟨_, hC.done hR hM1 (SrtQ.same hsa2 hsb2 (by omega)), rfl⟩
              · skip
                refine l_val rfl (o_move rfl) ?_
                refine l_no rfl ?_
                refine l_no rfl ?_
                refine l_no rfl ?_
                refine l_val rfl (o_pickF rfl rfl) ?_
                refine l_nil ?_
                refine kt_norm ?_
                refine v_sel [0, 3, 4, 18, 24, 213] [1000] rfl rfl ?_
                refine v_condF rfl ?_
                refine v_skip ?_
                refine ⟨[], ResAll.nil, ?_⟩
                first
                  | exact ⟨cur, ⟨hM, InsL.srt (show InsL l a (i - 1) cur from (show k = i - 1 by omega) ▸ hI) (by omega) hjb (fun p q h1 h2 h3 => hs2 p q (by omega) h2 h3) (fun q h1 h2 => hA q (by omega) h2) hB⟩, rfl⟩
                  | exact ⟨cur, ⟨hM, InsB.srt (show InsB l m i cur from (show k = i by omega) ▸ hI) hmi hjb (by omega) hs1 hA hB⟩, rfl⟩
                  | exact ⟨_, hC.done hR hM1 hM2, rfl⟩
                  | exact ⟨_, hC.done hR hM1 (SrtQ.same hsa2 hsb2 (by omega)), rfl⟩
end Go.Proofs.Ytllhohbenniaaaa

/- The stable sort. Conditions: none. -/
namespace Go.Proofs.Ytllhohbenniaaaa
open Go.Proofs Go.RowKit Go.Shelf

theorem a_SymN : ∀ (n : Nat) (w : World) (v : Value) (l : List EdgeT) (a m b : Nat), b - a ≤ n → l.length ≤ 1099511627776 → a < m → m < b → b ≤ l.length → (Hp.own v 68 7 l.length (l.flatMap eE)).ok w → (∀ e ∈ l, FrOk e) → SrtOn l a m → SrtOn l m b → Calls Try.prog 79 #[v, .int .i64 ((a : Nat) : Int), .int .i64 ((m : Nat) : Int), .int .i64 ((b : Nat) : Int), .func (.func 49) #[] #[]] w fun e w' => (∃ y, e = .returned y) ∧ ∃ l', SrtQ l a b l' ∧ Chg (fun b => v.ownBlock = some b) w w' ∧ (Hp.own v 68 7 l.length (l'.flatMap eE)).ok w'
  | 0, _, _, _, _, _, _, h, _, h1, h2, _, _, _, _, _ => by omega
  | n + 1, w, v, l, a, m, b, h, hl, h1, h2, hb, hok, hfr, hs1, hs2 => a_SymStep w v l a m b (fun w v l a' m' b' hlt => a_SymN n w v l a' m' b' (by omega)) hl h1 h2 hb hok hfr hs1 hs2
theorem a_Sym (w : World) (v : Value) (l : List EdgeT) (a m b : Nat) (hl : l.length ≤ 1099511627776) (ham : a < m) (hmb : m < b) (hb : b ≤ l.length) (hok : (Hp.own v 68 7 l.length (l.flatMap eE)).ok w) (hfr : ∀ e ∈ l, FrOk e) (hs1 : SrtOn l a m) (hs2 : SrtOn l m b) : Calls Try.prog 79 #[v, .int .i64 ((a : Nat) : Int), .int .i64 ((m : Nat) : Int), .int .i64 ((b : Nat) : Int), .func (.func 49) #[] #[]] w fun e w' => (∃ y, e = .returned y) ∧ ∃ l', SrtQ l a b l' ∧ Chg (fun b => v.ownBlock = some b) w w' ∧ (Hp.own v 68 7 l.length (l'.flatMap eE)).ok w' := a_SymN _ w v l a m b (Nat.le_refl _) hl ham hmb hb hok hfr hs1 hs2
end Go.Proofs.Ytllhohbenniaaaa

/- The stable sort, by blocks. Conditions: none. -/
namespace Go.Proofs.Ytllhohbenniaaaa
open Go.Proofs Go.RowKit Go.Shelf

/-! ### blocks that are sorted -/
def Rest (l : List EdgeT) (bs a c : Nat) : Prop := ∀ j, a ≤ j * bs → j * bs < c → SrtOn l (j * bs) (min (j * bs + bs) c)
def Done (l : List EdgeT) (d k : Nat) : Prop := ∀ j, j < k → SrtOn l (j * d) (j * d + d)
theorem SrtOn.keep {l l' : List EdgeT} {a b p q : Nat} (h : SrtOn l p q) (hM : Mut a b l l') (hd : q ≤ a ∨ b ≤ p) : SrtOn l' p q := fun x y hx hxy hy => by
  rw [hM.out x (by omega), hM.out y (by omega)]; exact h x y hx hxy hy
theorem Done.keep {l l' : List EdgeT} {d k a b : Nat} (h : Done l d k) (hM : Mut a b l l') (hk : k * d ≤ a) : Done l' d k := fun j hj => (h j hj).keep hM (.inl (by
  have : (j + 1) * d ≤ k * d := Nat.mul_le_mul_right d hj
  rw [Nat.add_mul, Nat.one_mul] at this; omega))
theorem Done.succ {l : List EdgeT} {d k : Nat} (h : Done l d k) (hs : SrtOn l (k * d) (k * d + d)) : Done l d (k + 1) := fun j hj => by
  rcases Nat.lt_or_eq_of_le (Nat.le_of_lt_succ hj) with h1 | h1
  · exact h j h1
  · rw [h1]; exact hs
theorem Done.none {l : List EdgeT} {d : Nat} : Done l d 0 := fun j hj => by omega
/-- all blocks, of which the last one may be short -/
theorem Done.all {l : List EdgeT} {d k c : Nat} (h : Done l d k) (hk : k * d ≤ c) (hc : c < k * d + d) (hs : SrtOn l (k * d) c) : Rest l d 0 c := fun j _ hj => by
  by_cases h1 : j < k
  · have : (j + 1) * d ≤ k * d := Nat.mul_le_mul_right d h1
    rw [Nat.add_mul, Nat.one_mul] at this
    rw [Nat.min_eq_left (by omega)]
    exact h j h1
  · by_cases h2 : j = k
    · rw [h2, Nat.min_eq_right (by omega)]; exact hs
    · have : (k + 1) * d ≤ j * d := Nat.mul_le_mul_right d (by omega)
      rw [Nat.add_mul, Nat.one_mul] at this
      omega
theorem Rest.keep {l l' : List EdgeT} {bs a c p q a' : Nat} (h : Rest l bs a c) (hM : Mut p q l l') (hq : q ≤ a') (ha : a ≤ a') : Rest l' bs a' c := fun j h1 h2 => (h j (by omega) h2).keep hM (.inr (by omega))
/-- two blocks behind each other -/
theorem Rest.two {l : List EdgeT} {bs a c k : Nat} (h : Rest l bs a c) (ha : a = k * (2 * bs)) (hb : 0 < bs) (h2 : a + bs < c) : SrtOn l a (a + bs) ∧ SrtOn l (a + bs) (min (a + 2 * bs) c) := by
  have e1 : 2 * k * bs = a := by rw [ha, Nat.mul_comm 2 k, Nat.mul_assoc]
  have e2 : (2 * k + 1) * bs = a + bs := by rw [Nat.add_mul, e1, Nat.one_mul]
  have h3 := h (2 * k) (by omega) (by omega)
  have h4 := h (2 * k + 1) (by omega) (by omega)
  rw [e1, Nat.min_eq_left (by omega)] at h3
  rw [e2, show a + bs + bs = a + 2 * bs by omega] at h4
  exact ⟨h3, h4⟩
theorem Rest.one {l : List EdgeT} {bs a c k : Nat} (h : Rest l bs a c) (ha : a = k * (2 * bs)) (h1 : a ≤ c) (h2 : c ≤ a + bs) : SrtOn l a c := fun p q hp hq hc => by
  have e1 : 2 * k * bs = a := by rw [ha, Nat.mul_comm 2 k, Nat.mul_assoc]
  have h3 := h (2 * k) (by omega) (by omega)
  rw [e1, Nat.min_eq_right (by omega)] at h3
  exact h3 p q hp hq hc
theorem Rest.end {l : List EdgeT} {bs c : Nat} (h : Rest l bs 0 c) (hc : c ≤ bs) : SrtOn l 0 c := fun p q hp hq hqc => by
  have := h 0 (by omega) (by omega)
  rw [Nat.zero_mul, Nat.min_eq_right (by omega)] at this
  exact this p q hp hq hqc

set_option maxHeartbeats 1000000 in
theorem a_Stable (w : World) (v : Value) (l : List EdgeT) (hl : l.length ≤ 1099511627776) (hok : (Hp.own v 68 7 l.length (l.flatMap eE)).ok w) (hfr : ∀ e ∈ l, FrOk e) : Calls Try.prog 66 #[v, .int .i64 (l.length : Int), .func (.func 49) #[] #[]] w fun e w' => (∃ y, e = .returned y) ∧ ∃ l', SrtQ l 0 l.length l' ∧ Chg (fun b => v.ownBlock = some b) w w' ∧ (Hp.own v 68 7 l.length (l'.flatMap eE)).ok w' := by
  have hV := rowV_own hok
  refine calls_mutX (args := [v, .int .i64 (l.length : Int), .func (.func 49) #[] #[]]) v (fun l' => SrtQ l 0 l.length l') (fun l' => l'.flatMap eE) Try.func66 rfl Try.ntmps66 Try.results66 rfl hok ?_
  refine v_seq ?_
  refine v_region ?_
  refine l_val rfl (o_assign rfl) ?_
  refine l_nil ?_
  refine kt_norm ?_
  refine v_seq ?_
  refine v_region ?_
  refine l_val rfl (o_move rfl) ?_
  refine l_val rfl (o_assign rfl) ?_
  refine l_val rfl (o_assign rfl) ?_
  refine l_nil ?_
  refine kt_norm ?_
  refine v_seq ?_
  refine v_block ?_
  refine v_loopS (α := Nat × List EdgeT) (fun ⟨k, cur⟩ => [(7, .int .i64 ((k : Int) * 20)), (8, .int .i64 ((k : Int) * 20 + 20))]) (fun ⟨k, cur⟩ => [(1000, Hp.own v 68 7 l.length (cur.flatMap eE))])  (fun ⟨k, cur⟩ => k * 20 ≤ l.length ∧ Mut 0 l.length l cur ∧ Done cur 20 k) (fun ⟨k, cur⟩ => l.length + 1 - k) (0, l) [0, 1, 2, 6] [] ⟨by omega, Mut.refl _ _ _, Done.none⟩  (And.intro rfl (And.intro rfl (True.intro))) rfl (And.intro rfl (True.intro)) rfl ?_
  rintro ⟨k, cur⟩ ⟨hk, hM, hD⟩
  have hcl : cur.length = l.length := hM.st.len
  have hfo := hM.st.frOk hfr
  refine v_seq ?_
  refine v_seq ?_
  refine v_region ?_
  refine l_val rfl (o_move rfl) ?_
  refine l_val rfl (o_move rfl) ?_
  refine l_split rfl (o_leq rfl rfl) (fun q1 => ?_) (fun q1 => ?_)
  · skip
    refine l_nil ?_
    refine kt_norm ?_
    refine v_condT rfl ?_
    refine v_skip ?_
    refine kt_norm ?_
    refine v_block ?_
    refine v_seq ?_
    refine v_region ?_
    refine l_val rfl (o_move rfl) ?_
    refine l_val rfl (o_move rfl) ?_
    refine l_val rfl (o_move rfl) ?_
    refine l_val rfl (o_move rfl) ?_
    refine l_gmutX (ks := []) 1000 (fun lz => SrtQ cur (k * 20) (k * 20 + 20) lz) (fun lz => lz.flatMap eE) (n := l.length) (caps := #[]) (vs := [_, _, _, _]) rfl rfl (ent_of Try.func78 rfl rfl) rfl rfl (fun w' hg hh hok2 => ?_) (fun l2 y2 hS2 => ?_)
    · have hres := a_InsertS w' v cur (k * 20) (k * 20 + 20) (by omega) (by omega) (by rw [hcl]; exact hok2) hfo (by omega)
      rw [hcl] at hres
      have e0 : ((k * 20 : Nat) : Int) = ((k : Nat) : Int) * 20 := by omega
      rw [e0] at hres
      have e1 : ((k * 20 + 20 : Nat) : Int) = ((k : Nat) : Int) * 20 + 20 := by omega
      rw [e1] at hres
      exact hres
    refine l_nil ?_
    refine kt_norm ?_
    refine v_sel [8, 0, 1, 2, 6] [1000] rfl rfl ?_
    refine v_seq ?_
    refine v_region ?_
    refine l_val rfl (o_move rfl) ?_
    refine l_val rfl (o_assign rfl) ?_
    refine l_nil ?_
    refine kt_norm ?_
    refine v_region ?_
    refine l_val rfl (o_move rfl) ?_
    refine l_val rfl (o_move rfl) ?_
    refine l_val rfl (o_addi rfl rfl ?_) ?_
    · omega
    refine l_val rfl (o_assign rfl) ?_
    refine l_nil ?_
    refine kb_norm ?_
    refine kt_norm ?_
    refine ⟨(k + 1, l2), ⟨by omega, (hM.trans (hS2.mut_.wide (Nat.zero_le _) (by omega))), (hD.keep hS2.mut_ (Nat.le_refl _)).succ hS2.srt⟩, (by show l.length + 1 - (k + 1) < l.length + 1 - k; omega), le_app (And.intro (congrArg (fun q => some (Value.int .i64 q)) (by omega)) (And.intro (congrArg (fun q => some (Value.int .i64 q)) (by omega)) (True.intro))) [0, 1, 2, 6] rfl (And.intro rfl (True.intro)) [] rfl⟩
  · skip
    refine l_nil ?_
    refine kt_norm ?_
    refine v_condF rfl ?_
    refine v_exit ?_
    refine kt_exit ?_
    refine kt_exit ?_
    refine kb_eq ?_
    refine kt_norm ?_
    refine v_seq ?_
    refine v_region ?_
    refine l_val rfl (o_move rfl) ?_
    refine l_val rfl (o_move rfl) ?_
    refine l_val rfl (o_move rfl) ?_
    refine l_val rfl (o_move rfl) ?_
    refine l_gmutX (ks := []) 1000 (fun lz => SrtQ cur (k * 20) (l.length) lz) (fun lz => lz.flatMap eE) (n := l.length) (caps := #[]) (vs := [_, _, _, _]) rfl rfl (ent_of Try.func78 rfl rfl) rfl rfl (fun w' hg hh hok2 => ?_) (fun l2 y2 hS2 => ?_)
    · have hres := a_InsertS w' v cur (k * 20) l.length (by omega) (by omega) (by rw [hcl]; exact hok2) hfo (by omega)
      rw [hcl] at hres
      have e0 : ((k * 20 : Nat) : Int) = ((k : Nat) : Int) * 20 := by omega
      rw [e0] at hres
      exact hres
    refine l_nil ?_
    refine kt_norm ?_
    refine v_sel [0, 1, 2, 6] [1000] rfl rfl ?_
    refine v_block ?_
    refine v_loopS (α := Nat × List EdgeT) (fun ⟨bs, cur⟩ => [(6, .int .i64 (bs : Int))]) (fun ⟨bs, cur⟩ => [(1000, Hp.own v 68 7 l.length (cur.flatMap eE))])  (fun ⟨bs, cur⟩ => 1 ≤ bs ∧ bs ≤ 2199023255552 ∧ Mut 0 l.length l cur ∧ Rest cur bs 0 l.length) (fun ⟨bs, cur⟩ => l.length - bs) (20, l2) [0, 1, 2] [] ⟨by omega, by omega, (hM.trans (hS2.mut_.wide (Nat.zero_le _) (by omega))), (hD.keep hS2.mut_ (Nat.le_refl _)).all (by omega) (by omega) hS2.srt⟩  (And.intro rfl (True.intro)) rfl (And.intro rfl (True.intro)) rfl ?_
    rintro ⟨bs, cur⟩ ⟨hb1, hb2, hM, hR0⟩
    have hcl : cur.length = l.length := hM.st.len
    have hfo := hM.st.frOk hfr
    refine v_seq ?_
    refine v_seq ?_
    refine v_region ?_
    refine l_val rfl (o_move rfl) ?_
    refine l_val rfl (o_move rfl) ?_
    refine l_split rfl (o_lss rfl rfl) (fun q2 => ?_) (fun q2 => ?_)
    · skip
      refine l_nil ?_
      refine kt_norm ?_
      refine v_condT rfl ?_
      refine v_skip ?_
      refine kt_norm ?_
      refine v_block ?_
      refine v_seq ?_
      refine v_region ?_
      refine l_val rfl (o_move rfl) ?_
      refine l_val rfl (o_muli rfl rfl ?_) ?_
      · omega
      refine l_val rfl (o_assign rfl) ?_
      refine l_val rfl (o_assign rfl) ?_
      refine l_nil ?_
      refine kt_norm ?_
      refine v_seq ?_
      refine v_block ?_
      refine v_loopS (α := Nat × Nat × List EdgeT) (fun ⟨a, k, cur⟩ => [(7, .int .i64 (a : Int)), (8, .int .i64 ((a : Int) + 2 * (bs : Int)))]) (fun ⟨a, k, cur⟩ => [(1000, Hp.own v 68 7 l.length (cur.flatMap eE))])  (fun ⟨a, k, cur⟩ => a = k * (2 * bs) ∧ a ≤ l.length ∧ Mut 0 l.length l cur ∧ Done cur (2 * bs) k ∧ Rest cur bs a l.length) (fun ⟨a, k, cur⟩ => l.length + 1 - a) (0, 0, cur) [6, 0, 1, 2] [] ⟨by omega, Nat.zero_le _, hM, Done.none, hR0⟩  (And.intro rfl (And.intro (congrArg (fun q => some (Value.int .i64 q)) (by omega)) (True.intro))) rfl (And.intro rfl (True.intro)) rfl ?_
      rintro ⟨a, k, cur⟩ ⟨hak, hal, hM, hD, hR⟩
      have hcl : cur.length = l.length := hM.st.len
      have hfo := hM.st.frOk hfr
      refine v_seq ?_
      refine v_seq ?_
      refine v_region ?_
      refine l_val rfl (o_move rfl) ?_
      refine l_val rfl (o_move rfl) ?_
      refine l_split rfl (o_leq rfl rfl) (fun q3 => ?_) (fun q3 => ?_)
      · skip
        refine l_nil ?_
        refine kt_norm ?_
        refine v_condT rfl ?_
        refine v_skip ?_
        refine kt_norm ?_
        refine v_block ?_
        refine v_seq ?_
        refine v_region ?_
        have hT := hR.two hak (by omega) (by omega)
        refine l_val rfl (o_move rfl) ?_
        refine l_val rfl (o_move rfl) ?_
        refine l_val rfl (o_move rfl) ?_
        refine l_val rfl (o_move rfl) ?_
        refine l_val rfl (o_addi rfl rfl ?_) ?_
        · omega
        refine l_val rfl (o_move rfl) ?_
        refine l_val rfl (o_move rfl) ?_
        refine l_gmutX (ks := []) 1000 (fun lz => SrtQ cur (a) (a + 2 * bs) lz) (fun lz => lz.flatMap eE) (n := l.length) (caps := #[]) (vs := [_, _, _, _, _]) rfl rfl (ent_of Try.func79 rfl rfl) rfl rfl (fun w' hg hh hok2 => ?_) (fun l3 y2 hS2 => ?_)
        · have hres := a_Sym w' v cur a (a + bs) (a + 2 * bs) (by omega) (by omega) (by omega) (by omega) (by rw [hcl]; exact hok2) hfo hT.1 (by have := hT.2; rwa [Nat.min_eq_left (by omega)] at this)
          rw [hcl] at hres
          have e0 : ((a + bs : Nat) : Int) = (a : Int) + (bs : Int) := by omega
          rw [e0] at hres
          have e1 : ((a + 2 * bs : Nat) : Int) = (a : Int) + 2 * (bs : Int) := by omega
          rw [e1] at hres
          exact hres
        refine l_nil ?_
        refine kt_norm ?_
        refine v_sel [8, 6, 0, 1, 2] [1000] rfl rfl ?_
        refine v_seq ?_
        refine v_region ?_
        refine l_val rfl (o_move rfl) ?_
        refine l_val rfl (o_assign rfl) ?_
        refine l_nil ?_
        refine kt_norm ?_
        refine v_region ?_
        refine l_val rfl (o_move rfl) ?_
        refine l_val rfl (o_move rfl) ?_
        refine l_val rfl (o_muli rfl rfl ?_) ?_
        · omega
        refine l_val rfl (o_addi rfl rfl ?_) ?_
        · omega
        refine l_val rfl (o_assign rfl) ?_
        refine l_nil ?_
        refine kb_norm ?_
        refine kt_norm ?_
        refine ⟨(a + 2 * bs, k + 1, l3), ⟨by rw [Nat.add_mul, Nat.one_mul, ← hak], by omega, (hM.trans (hS2.mut_.wide (Nat.zero_le _) (by omega))), (hD.keep hS2.mut_ (by omega)).succ (by rw [← hak]; exact hS2.srt), hR.keep hS2.mut_ (Nat.le_refl _) (by omega)⟩, (by show l.length + 1 - (a + 2 * bs) < l.length + 1 - a; omega), le_app (And.intro (congrArg (fun q => some (Value.int .i64 q)) (by omega)) (And.intro (congrArg (fun q => some (Value.int .i64 q)) (by omega)) (True.intro))) [6, 0, 1, 2] rfl (And.intro rfl (True.intro)) [] rfl⟩
      · skip
        refine l_nil ?_
        refine kt_norm ?_
        refine v_condF rfl ?_
        refine v_exit ?_
        refine kt_exit ?_
        refine kt_exit ?_
        refine kb_eq ?_
        refine kt_norm ?_
        refine v_seq ?_
        refine v_seq ?_
        refine v_region ?_
        refine l_val rfl (o_move rfl) ?_
        refine l_val rfl (o_move rfl) ?_
        refine l_val rfl (o_addi rfl rfl ?_) ?_
        · omega
        refine l_val rfl (o_assign rfl) ?_
        refine l_nil ?_
        refine kt_norm ?_
        refine v_sel [7, 6, 0, 1, 2, 9] [1000] rfl rfl ?_
        refine v_seq ?_
        refine v_region ?_
        refine l_val rfl (o_move rfl) ?_
        refine l_val rfl (o_move rfl) ?_
        refine l_split rfl (o_lss rfl rfl) (fun q4 => ?_) (fun q4 => ?_)
        · skip
          refine l_nil ?_
          refine kt_norm ?_
          refine v_condT rfl ?_
          refine v_region ?_
          have hT := hR.two hak (by omega) (by omega)
          refine l_val rfl (o_move rfl) ?_
          refine l_val rfl (o_move rfl) ?_
          refine l_val rfl (o_move rfl) ?_
          refine l_val rfl (o_move rfl) ?_
          refine l_val rfl (o_move rfl) ?_
          refine l_gmutX (ks := []) 1000 (fun lz => SrtQ cur (a) (l.length) lz) (fun lz => lz.flatMap eE) (n := l.length) (caps := #[]) (vs := [_, _, _, _, _]) rfl rfl (ent_of Try.func79 rfl rfl) rfl rfl (fun w' hg hh hok2 => ?_) (fun l3 y2 hS2 => ?_)
          · have hres := a_Sym w' v cur a (a + bs) l.length (by omega) (by omega) (by omega) (by omega) (by rw [hcl]; exact hok2) hfo hT.1 (by have := hT.2; rwa [Nat.min_eq_right (by omega)] at this)
            rw [hcl] at hres
            have e0 : ((a + bs : Nat) : Int) = (a : Int) + (bs : Int) := by omega
            rw [e0] at hres
            exact hres
          refine l_nil ?_
          refine kt_norm ?_
          refine v_sel [6, 0, 1, 2] [1000] rfl rfl ?_
          refine v_region ?_
          refine l_val rfl (o_move rfl) ?_
          refine l_val rfl (o_muli rfl rfl ?_) ?_
          · omega
          refine l_val rfl (o_assign rfl) ?_
          refine l_nil ?_
          refine kb_norm ?_
          refine kt_norm ?_
          refine ⟨(2 * bs, l3), ⟨by omega, by omega, (hM.trans (hS2.mut_.wide (Nat.zero_le _) (by omega))), (hD.keep hS2.mut_ (by omega)).all (by omega) (by omega) (hak ▸ hS2.srt)⟩, (by show l.length - 2 * bs < l.length - bs; omega), le_app (And.intro (congrArg (fun q => some (Value.int .i64 q)) (by omega)) (True.intro)) [0, 1, 2] rfl (And.intro rfl (True.intro)) [] rfl⟩
        · skip
          refine l_nil ?_
          refine kt_norm ?_
          refine v_condF rfl ?_
          refine v_skip ?_
          refine kt_norm ?_
          refine v_region ?_
          refine l_val rfl (o_move rfl) ?_
          refine l_val rfl (o_muli rfl rfl ?_) ?_
          · omega
          refine l_val rfl (o_assign rfl) ?_
          refine l_nil ?_
          refine kb_norm ?_
          refine kt_norm ?_
          refine ⟨(2 * bs, cur), ⟨by omega, by omega, hM, hD.all (by omega) (by omega) (hak ▸ hR.one hak (by omega) (by omega))⟩, (by show l.length - 2 * bs < l.length - bs; omega), le_app (And.intro (congrArg (fun q => some (Value.int .i64 q)) (by omega)) (True.intro)) [0, 1, 2] rfl (And.intro rfl (True.intro)) [] rfl⟩
    · skip
      refine l_nil ?_
      refine kt_norm ?_
      refine v_condF rfl ?_
      refine v_exit ?_
      refine kt_exit ?_
      refine kt_exit ?_
      refine kb_eq ?_
      refine ⟨[], ResAll.nil, ?_⟩
      exact ⟨cur, ⟨hM, hR0.end (by omega)⟩, rfl⟩
end Go.Proofs.Ytllhohbenniaaaa

/- The table of the edges of a view. Conditions: none. -/
namespace Go.Proofs.Ytllhohbenniaaaa
open Go.Proofs Go.RowKit Go.Shelf

/-! ### the edges of a view -/
def cutE (f t : Int) (e : EdgeT) : EdgeT := ⟨e.x, e.y, e.dx, e.dy, e.wi, if e.fr < f then f else e.fr, if t < e.to then t else e.to⟩
theorem cutE_fr (f t : Int) (e : EdgeT) : (cutE f t e).fr = if e.fr < f then f else e.fr := rfl
theorem cutE_to (f t : Int) (e : EdgeT) : (cutE f t e).to = if t < e.to then t else e.to := rfl
def inE (f t : Int) (e : EdgeT) : Bool := decide ((cutE f t e).fr < (cutE f t e).to)
/-- what of the first edges lies in the view -/
def viewEs (f t : Int) (l : List EdgeT) : List EdgeT := (l.map (cutE f t)).filter fun e => decide (e.fr < e.to)
theorem viewEs_snoc (f t : Int) (l : List EdgeT) (e : EdgeT) : viewEs f t (l ++ [e]) = viewEs f t l ++ (if (cutE f t e).fr < (cutE f t e).to then [cutE f t e] else []) := by
  unfold viewEs
  rw [List.map_append, List.filter_append]
  congr 1
  by_cases h : (cutE f t e).fr < (cutE f t e).to
  · rw [if_pos h, List.map_cons, List.map_nil, List.filter_cons_of_pos (by simpa using h), List.filter_nil]
  · rw [if_neg h, List.map_cons, List.map_nil, List.filter_cons_of_neg (by simpa using h), List.filter_nil]
theorem viewEs_len (f t : Int) (l : List EdgeT) : (viewEs f t l).length ≤ l.length := Nat.le_trans (List.length_filter_le _ _) (by rw [List.length_map]; exact Nat.le_refl _)
theorem take_snoc {α : Type} {l : List α} {k : Nat} {x : α} (h : l[k]? = some x) : l.take (k + 1) = l.take k ++ [x] := by
  rw [List.take_add_one, h]; rfl
theorem edgesAll_len {ps : List (List PtT)} (h : Bnd ps) : (edgesAll ps).length ≤ 320 := by
  have h1 : ∀ (q : List (List PtT)), (∀ pc ∈ q, pc.length ≤ 16) → (edgesAll q).length ≤ 16 * q.length := fun q => by
    induction q with
    | nil => intro _; exact Nat.le_refl _
    | cons pc r ih =>
      intro hq
      have h2 := ih fun x hx => hq x (List.mem_cons_of_mem _ hx)
      have h3 := hq pc List.mem_cons_self
      have h4 := edgesTo_len pc pc.length
      have e : edgesAll (pc :: r) = edgesOf pc ++ edgesAll r := by simp [edgesAll]
      rw [e, List.length_append, List.length_cons, edgesOf]
      omega
  have h5 := h1 ps fun pc hpc => by
    obtain ⟨i, hi, rfl⟩ := List.getElem_of_mem hpc
    have := (h.2 i hi).1
    rwa [List.getD_eq_getElem?_getD, List.getElem?_eq_getElem hi] at this
  have := h.1
  omega
theorem edgesAll_ok {ps : List (List PtT)} (h : Bnd ps) : ∀ e ∈ edgesAll ps, EdgeOk e ∧ Unit e := fun e he => by
  obtain ⟨pc, hpc, hm⟩ := List.mem_flatMap.1 he
  obtain ⟨i, hi, rfl⟩ := List.getElem_of_mem hpc
  have hb := h.2 i hi
  rw [List.getD_eq_getElem?_getD, List.getElem?_eq_getElem hi] at hb
  exact ⟨edgeOk_to (BndP.near hb) _ (Nat.le_refl _) e hm, unit_edgesTo _ _ e hm⟩
theorem viewEs_mem {f t : Int} {l : List EdgeT} {e : EdgeT} (h : e ∈ viewEs f t l) : ∃ e0 ∈ l, e = cutE f t e0 ∧ e.fr < e.to := by
  have := List.mem_filter.1 h
  obtain ⟨e0, h0, rfl⟩ := List.mem_map.1 this.1
  exact ⟨e0, h0, rfl, by simpa using this.2⟩

theorem viewEs_ok {f t : Int} {ps : List (List PtT)} (h : Bnd ps) (hf : -1099511627776 ≤ f ∧ f ≤ 1099511627776) : ∀ e ∈ viewEs f t (edgesAll ps), FrOk e := fun e he => by
  obtain ⟨e0, h0, rfl, _⟩ := viewEs_mem he
  have h1 := (edgesAll_ok h e0 h0).1
  have h2 := h1.fr; have h3 := h1.y; have h4 := rowOf_def e0.y
  unfold FrOk
  rw [cutE_fr]
  split <;> omega
theorem viewEs_yes {f t : Int} {l : List EdgeT} {k : Nat} {x : EdgeT} (hx : l[k]? = some x) (h : (if x.fr < f then f else x.fr) < (if t < x.to then t else x.to)) : viewEs f t (l.take (k + 1)) = viewEs f t (l.take k) ++ [cutE f t x] := by
  rw [take_snoc hx, viewEs_snoc, if_pos (by rw [cutE_fr, cutE_to]; exact h)]
theorem viewEs_no {f t : Int} {l : List EdgeT} {k : Nat} {x : EdgeT} (hx : l[k]? = some x) (h : ¬ (if x.fr < f then f else x.fr) < (if t < x.to then t else x.to)) : viewEs f t (l.take (k + 1)) = viewEs f t (l.take k) := by
  rw [take_snoc hx, viewEs_snoc, if_neg (by rw [cutE_fr, cutE_to]; exact h), List.append_nil]

theorem a_Sort (w : World) (v : Value) (l : List EdgeT) (hl : l.length ≤ 1099511627776) (hok : (Hp.own v 68 7 l.length (l.flatMap eE)).ok w) (hfr : ∀ e ∈ l, FrOk e) : Calls Try.prog 48 #[v, .func (.func 49) #[] #[]] w fun e w' => (∃ y, e = .returned y) ∧ ∃ l', SrtQ l 0 l.length l' ∧ Chg (fun b => v.ownBlock = some b) w w' ∧ (Hp.own v 68 7 l.length (l'.flatMap eE)).ok w' := by
  have hV := rowV_own hok
  refine calls_mutX (args := [v, .func (.func 49) #[] #[]]) v (fun l' => SrtQ l 0 l.length l') (fun l' => l'.flatMap eE) Try.func48 rfl Try.ntmps48 Try.results48 rfl hok ?_
  refine v_region ?_
  refine l_val rfl (o_move rfl) ?_
  refine l_val rfl (o_move rfl) ?_
  refine l_val rfl (o_len rfl hV) ?_
  refine l_val rfl (o_move rfl) ?_
  refine l_gmutX (ks := []) 1000 (fun lz => SrtQ l 0 l.length lz) (fun lz => lz.flatMap eE) (n := l.length) (caps := #[]) (vs := [_, _, _]) rfl rfl (ent_of Try.func66 rfl rfl) rfl rfl (fun w' hg hh hok2 => a_Stable w' v l hl hok2 hfr) (fun l2 y2 hS2 => ?_)
  refine l_nil ?_
  refine ⟨[], ResAll.nil, ?_⟩
  exact ⟨l2, hS2, rfl⟩
set_option maxHeartbeats 1000000 in
theorem a_Table (w : World) (a0 : Option Addr) (n0 c0 : Nat) (pvs : List Value) (ps : List (List PtT)) (X Y W H : Int) (hb : Bnd ps) (hv : PcsV (.slice a0 n0 c0) pvs ps) (hat : PcsAt w (.slice a0 n0 c0) pvs ps) (hvw : ViewOk X Y W H) :
    Calls Try.prog 29 #[.slice a0 n0 c0, .agg #[.int .i64 X, .int .i64 Y, .int .i64 W, .int .i64 H]] w fun e w' => ∃ y es, e = .returned y ∧ SrtQ (viewEs (16 * Y) (16 * (Y + H)) (edgesAll ps)) 0 (viewEs (16 * Y) (16 * (Y + H)) (edgesAll ps)).length es ∧ Below w.heap.size w w' ∧ OwnAt w.heap.size w' y 68 7 (viewEs (16 * Y) (16 * (Y + H)) (edgesAll ps)).length (es.flatMap eE) := by
  have vd := (viewOk_def X Y W H).1 hvw
  refine calls_ownX (args := [.slice a0 n0 c0, .agg #[.int .i64 X, .int .i64 Y, .int .i64 W, .int .i64 H]]) (fun es => SrtQ (viewEs (16 * Y) (16 * (Y + H)) (edgesAll ps)) 0 (viewEs (16 * Y) (16 * (Y + H)) (edgesAll ps)).length es) (fun es => es.flatMap eE) (fun _ => (viewEs (16 * Y) (16 * (Y + H)) (edgesAll ps)).length) Try.func29 rfl Try.ntmps29 Try.results29 rfl ?_
  refine v_seq ?_
  refine v_region ?_
  refine l_new rfl (o_box (cs := [_, _, _, _]) rfl rfl) fun b3 => ?_
  refine l_new rfl o_alloc fun b4 => ?_
  refine l_nil ?_
  refine kt_norm ?_
  refine v_seq ?_
  refine v_seq ?_
  refine v_region ?_
  refine l_val rfl (o_loadW (key := 3) rfl rfl rfl) ?_
  refine l_ans (vs := [_]) rfl rfl ((show Ans Try.prog _ _ (.int .i64 0) by have := a_Check X Y W H; rwa [if_pos hvw] at this)) ?_
  refine l_split rfl (o_neq rfl rfl) (fun q1 => absurd q1 (by omega)) (fun q1 => ?_)
  refine l_nil ?_
  refine kt_norm ?_
  refine v_condF rfl ?_
  refine v_skip ?_
  refine kt_norm ?_
  refine v_seq ?_
  refine v_drawZ [[], [3], [], [], [3], [], [3], [], [], [], [], [5], [6]] mixed ?_ (by kernel_rfl) (by kernel_rfl)
  refine d_val (fun _ => rfl) rfl rfl (fun _ => o_fld rfl) ?_
  refine d_val (fun _ => rfl) rfl rfl (fun _ => o_load1 (key := 3) rfl rfl rfl) ?_
  refine d_val (fun _ => rfl) rfl rfl (fun _ => o_muli rfl rfl ?_) ?_
  · omega
  refine d_val (fun _ => rfl) rfl rfl (fun _ => o_fld rfl) ?_
  refine d_val (fun _ => rfl) rfl rfl (fun _ => o_load1 (key := 3) rfl rfl rfl) ?_
  refine d_val (fun _ => rfl) rfl rfl (fun _ => o_fld rfl) ?_
  refine d_val (fun _ => rfl) rfl rfl (fun _ => o_load1 (key := 3) rfl rfl rfl) ?_
  refine d_val (fun _ => rfl) rfl rfl (fun _ => o_addi rfl rfl ?_) ?_
  · omega
  refine d_val (fun _ => rfl) rfl rfl (fun _ => o_muli rfl rfl ?_) ?_
  · omega
  refine d_new (fun _ => rfl) rfl rfl (fun _ => o_alloc) ?_
  refine d_new (fun _ => rfl) rfl rfl (fun _ => o_alloc) ?_
  refine d_store (fun _ => rfl) rfl rfl (fun _ => o_store1 (key := 5) (rs := [_]) rfl rfl rfl rfl rfl rfl rfl) ?_
  refine d_store (fun _ => rfl) rfl rfl (fun _ => o_store1 (key := 6) (rs := [_]) rfl rfl rfl rfl rfl rfl rfl) ?_
  refine d_nil (fun σ => ?_)
  refine l_nil ?_
  refine kt_norm ?_
  refine v_sel [0, 4, 5, 6] [4, 5, 6] rfl rfl ?_
  refine v_seq ?_
  refine v_seq ?_
  refine v_region ?_
  refine l_val rfl (o_move rfl) ?_
  refine l_gbox (ks := []) (caps := #[]) (vs := [_]) (T := 22) (cs := [_]) rfl rfl (ent_of Try.func47 rfl rfl) rfl (fun w' _ _ => a_edges w' a0 n0 c0) fun b21 => ?_
  refine l_nil ?_
  refine kt_norm ?_
  refine v_block ?_
  refine v_freeze 21 [4, 5, 6] rfl rfl rfl ?_
  refine v_ghost 41 68 7 ?_
  refine v_range (τ := Value × List EdgeT) rfl rfl rfl (ent_of Try.func64 rfl rfl) (a_edges1 b21 (.slice a0 n0 c0) pvs ps hv) (fun w' hg => ⟨hg.2, hat.keep hg.1⟩) (fun _ => rfl) (fun t => [(4, .box b4 51 [t.1]), (5, .box (σ 5) 3 [.int .i64 (16 * Y)]), (6, .box (σ 6) 3 [.int .i64 (16 * (Y + H))]), (41, .own t.1 68 7 t.2.length (t.2.flatMap eE))]) (fun k t => t.2 = viewEs (16 * Y) (16 * (Y + H)) ((edgesAll ps).take k) ∧ RowV t.1 t.2.length) (.slice none 0 0, []) ⟨rfl, .nil0⟩ [4, 5, 6, 41] rfl ?_ ?_
  · rintro k x ⟨va, es⟩ lp W1 Wa hx ⟨hes, hva⟩
    dsimp only at hes hva
    have hel : es.length ≤ 320 := by rw [hes]; have h1 := viewEs_len (16 * Y) (16 * (Y + H)) ((edgesAll ps).take k); have h2 := edgesAll_len hb; have h3 := List.length_take (i := k) (l := edgesAll ps); omega
    refine v_region ?_
    refine l_new rfl o_alloc fun b7 => ?_
    refine l_store rfl (o_storeW (key := 7) (xs := [_, _, _, _, _, _, _]) rfl rfl rfl rfl rfl rfl rfl) ?_
    refine l_nil ?_
    refine ⟨rfl, rfl, rfl, rfl, fun W2 Wb => ?_⟩
    refine v_block ?_
    refine v_seq ?_
    refine v_drawZ [[], [7], [5], [], [], [7], [6], [], [], [7], [], [7]] mixed ?_ (by kernel_rfl) (by kernel_rfl)
    refine d_val (fun _ => rfl) rfl rfl (fun _ => o_fld rfl) ?_
    refine d_val (fun _ => rfl) rfl rfl (fun _ => o_load1 (key := 7) rfl rfl rfl) ?_
    refine d_val (fun _ => rfl) rfl rfl (fun _ => o_load1 (key := 5) rfl rfl rfl) ?_
    refine d_val (fun _ => rfl) rfl rfl (fun _ => o_max rfl rfl) ?_
    refine d_val (fun _ => rfl) rfl rfl (fun _ => o_fld rfl) ?_
    refine d_val (fun _ => rfl) rfl rfl (fun _ => o_load1 (key := 7) rfl rfl rfl) ?_
    refine d_val (fun _ => rfl) rfl rfl (fun _ => o_load1 (key := 6) rfl rfl rfl) ?_
    refine d_val (fun _ => rfl) rfl rfl (fun _ => o_min rfl rfl) ?_
    refine d_val (fun _ => rfl) rfl rfl (fun _ => o_fld rfl) ?_
    refine d_store (fun _ => rfl) rfl rfl (fun _ => o_store1 (key := 7) (rs := [_, _, _, _, _, _, _]) rfl rfl rfl rfl rfl rfl rfl) ?_
    refine d_val (fun _ => rfl) rfl rfl (fun _ => o_fld rfl) ?_
    refine d_store (fun _ => rfl) rfl rfl (fun _ => o_store1 (key := 7) (rs := [_, _, _, _, _, _, _]) rfl rfl rfl rfl rfl rfl rfl) ?_
    refine d_nil (fun σ => ?_)
    refine l_nil ?_
    refine kt_norm ?_
    refine v_sel [0, 4, 5, 6, 7] [4, 5, 6, 7, 41] rfl rfl ?_
    refine v_seq ?_
    refine v_region ?_
    refine l_val rfl (o_fld rfl) ?_
    refine l_val rfl (o_load1 (key := 7) rfl rfl rfl) ?_
    refine l_val rfl (o_fld rfl) ?_
    refine l_val rfl (o_load1 (key := 7) rfl rfl rfl) ?_
    refine l_split rfl (o_lss rfl rfl) (fun hlt => ?_) (fun hlt => ?_)
    · skip
      refine l_nil ?_
      refine kt_norm ?_
      refine v_condT rfl ?_
      refine v_region ?_
      refine l_val rfl (o_load1 (key := 4) rfl rfl rfl) ?_
      refine l_val rfl (o_loadW (key := 7) rfl rfl rfl) ?_
      refine l_buildSlice (vs := [_]) (cs := [_, _, _, _, _, _, _]) rfl rfl rfl rfl rfl rfl fun v40 hv40 => ?_
      refine l_append 41 [4, 5, 6, 7, 40] rfl rfl rfl rfl rfl rfl rfl hv40 (row_own (key := 40) rfl) (by show es.length + 1 ≤ _; omega) fun v41 hv41 => ?_
      refine l_store rfl (o_store1 (key := 4) (rs := [_]) rfl rfl (rowV_cells hv41) rfl rfl (rowV_one hv41) rfl) ?_
      refine l_nil ?_
      refine kb_norm ?_
      exact ⟨rfl, (v41, es ++ [cutE (16 * Y) (16 * (Y + H)) x]), ⟨by show es ++ [cutE (16 * Y) (16 * (Y + H)) x] = _; rw [viewEs_yes hx hlt, hes], by rw [List.length_append]; exact hv41⟩, ⟨fun _ _ h => (by cases h), leL_ok _ (And.intro rfl (And.intro rfl (And.intro rfl (And.intro (congrArg some (own_congr (by simp) (by simp [eE, cutE]))) True.intro)))), rfl, rfl, rfl⟩⟩
    · skip
      refine l_nil ?_
      refine kt_norm ?_
      refine v_condF rfl ?_
      refine v_skip ?_
      refine kb_norm ?_
      exact ⟨rfl, (va, es), ⟨by show es = _; rw [viewEs_no hx hlt, hes], hva⟩, ⟨fun _ _ h => (by cases h), leL_ok _ (And.intro rfl (And.intro rfl (And.intro rfl (And.intro rfl True.intro)))), rfl, rfl, rfl⟩⟩
  · rintro ⟨va, es⟩ D ⟨hes, hva⟩
    dsimp only at hes hva
    rw [List.take_length] at hes
    have hfe : ∀ e ∈ es, FrOk e := by rw [hes]; exact viewEs_ok hb (by omega)
    have hel : es.length ≤ 320 := by rw [hes]; have h1 := viewEs_len (16 * Y) (16 * (Y + H)) (edgesAll ps); have h2 := edgesAll_len hb; omega
    refine kb_norm ?_
    refine kt_norm ?_
    refine v_sel [4] [4, 41] rfl rfl ?_
    refine v_seq ?_
    refine v_region ?_
    refine l_val rfl (o_load1 (key := 4) rfl rfl rfl) ?_
    refine l_gmutX (ks := []) 41 (fun lz => SrtQ es 0 es.length lz) (fun lz => lz.flatMap eE) (n := es.length) (caps := #[]) (vs := [_, _]) rfl rfl (ent_of Try.func48 rfl rfl) rfl rfl (fun w' hg hh hok2 => a_Sort w' va es (by omega) hok2 hfe) (fun l2 y2 hS2 => ?_)
    refine l_nil ?_
    refine kt_norm ?_
    refine v_seq ?_
    refine v_region ?_
    refine l_val rfl (o_load1 (key := 4) rfl rfl rfl) ?_
    refine l_store rfl (o_store1 (key := 4) (rs := [_]) rfl rfl (rowV_cells hva) rfl rfl (rowV_one hva) rfl) ?_
    refine l_nil ?_
    refine kt_norm ?_
    refine v_ret ?_
    refine ⟨[_], .cons (.cell1 (key := 4) rfl rfl) (ResAll.nil), ?_⟩
    subst hes
    exact ⟨l2, hS2, 41, rfl⟩
theorem a_TableN (w : World) (v : Value) (X Y W H : Int) (hvw : ¬ ViewOk X Y W H) :
    Calls Try.prog 29 #[v, .agg #[.int .i64 X, .int .i64 Y, .int .i64 W, .int .i64 H]] w fun e w' => ∃ y, e = .returned y ∧ Below w.heap.size w w' ∧ OwnAt w.heap.size w' y 68 7 0 [] := by
  refine calls_own (args := [v, .agg #[.int .i64 X, .int .i64 Y, .int .i64 W, .int .i64 H]]) Try.func29 rfl Try.ntmps29 Try.results29 rfl ?_
  refine v_ghost 1000 68 7 ?_
  refine v_seq ?_
  refine v_region ?_
  refine l_new rfl (o_box (cs := [_, _, _, _]) rfl rfl) fun b3 => ?_
  refine l_new rfl o_alloc fun b4 => ?_
  refine l_nil ?_
  refine kt_norm ?_
  refine v_seq ?_
  refine v_seq ?_
  refine v_region ?_
  refine l_val rfl (o_loadW (key := 3) rfl rfl rfl) ?_
  refine l_ans (vs := [_]) rfl rfl ((show Ans Try.prog _ _ (.int .i64 190) by have := a_Check X Y W H; rwa [if_neg hvw] at this)) ?_
  refine l_split rfl (o_neq rfl rfl) (fun q1 => ?_) (fun q1 => absurd (show _ by omega) q1)
  refine l_nil ?_
  refine kt_norm ?_
  refine v_condT rfl ?_
  refine v_seq ?_
  refine v_region ?_
  refine l_store rfl (o_store1 (key := 4) (rs := [_]) rfl rfl rfl rfl rfl rfl rfl) ?_
  refine l_nil ?_
  refine kt_norm ?_
  refine v_sel [4] [4, 1000] rfl rfl ?_
  refine v_ret ?_
  refine kt_ret ?_
  refine ⟨[_], .cons (.cell1 (key := 4) rfl rfl) (ResAll.nil), ?_⟩
  exact ⟨1000, rfl⟩
end Go.Proofs.Ytllhohbenniaaaa

/- Edges of a view have just the rows of it; they rise by their first rows. Conditions: none. -/
namespace Go.Proofs.Ytllhohbenniaaaa
open Go.Proofs Go.RowKit Go.Shelf

theorem table_el {f t : Int} {ps : List (List PtT)} {es : List EdgeT} (hb : Bnd ps) (hft : f ≤ t) (h : SrtQ (viewEs f t (edgesAll ps)) 0 (viewEs f t (edgesAll ps)).length es) : es.length = (viewEs f t (edgesAll ps)).length ∧ ∀ i, i < es.length → ∃ e0, EdgeOk e0 ∧ Unit e0 ∧ es.getD i dE = cutE f t e0 ∧ (cutE f t e0).fr < (cutE f t e0).to := by
  refine ⟨h.mut_.st.len, fun i hi => ?_⟩
  have hm : es.getD i dE ∈ es := by rw [List.getD_eq_getElem?_getD, List.getElem?_eq_getElem hi]; exact List.getElem_mem hi
  obtain ⟨e0, h0, h1, h2⟩ := viewEs_mem (h.mut_.st.mem hm)
  have h3 := edgesAll_ok hb e0 h0
  exact ⟨e0, h3.1, h3.2, h1, by rw [← h1]; exact h2⟩
structure CutOk (f t : Int) (e : EdgeT) : Prop where
  fr : f ≤ e.fr
  to : e.to ≤ t
  lt : e.fr < e.to
  dy : 0 < e.dy
  wi : e.wi = 1 ∨ e.wi = -1
theorem table_cut {f t : Int} {ps : List (List PtT)} {es : List EdgeT} (hb : Bnd ps) (hft : f ≤ t) (h : SrtQ (viewEs f t (edgesAll ps)) 0 (viewEs f t (edgesAll ps)).length es) {i : Nat} (hi : i < es.length) : CutOk f t (es.getD i dE) := by
  obtain ⟨e0, h1, h2, h3, h4⟩ := (table_el hb hft h).2 i hi
  rw [h3]
  refine ⟨?_, ?_, h4, h1.dy, h2⟩
  · rw [cutE_fr]; split <;> omega
  · rw [cutE_to]; split <;> omega
theorem pieces_of {w : World} {v : Value} {n : Nat} {pvs : List Value} {q : Nat → Nat × List Value} (hV : RowV v n) (hn : n ≤ maxLen) (hl : pvs.length = n) (hrow : RowAt w v 1 n pvs) (h : ∀ i, i < n → RowV (pvs.getD i undef) (q i).1 ∧ RowAt w (pvs.getD i undef) 2 (q i).1 (q i).2 ∧ ∀ u ∈ (q i).2, IsInt u) :
    ∃ ps : List (List PtT), PcsW v pvs ps ∧ PcsAt w v pvs ps ∧ ∀ i, i < ps.length → ∀ p ∈ ps.getD i [], (Lit.int .i64 p.x).wf = true ∧ (Lit.int .i64 p.y).wf = true := by
  obtain ⟨f, hf⟩ := Go.Deep.choose_lt (n := n) (p := fun i (pc : List PtT) => pc.length = (q i).1 ∧ pc.flatMap eP = (q i).2 ∧ ∀ p ∈ pc, (Lit.int .i64 p.x).wf = true ∧ (Lit.int .i64 p.y).wf = true) (fun i hi => pts_of (q i).1 (q i).2 (h i hi).2.1.len (h i hi).2.2)
  have hg : ∀ i, i < n → ((List.range n).map f).getD i [] = f i := fun i hi => by
    rw [List.getD_eq_getElem?_getD, List.getElem?_map, List.getElem?_range hi]; rfl
  have hlen : ((List.range n).map f).length = n := by simp
  refine ⟨(List.range n).map f, ⟨by rw [hlen]; exact hV, by rw [hlen]; exact hl, by rw [hlen, ← maxLen_le]; exact hn, fun i hi => ?_⟩, ⟨by rw [hlen]; exact hrow, fun i hi => ?_⟩, fun i hi => ?_⟩
  all_goals rw [hlen] at hi; rw [hg i hi]
  · rw [(hf i hi).1]; exact (h i hi).1
  · rw [(hf i hi).1, (hf i hi).2.1]; exact (h i hi).2.1
  · exact (hf i hi).2.2



end Go.Proofs.Ytllhohbenniaaaa

/- The rows of edges as the document has them. Conditions: none. -/
namespace Go.Proofs.Ytllhohbenniaaaa
open Go.Proofs Go.RowKit Go.Shelf

/-! ### the document's own stable sort: each edge goes behind all that do not come after it -/
def insS (e : EdgeT) (o : List EdgeT) : List EdgeT := o.takeWhile (fun x => decide (x.fr ≤ e.fr)) ++ e :: o.dropWhile (fun x => decide (x.fr ≤ e.fr))
def stSort (l : List EdgeT) : List EdgeT := l.foldl (fun o e => insS e o) []
theorem insS_nil (e : EdgeT) : insS e [] = [e] := rfl
theorem insS_le {e x : EdgeT} {o : List EdgeT} (h : x.fr ≤ e.fr) : insS e (x :: o) = x :: insS e o := by
  unfold insS
  rw [List.takeWhile_cons_of_pos (by simpa using h), List.dropWhile_cons_of_pos (by simpa using h)]; rfl
theorem insS_gt {e x : EdgeT} {o : List EdgeT} (h : ¬ x.fr ≤ e.fr) : insS e (x :: o) = e :: x :: o := by
  unfold insS
  rw [List.takeWhile_cons_of_neg (by simpa using h), List.dropWhile_cons_of_neg (by simpa using h)]; rfl
theorem stSort_snoc (l : List EdgeT) (e : EdgeT) : stSort (l ++ [e]) = insS e (stSort l) := by simp [stSort, List.foldl_append]
theorem insS_len (e : EdgeT) : ∀ o : List EdgeT, (insS e o).length = o.length + 1
  | [] => rfl
  | x :: o => by
    by_cases h : x.fr ≤ e.fr
    · rw [insS_le h, List.length_cons, insS_len e o]; rfl
    · rw [insS_gt h]; rfl
theorem insS_at {e : EdgeT} : ∀ (o : List EdgeT) (at_ : Nat), at_ ≤ o.length → (∀ j, j < at_ → (o.getD j dE).fr ≤ e.fr) → (at_ < o.length → ¬ (o.getD at_ dE).fr ≤ e.fr) → insS e o = o.take at_ ++ e :: o.drop at_
  | [], at_, h1, _, _ => by
    obtain rfl : at_ = 0 := by simpa using h1
    rfl
  | x :: o, 0, _, _, h3 => by rw [insS_gt (by simpa using h3 (by simp))]; rfl
  | x :: o, at_ + 1, h1, h2, h3 => by
    rw [insS_le (by simpa using h2 0 (by omega)), insS_at o at_ (by simpa using h1) (fun j hj => by simpa using h2 (j + 1) (by omega)) (fun hj => by simpa using h3 (by simpa using hj))]
    rfl
theorem insS_mem {e y : EdgeT} : ∀ o : List EdgeT, y ∈ insS e o → y = e ∨ y ∈ o
  | [], h => by rw [insS_nil] at h; exact .inl (by simpa using h)
  | x :: o, h => by
    by_cases hx : x.fr ≤ e.fr
    · rw [insS_le hx] at h
      rcases List.mem_cons.1 h with h | h
      · exact .inr (by rw [h]; exact List.mem_cons_self)
      · exact (insS_mem o h).imp id (List.mem_cons_of_mem _)
    · rw [insS_gt hx] at h
      exact List.mem_cons.1 h
theorem insS_srt {e : EdgeT} : ∀ o : List EdgeT, Srt o → Srt (insS e o)
  | [], _ => by rw [insS_nil]; exact List.pairwise_singleton _ _
  | x :: o, h => by
    have hx := List.pairwise_cons.1 h
    by_cases hle : x.fr ≤ e.fr
    · rw [insS_le hle]
      refine List.pairwise_cons.2 ⟨fun y hy => ?_, insS_srt o hx.2⟩
      rcases insS_mem o hy with rfl | h'
      · exact hle
      · exact hx.1 y h'
    · rw [insS_gt hle]
      refine List.pairwise_cons.2 ⟨fun y hy => ?_, h⟩
      rcases List.mem_cons.1 hy with rfl | h'
      · omega
      · have := hx.1 y h'; omega
theorem insS_fk {e : EdgeT} (k : Int) : ∀ o : List EdgeT, Srt o → fk k (insS e o) = fk k (o ++ [e])
  | [], _ => rfl
  | x :: o, h => by
    have hx := List.pairwise_cons.1 h
    by_cases hle : x.fr ≤ e.fr
    · rw [insS_le hle, List.cons_append]
      have ih := insS_fk (e := e) k o hx.2
      by_cases hk : x.fr = k
      · rw [fk_head hk, fk_head hk, ih]
      · rw [fk_skip hk, fk_skip hk, ih]
    · rw [insS_gt hle, fk_append]
      by_cases hk : e.fr = k
      · rw [fk_head hk, fk_none (l := x :: o) (fun y hy => by
          rcases List.mem_cons.1 hy with rfl | h'
          · omega
          · have := hx.1 y h'; omega), fk_head hk]
        rfl
      · rw [fk_skip hk, fk_skip (l := []) hk]
        simp [fk]
theorem stSort_ok : ∀ (l : List EdgeT) (n : Nat), l.length = n → Srt (stSort l) ∧ StEq l (stSort l)
  | l, 0, h => by
    obtain rfl : l = [] := List.length_eq_zero_iff.1 h
    exact ⟨List.Pairwise.nil, StEq.refl _⟩
  | l, n + 1, h => by
    have hne : l ≠ [] := by intro e; subst e; simp at h
    have e := List.dropLast_concat_getLast hne
    obtain ⟨l0, x, rfl⟩ : ∃ l0 x, l = l0 ++ [x] := ⟨_, _, e.symm⟩
    have ih := stSort_ok l0 n (by simpa using h)
    rw [stSort_snoc]
    refine ⟨insS_srt _ ih.1, ⟨by rw [insS_len, ih.2.len]; simp, fun k => ?_⟩⟩
    rw [insS_fk k _ ih.1, fk_append, fk_append, ih.2.keys]
theorem stSort_len (l : List EdgeT) : (stSort l).length = l.length := (stSort_ok l _ rfl).2.len
/-- there is but one stable sort -/
theorem srtQ_stSort {l es : List EdgeT} (h : SrtQ l 0 l.length es) : es = stSort l := by
  have h1 := stSort_ok l _ rfl
  have hl := h.mut_.st.len
  exact srt_unique _ _ h1.1 (SrtOn.srt (by rw [hl]; exact h.srt)) (h1.2.symm.trans h.mut_.st)
theorem take_flat {l : List EdgeT} {i : Nat} (h : i < l.length) : (l.take i).flatMap eE ++ eE (l.getD i dE) = (l.take (i + 1)).flatMap eE := by
  rw [List.take_add_one, List.getElem?_eq_getElem h, List.flatMap_append, List.getD_eq_getElem?_getD, List.getElem?_eq_getElem h]
  simp
theorem take_one {l : List Value} {i : Nat} (h : i < l.length) : l.take i ++ [l.getD i undef] = l.take (i + 1) := by
  rw [List.take_add_one, List.getElem?_eq_getElem h, List.getD_eq_getElem?_getD, List.getElem?_eq_getElem h]
  rfl
theorem liveT_snoc {r : Int} {l : List EdgeT} {i : Nat} (h : i < l.length) : liveT r (l.take (i + 1)) = liveT r (l.take i) ++ (if (l.getD i dE).fr ≤ r ∧ r < (l.getD i dE).to then [l.getD i dE] else []) := by
  unfold liveT
  rw [List.take_add_one, List.getElem?_eq_getElem h, List.filter_append, List.getD_eq_getElem?_getD, List.getElem?_eq_getElem h]
  congr 1
  simp only [Option.toList_some, Option.getD_some]
  split
  · rename_i h1
    rw [List.filter_cons_of_pos (by simp; omega), List.filter_nil]
  · rename_i h1
    rw [List.filter_cons_of_neg (by simp; omega), List.filter_nil]
theorem ins_flat {o : List EdgeT} {e : EdgeT} {at_ : Nat} (h1 : at_ ≤ o.length) (h2 : ∀ j, j < at_ → (o.getD j dE).fr ≤ e.fr) (h3 : at_ < o.length → ¬ (o.getD at_ dE).fr ≤ e.fr) : [] ++ (o.flatMap eE).take (at_ * 7) ++ eE e ++ (o.flatMap eE).drop (at_ * 7) = (insS e o).flatMap eE := by
  rw [insS_at o at_ h1 h2 h3, flat_take eE_len, flat_drop eE_len]
  simp
theorem rowOf_mono {a b : Int} (h : a ≤ b) : rowOf a ≤ rowOf b := by
  have h1 := rowOf_def a; have h2 := rowOf_def b; omega









end Go.Proofs.Ytllhohbenniaaaa

/- The edges of a piece, and the table of a view, as the document has them. Conditions: none. -/
namespace Go.Proofs.Ytllhohbenniaaaa
open Go.Proofs Go.RowKit Go.Shelf


def tabT (X Y W H : Int) (ps : List (List PtT)) : List EdgeT := if ViewOk X Y W H then stSort (viewEs (16 * Y) (16 * (Y + H)) (edgesAll ps)) else []
theorem tabT_len {X Y W H : Int} {ps : List (List PtT)} (hb : Bnd ps) : (tabT X Y W H ps).length ≤ 320 := by
  unfold tabT
  split
  · rw [stSort_len]; exact Nat.le_trans (viewEs_len _ _ _) (edgesAll_len hb)
  · exact Nat.zero_le _
theorem a_TableT (w : World) (v : Value) (pvs : List Value) (ps : List (List PtT)) (X Y W H : Int) (hb : Bnd ps) (hv : PcsV v pvs ps) (hat : PcsAt w v pvs ps) :
    Calls Try.prog 29 #[v, .agg #[.int .i64 X, .int .i64 Y, .int .i64 W, .int .i64 H]] w fun e w' => ∃ y, e = .returned y ∧ Below w.heap.size w w' ∧ OwnAt w.heap.size w' y 68 7 (tabT X Y W H ps).length ((tabT X Y W H ps).flatMap eE) := by
  unfold tabT
  by_cases hvw : ViewOk X Y W H
  · rw [if_pos hvw]
    obtain ⟨a0, c0, rfl⟩ := hv.V.sl
    refine (a_Table w a0 ps.length c0 pvs ps X Y W H hb hv hat hvw).mono ?_
    rintro e w' ⟨y, es, rfl, hS, h1, h2⟩
    have := srtQ_stSort hS
    subst this
    exact ⟨y, rfl, h1, by rw [stSort_len]; exact h2⟩
  · rw [if_neg hvw]
    exact a_TableN w v X Y W H hvw
/-- what the document's loop holds: of the first edges -/
def docT (X Y W H : Int) (es : List EdgeT) : List EdgeT := stSort (viewEs (16 * Y) (16 * (Y + H)) es)
theorem docT_yes {X Y W H : Int} {es : List EdgeT} {e : EdgeT} (h : (cutE (16 * Y) (16 * (Y + H)) e).fr < (cutE (16 * Y) (16 * (Y + H)) e).to) : docT X Y W H (es ++ [e]) = insS (cutE (16 * Y) (16 * (Y + H)) e) (docT X Y W H es) := by
  unfold docT; rw [viewEs_snoc, if_pos h, stSort_snoc]
theorem docT_no {X Y W H : Int} {es : List EdgeT} {e : EdgeT} (h : ¬ (cutE (16 * Y) (16 * (Y + H)) e).fr < (cutE (16 * Y) (16 * (Y + H)) e).to) : docT X Y W H (es ++ [e]) = docT X Y W H es := by
  unfold docT; rw [viewEs_snoc, if_neg h, List.append_nil]
theorem docT_len {X Y W H : Int} {es : List EdgeT} : (docT X Y W H es).length ≤ es.length := by
  unfold docT; rw [stSort_len]; exact viewEs_len _ _ _
theorem all_split {ps : List (List PtT)} {i : Nat} (hi : i < ps.length) (k : Nat) : (edgesAll (ps.take i) ++ (edgesOf (ps.getD i [])).take k).length ≤ (edgesAll ps).length := by
  have h1 : edgesAll ps = edgesAll (ps.take (i + 1)) ++ edgesAll (ps.drop (i + 1)) := by
    unfold edgesAll; rw [← List.flatMap_append, List.take_append_drop]
  rw [h1, all_take_succ hi]
  simp only [List.length_append, List.length_take]
  omega



end Go.Proofs.Ytllhohbenniaaaa
