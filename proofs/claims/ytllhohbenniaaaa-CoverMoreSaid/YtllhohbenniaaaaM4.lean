import Derived.Shelf.SlIterI.Sorted
import Derived.Shelf.SortM.Plain
import Derived.Shelf.SortM.SortNone
import Derived.Ground.GgzProg
import Derived.Ground.SlgmProg
import Derived.Maps.Views
import Derived.Test.YtllhohbenniaaaaM1
import Derived.Test.YtllhohbenniaaaaM2
import Derived.Test.YtllhohbenniaaaaM3
/- The crossings of a row: how its winding turns at each place; the places, rising. Conditions: none. -/
namespace Go.Proofs.Ytllhohbenniaaaa
open Go.Proofs Go.RowKit Go.Shelf

/-! ### crossings and spans: plain law -/
structure SpanT where
  fr : Int
  to : Int
def eS (s : SpanT) : List Value := [.int .i64 s.fr, .int .i64 s.to]
def dS : SpanT := ⟨0, 0⟩
theorem eS_len (s : SpanT) : (eS s).length = 2 := rfl
def sumF {α : Type} (f : α → Int) : List α → Int
  | [] => 0
  | x :: r => f x + sumF f r
theorem sumF_append {α : Type} (f : α → Int) : ∀ l k : List α, sumF f (l ++ k) = sumF f l + sumF f k
  | [], k => by simp [sumF]
  | x :: r, k => by simp only [List.cons_append, sumF, sumF_append f r k]; omega
theorem sumF_add {α : Type} (f g : α → Int) : ∀ l : List α, sumF (fun x => f x + g x) l = sumF f l + sumF g l
  | [] => rfl
  | x :: r => by simp only [sumF, sumF_add f g r]; omega
theorem sumF_congr {α : Type} {f g : α → Int} : ∀ l : List α, (∀ x ∈ l, f x = g x) → sumF f l = sumF g l
  | [], _ => rfl
  | x :: r, h => by simp only [sumF]; rw [h x List.mem_cons_self, sumF_congr r fun y hy => h y (List.mem_cons_of_mem _ hy)]
theorem sumF_zero {α : Type} : ∀ l : List α, sumF (fun _ => 0) l = 0
  | [] => rfl
  | x :: r => by simp only [sumF, sumF_zero r]; rfl
theorem sumF_map {α β : Type} (f : β → Int) (h : α → β) : ∀ l : List α, sumF f (l.map h) = sumF (fun x => f (h x)) l
  | [] => rfl
  | x :: r => by simp only [List.map_cons, sumF, sumF_map f h r]
theorem sumF_bound {α : Type} {f : α → Int} : ∀ l : List α, (∀ x ∈ l, -1 ≤ f x ∧ f x ≤ 1) → -(l.length : Int) ≤ sumF f l ∧ sumF f l ≤ l.length
  | [], _ => by simp [sumF]
  | x :: r, h => by
    have h1 := h x List.mem_cons_self
    have h2 := sumF_bound r fun y hy => h y (List.mem_cons_of_mem _ hy)
    simp only [sumF, List.length_cons]
    omega
theorem sumF_swap {α β : Type} (f : α → β → Int) : ∀ (l : List α) (k : List β), sumF (fun x => sumF (f x) k) l = sumF (fun y => sumF (fun x => f x y) l) k
  | [], k => by simp only [sumF]; rw [sumF_zero]
  | x :: r, k => by simp only [sumF]; rw [sumF_swap f r k, ← sumF_add]
theorem sumF_perm {α : Type} {f : α → Int} {l k : List α} (h : l.Perm k) : sumF f l = sumF f k := by
  induction h with
  | nil => rfl
  | cons x _ ih => simp only [sumF, ih]
  | swap x y l => simp only [sumF]; omega
  | trans _ _ h1 h2 => rw [h1, h2]
/-- how a row's winding turns at x; up to x -/
def sumAt (cs : List (Int × Int)) (x : Int) : Int := sumF (fun c => if c.1 = x then c.2 else 0) cs
def sumTo (cs : List (Int × Int)) (x : Int) : Int := sumF (fun c => if c.1 ≤ x then c.2 else 0) cs
def insU (x : Int) : List Int → List Int
  | [] => [x]
  | y :: r => if y < x then y :: insU x r else if y = x then y :: r else x :: y :: r
/-- the places, rising, each once -/
def keysOf (cs : List (Int × Int)) : List Int := cs.foldl (fun l c => insU c.1 l) []
def Inc (l : List Int) : Prop := l.Pairwise (· < ·)
theorem keysOf_snoc (cs : List (Int × Int)) (c : Int × Int) : keysOf (cs ++ [c]) = insU c.1 (keysOf cs) := by simp [keysOf, List.foldl_append]
theorem insU_mem {x y : Int} : ∀ l : List Int, y ∈ insU x l ↔ y = x ∨ y ∈ l
  | [] => by simp [insU]
  | z :: r => by
    unfold insU
    split
    · rw [List.mem_cons, insU_mem r, List.mem_cons]
      constructor
      · rintro (h | h | h)
        · exact .inr (.inl h)
        · exact .inl h
        · exact .inr (.inr h)
      · rintro (h | h | h)
        · exact .inr (.inl h)
        · exact .inl h
        · exact .inr (.inr h)
    · split
      · rename_i h; subst h; simp
      · simp
theorem insU_inc {x : Int} : ∀ l : List Int, Inc l → Inc (insU x l)
  | [], _ => List.pairwise_singleton _ _
  | z :: r, h => by
    have hz := List.pairwise_cons.1 h
    unfold insU
    split
    · rename_i hlt
      refine List.pairwise_cons.2 ⟨fun y hy => ?_, insU_inc r hz.2⟩
      rcases (insU_mem r).1 hy with rfl | hy
      · exact hlt
      · exact hz.1 y hy
    · split
      · exact h
      · rename_i h1 h2
        refine List.pairwise_cons.2 ⟨fun y hy => ?_, h⟩
        rcases List.mem_cons.1 hy with rfl | hy
        · omega
        · have := hz.1 y hy; omega
theorem insU_at {x : Int} : ∀ (l : List Int) (at_ : Nat), at_ ≤ l.length → (∀ j, j < at_ → l.getD j 0 < x) → (at_ < l.length → ¬ l.getD at_ 0 < x) → insU x l = if at_ < l.length ∧ l.getD at_ 0 = x then l else l.take at_ ++ x :: l.drop at_
  | [], at_, h1, _, _ => by
    obtain rfl : at_ = 0 := by simpa using h1
    rfl
  | y :: r, 0, _, _, h3 => by
    have h := h3 (by simp)
    simp only [List.getD_cons_zero] at h
    simp only [insU, if_neg h, List.getD_cons_zero, List.length_cons, Nat.zero_lt_succ, true_and, List.take_zero, List.drop_zero, List.nil_append]
  | y :: r, at_ + 1, h1, h2, h3 => by
    have h0 := h2 0 (by omega)
    simp only [List.getD_cons_zero] at h0
    have ih := insU_at r at_ (by simpa using h1) (fun j hj => by simpa using h2 (j + 1) (by omega)) (fun hj => by simpa using h3 (by simpa using hj))
    simp only [insU, if_pos h0, ih, List.getD_cons_succ, List.length_cons, Nat.add_lt_add_iff_right, List.take_succ_cons, List.drop_succ_cons]
    split <;> rfl
theorem keysOf_ok : ∀ (n : Nat) (cs : List (Int × Int)), cs.length = n → Inc (keysOf cs) ∧ ∀ x, x ∈ keysOf cs ↔ ∃ c ∈ cs, c.1 = x
  | 0, cs, h => by
    obtain rfl : cs = [] := List.length_eq_zero_iff.1 h
    exact ⟨List.Pairwise.nil, fun x => by simp [keysOf]⟩
  | n + 1, cs, h => by
    have hne : cs ≠ [] := by intro e; subst e; simp at h
    have e := List.dropLast_concat_getLast hne
    obtain ⟨l0, c, rfl⟩ : ∃ l0 c, cs = l0 ++ [c] := ⟨_, _, e.symm⟩
    have ih := keysOf_ok n l0 (by simpa using h)
    rw [keysOf_snoc]
    refine ⟨insU_inc _ ih.1, fun x => ?_⟩
    rw [insU_mem, ih.2]
    constructor
    · rintro (rfl | ⟨c', h1, h2⟩)
      · exact ⟨c, by simp, rfl⟩
      · exact ⟨c', by simp [h1], h2⟩
    · rintro ⟨c', h1, h2⟩
      rcases List.mem_append.1 h1 with h1 | h1
      · exact .inr ⟨c', h1, h2⟩
      · rw [List.mem_singleton.1 h1] at h2; exact .inl h2.symm
theorem keysOf_inc (cs : List (Int × Int)) : Inc (keysOf cs) := (keysOf_ok _ cs rfl).1
theorem keysOf_mem {cs : List (Int × Int)} {x : Int} : x ∈ keysOf cs ↔ ∃ c ∈ cs, c.1 = x := (keysOf_ok _ cs rfl).2 x
theorem inc_unique : ∀ (l l' : List Int), Inc l → Inc l' → (∀ x, x ∈ l ↔ x ∈ l') → l = l'
  | [], [], _, _, _ => rfl
  | [], y :: r, _, _, h => by have := (h y).2 List.mem_cons_self; simp at this
  | x :: l, [], _, _, h => by have := (h x).1 List.mem_cons_self; simp at this
  | x :: l, y :: r, h1, h2, h => by
    have a1 := List.pairwise_cons.1 h1
    have a2 := List.pairwise_cons.1 h2
    have e : x = y := by
      rcases List.mem_cons.1 ((h x).1 List.mem_cons_self) with e | hx
      · exact e
      · rcases List.mem_cons.1 ((h y).2 List.mem_cons_self) with e | hy
        · exact e.symm
        · have := a2.1 x hx; have := a1.1 y hy; omega
    subst e
    rw [inc_unique l r a1.2 a2.2 fun z => ?_]
    have hz := h z
    simp only [List.mem_cons] at hz
    constructor
    · intro hm
      rcases hz.1 (.inr hm) with e | h'
      · subst e; have := a1.1 z hm; omega
      · exact h'
    · intro hm
      rcases hz.2 (.inr hm) with e | h'
      · subst e; have := a2.1 z hm; omega
      · exact h'
theorem keysOf_len (cs : List (Int × Int)) : (keysOf cs).length ≤ cs.length := by
  have key : ∀ (n : Nat) (cs : List (Int × Int)), cs.length = n → (keysOf cs).length ≤ n := fun n => by
    induction n with
    | zero => intro cs h; obtain rfl : cs = [] := List.length_eq_zero_iff.1 h; exact Nat.le_refl _
    | succ n ih =>
      intro cs h
      have hne : cs ≠ [] := by intro e; subst e; simp at h
      have e := List.dropLast_concat_getLast hne
      obtain ⟨l0, c, rfl⟩ : ∃ l0 c, cs = l0 ++ [c] := ⟨_, _, e.symm⟩
      have h1 := ih l0 (by simpa using h)
      rw [keysOf_snoc]
      have h2 : ∀ (x : Int) (l : List Int), (insU x l).length ≤ l.length + 1 := fun x l => by
        induction l with
        | nil => exact Nat.le_refl _
        | cons y r ih => unfold insU; split <;> (try split) <;> simp <;> omega
      have := h2 c.1 (keysOf l0)
      omega
  exact key _ cs rfl
/-! #### the spans of a row -/
abbrev RowS := Int × Int × List SpanT
def stepR (cs : List (Int × Int)) (s : RowS) (x : Int) : RowS := (s.1 + sumAt cs x, if s.1 = 0 then x else s.2.1, if s.1 = 0 then s.2.2 else if s.1 + sumAt cs x = 0 then s.2.2 ++ [⟨s.2.1, x⟩] else s.2.2)
theorem stepR0 {cs : List (Int × Int)} {s : RowS} {x : Int} (h : s.1 = 0) : stepR cs s x = (s.1 + sumAt cs x, x, s.2.2) := by unfold stepR; rw [if_pos h, if_pos h]
theorem stepR1 {cs : List (Int × Int)} {s : RowS} {x : Int} (h : ¬ s.1 = 0) (h2 : s.1 + sumAt cs x = 0) : stepR cs s x = (s.1 + sumAt cs x, s.2.1, s.2.2 ++ [⟨s.2.1, x⟩]) := by unfold stepR; rw [if_neg h, if_neg h, if_pos h2]
theorem stepR2 {cs : List (Int × Int)} {s : RowS} {x : Int} (h : ¬ s.1 = 0) (h2 : ¬ s.1 + sumAt cs x = 0) : stepR cs s x = (s.1 + sumAt cs x, s.2.1, s.2.2) := by unfold stepR; rw [if_neg h, if_neg h, if_neg h2]
theorem stepR_from {cs : List (Int × Int)} {s : RowS} {x : Int} (h : ¬ s.1 = 0) : (stepR cs s x).2.1 = s.2.1 := if_neg h
def rowTo (cs : List (Int × Int)) (k : Nat) : RowS := ((keysOf cs).take k).foldl (stepR cs) (0, 0, [])
def rowS (cs : List (Int × Int)) : List SpanT := (rowTo cs (keysOf cs).length).2.2
theorem rowTo_succ {cs : List (Int × Int)} {k : Nat} (h : k < (keysOf cs).length) : rowTo cs (k + 1) = stepR cs (rowTo cs k) ((keysOf cs).getD k 0) := by
  unfold rowTo
  rw [List.take_add_one, List.getElem?_eq_getElem h, List.foldl_append, List.getD_eq_getElem?_getD, List.getElem?_eq_getElem h]
  rfl
theorem inc_lt {l : List Int} (h : Inc l) {i j : Nat} (hij : i < j) (hj : j < l.length) : l.getD i 0 < l.getD j 0 := by
  have := List.pairwise_iff_getElem.1 h i j (by omega) hj hij
  rwa [List.getD_eq_getElem?_getD, List.getD_eq_getElem?_getD, List.getElem?_eq_getElem hj, List.getElem?_eq_getElem (show i < l.length by omega)]
theorem sum_pick : ∀ (l : List Int) (c : Int × Int), Inc l → sumF (fun y => if c.1 = y then c.2 else 0) l = if c.1 ∈ l then c.2 else 0
  | [], c, _ => by simp [sumF]
  | y :: r, c, h => by
    have hy := List.pairwise_cons.1 h
    simp only [sumF]
    rw [sum_pick r c hy.2]
    by_cases e : c.1 = y
    · have hn : c.1 ∉ r := fun hm => by have := hy.1 _ hm; omega
      rw [if_pos e, if_neg hn, if_pos (by rw [e]; exact List.mem_cons_self), Int.add_zero]
    · rw [if_neg e, Int.zero_add]
      by_cases hm : c.1 ∈ r
      · rw [if_pos hm, if_pos (List.mem_cons_of_mem _ hm)]
      · rw [if_neg hm, if_neg (fun h => by rcases List.mem_cons.1 h with h | h; exact e h; exact hm h)]
theorem inc_take {l : List Int} (h : Inc l) (k : Nat) : Inc (l.take k) := List.Pairwise.sublist (List.take_sublist k l) h
theorem mem_take_iff {l : List Int} (h : Inc l) {k : Nat} (hk : k < l.length) {x : Int} (hx : x ∈ l) : x ∈ l.take (k + 1) ↔ x ≤ l.getD k 0 := by
  obtain ⟨j, hj, rfl⟩ := List.getElem_of_mem hx
  have ej : l[j] = l.getD j 0 := by rw [List.getD_eq_getElem?_getD, List.getElem?_eq_getElem hj]; rfl
  constructor
  · intro hm
    obtain ⟨i, hi, e⟩ := List.getElem_of_mem hm
    rw [List.getElem_take] at e
    have hi' : i ≤ k := by simp at hi; omega
    rw [← e]
    have ei : l[i]'(by omega) = l.getD i 0 := by rw [List.getD_eq_getElem?_getD, List.getElem?_eq_getElem (show i < l.length by omega)]; rfl
    rw [ei]
    rcases Nat.lt_or_eq_of_le hi' with h' | h'
    · exact Int.le_of_lt (inc_lt h h' hk)
    · rw [h']; exact Int.le_refl _
  · intro hle
    have hjk : j ≤ k := by
      rcases Nat.lt_or_ge k j with h' | h'
      · have := inc_lt h h' hj; rw [ej] at hle; omega
      · exact h'
    have h1 : j < (l.take (k + 1)).length := by rw [List.length_take]; omega
    have := List.getElem_mem h1
    rwa [List.getElem_take] at this
/-- the winding behind the k-th place -/
theorem rowTo_w (cs : List (Int × Int)) : ∀ k, k ≤ (keysOf cs).length → (rowTo cs k).1 = sumF (fun y => sumAt cs y) ((keysOf cs).take k)
  | 0, _ => rfl
  | k + 1, h => by
    rw [rowTo_succ (by omega)]
    show (rowTo cs k).1 + sumAt cs _ = _
    rw [rowTo_w cs k (by omega), List.take_add_one, List.getElem?_eq_getElem (show k < _ by omega), sumF_append, List.getD_eq_getElem?_getD, List.getElem?_eq_getElem (show k < _ by omega)]
    simp [sumF]
theorem sum_keys (cs : List (Int × Int)) {l : List Int} (hl : Inc l) : sumF (fun y => sumAt cs y) l = sumF (fun c => if c.1 ∈ l then c.2 else 0) cs := by
  unfold sumAt
  rw [sumF_swap (fun (y : Int) (c : Int × Int) => if c.1 = y then c.2 else 0)]
  exact sumF_congr cs fun c _ => sum_pick l c hl
theorem rowTo_sumTo {cs : List (Int × Int)} {k : Nat} (h : k < (keysOf cs).length) : (rowTo cs (k + 1)).1 = sumTo cs ((keysOf cs).getD k 0) := by
  rw [rowTo_w cs (k + 1) (by omega), sum_keys cs (inc_take (keysOf_inc cs) _)]
  refine sumF_congr cs fun c hc => ?_
  have hm : c.1 ∈ keysOf cs := keysOf_mem.2 ⟨c, hc, rfl⟩
  have := mem_take_iff (keysOf_inc cs) h hm
  by_cases hle : c.1 ≤ (keysOf cs).getD k 0
  · rw [if_pos hle, if_pos (this.2 hle)]
  · rw [if_neg hle, if_neg (fun h' => hle (this.1 h'))]
theorem rowTo_end (cs : List (Int × Int)) : (rowTo cs (keysOf cs).length).1 = sumF (fun c => c.2) cs := by
  rw [rowTo_w cs _ (Nat.le_refl _), List.take_length, sum_keys cs (keysOf_inc cs)]
  exact sumF_congr cs fun c hc => if_pos (keysOf_mem.2 ⟨c, hc, rfl⟩)
/-- what stands behind the k-th place -/
structure RowQ (cs : List (Int × Int)) (k : Nat) : Prop where
  rise : (rowTo cs k).2.2.Pairwise (fun s t => s.to < t.fr)
  pos : ∀ s ∈ (rowTo cs k).2.2, s.fr < s.to
  from_ : ∀ s ∈ (rowTo cs k).2.2, s.fr ∈ keysOf cs ∧ s.to ∈ keysOf cs
  below : ∀ s ∈ (rowTo cs k).2.2, ∃ j, j < k ∧ s.to = (keysOf cs).getD j 0
  open_ : (rowTo cs k).1 ≠ 0 → ∃ j, j < k ∧ (rowTo cs k).2.1 = (keysOf cs).getD j 0 ∧ ∀ s ∈ (rowTo cs k).2.2, s.to < (rowTo cs k).2.1
theorem getD_mem {l : List Int} {i : Nat} (h : i < l.length) : l.getD i 0 ∈ l := by
  rw [List.getD_eq_getElem?_getD, List.getElem?_eq_getElem h]; exact List.getElem_mem h
theorem rowQ (cs : List (Int × Int)) : ∀ k, k ≤ (keysOf cs).length → RowQ cs k
  | 0, _ => ⟨List.Pairwise.nil, fun s h => by simp [rowTo] at h, fun s h => by simp [rowTo] at h, fun s h => by simp [rowTo] at h, fun h => by simp [rowTo] at h⟩
  | k + 1, h => by
    have ih := rowQ cs k (by omega)
    have hk : k < (keysOf cs).length := by omega
    have hinc := keysOf_inc cs
    have e := rowTo_succ hk
    by_cases h0 : (rowTo cs k).1 = 0
    · have e2 : (rowTo cs (k + 1)).2.2 = (rowTo cs k).2.2 := by rw [e, stepR0 h0]
      have e1 : (rowTo cs (k + 1)).2.1 = (keysOf cs).getD k 0 := by rw [e, stepR0 h0]
      refine ⟨by rw [e2]; exact ih.rise, by rw [e2]; exact ih.pos, by rw [e2]; exact ih.from_, ?_, fun _ => ⟨k, by omega, e1, ?_⟩⟩
      · rw [e2]; intro s hs; obtain ⟨j, hj, he⟩ := ih.below s hs; exact ⟨j, by omega, he⟩
      · rw [e2, e1]; intro s hs; obtain ⟨j, hj, he⟩ := ih.below s hs; rw [he]; exact inc_lt hinc hj hk
    · obtain ⟨j, hj, hfr, hlt⟩ := ih.open_ h0
      have e1 : (rowTo cs (k + 1)).2.1 = (rowTo cs k).2.1 := by rw [e, stepR_from h0]
      by_cases h1 : (rowTo cs k).1 + sumAt cs ((keysOf cs).getD k 0) = 0
      · have e2 : (rowTo cs (k + 1)).2.2 = (rowTo cs k).2.2 ++ [⟨(rowTo cs k).2.1, (keysOf cs).getD k 0⟩] := by rw [e, stepR1 h0 h1]
        have e0 : (rowTo cs (k + 1)).1 = 0 := by rw [e]; exact h1
        have hjk := inc_lt hinc hj hk
        refine ⟨?_, ?_, ?_, ?_, fun hne => absurd e0 hne⟩
        · rw [e2]
          refine List.pairwise_append.2 ⟨ih.rise, List.pairwise_singleton _ _, fun s hs t ht => ?_⟩
          rw [List.mem_singleton.1 ht]; exact hlt s hs
        · rw [e2]; intro s hs
          rcases List.mem_append.1 hs with hs | hs
          · exact ih.pos s hs
          · rw [List.mem_singleton.1 hs]; dsimp only; rw [hfr]; exact hjk
        · rw [e2]; intro s hs
          rcases List.mem_append.1 hs with hs | hs
          · exact ih.from_ s hs
          · rw [List.mem_singleton.1 hs]; dsimp only; rw [hfr]; exact ⟨getD_mem (by omega), getD_mem hk⟩
        · rw [e2]; intro s hs
          rcases List.mem_append.1 hs with hs | hs
          · obtain ⟨j', hj', he⟩ := ih.below s hs; exact ⟨j', by omega, he⟩
          · rw [List.mem_singleton.1 hs]; exact ⟨k, by omega, rfl⟩
      · have e2 : (rowTo cs (k + 1)).2.2 = (rowTo cs k).2.2 := by rw [e, stepR2 h0 h1]
        refine ⟨by rw [e2]; exact ih.rise, by rw [e2]; exact ih.pos, by rw [e2]; exact ih.from_, ?_, fun _ => ⟨j, by omega, by rw [e1, hfr], by rw [e1, e2]; exact hlt⟩⟩
        rw [e2]; intro s hs; obtain ⟨j', hj', he⟩ := ih.below s hs; exact ⟨j', by omega, he⟩
/-! #### the document's spans -/
def docStep (cs : List (Int × Int)) (out : List SpanT) (i : Nat) : List SpanT :=
  if sumTo cs ((keysOf cs).getD i 0) = 0 then out
  else match out.getLast? with
    | some s => if s.to = (keysOf cs).getD i 0 then out.dropLast ++ [⟨s.fr, (keysOf cs).getD (i + 1) 0⟩] else out ++ [⟨(keysOf cs).getD i 0, (keysOf cs).getD (i + 1) 0⟩]
    | none => out ++ [⟨(keysOf cs).getD i 0, (keysOf cs).getD (i + 1) 0⟩]
def docTo (cs : List (Int × Int)) (k : Nat) : List SpanT := (List.range k).foldl (docStep cs) []
theorem docTo_succ (cs : List (Int × Int)) (k : Nat) : docTo cs (k + 1) = docStep cs (docTo cs k) k := by
  unfold docTo; rw [List.range_succ, List.foldl_append]; rfl
theorem docTo_ok (cs : List (Int × Int)) : ∀ k, k + 1 ≤ (keysOf cs).length → docTo cs k = (rowTo cs k).2.2 ++ (if (rowTo cs k).1 = 0 then [] else [⟨(rowTo cs k).2.1, (keysOf cs).getD k 0⟩])
  | 0, _ => by simp [docTo, rowTo]
  | k + 1, h => by
    have ih := docTo_ok cs k (by omega)
    have hk : k < (keysOf cs).length := by omega
    have hinc := keysOf_inc cs
    have e := rowTo_succ hk
    have hq := rowQ cs k (by omega)
    have hw := rowTo_sumTo hk
    rw [docTo_succ, docStep, ih]
    have hlast : ∀ s, (rowTo cs k).2.2.getLast? = some s → s.to ≠ (keysOf cs).getD k 0 := fun s hs he => by
      obtain ⟨j, hj, h'⟩ := hq.below s (List.mem_of_getLast? hs)
      have := inc_lt hinc hj hk
      rw [← h', he] at this; omega
    by_cases h0 : (rowTo cs k).1 = 0
    · rw [if_pos h0, List.append_nil]
      have e2 : (rowTo cs (k + 1)).2.2 = (rowTo cs k).2.2 := by rw [e, stepR0 h0]
      have e1 : (rowTo cs (k + 1)).2.1 = (keysOf cs).getD k 0 := by rw [e, stepR0 h0]
      rw [e2, e1, ← hw]
      by_cases h1 : (rowTo cs (k + 1)).1 = 0
      · rw [if_pos h1, if_pos h1, List.append_nil]
      · rw [if_neg h1, if_neg h1]
        cases hl : (rowTo cs k).2.2.getLast? with
        | none => rfl
        | some s => simp only [if_neg (hlast s hl)]
    · rw [if_neg h0]
      have e1 : (rowTo cs (k + 1)).2.1 = (rowTo cs k).2.1 := by rw [e, stepR_from h0]
      have hws : (rowTo cs (k + 1)).1 = (rowTo cs k).1 + sumAt cs ((keysOf cs).getD k 0) := by rw [e]; rfl
      rw [e1, ← hw]
      by_cases h1 : (rowTo cs (k + 1)).1 = 0
      · have e2 : (rowTo cs (k + 1)).2.2 = (rowTo cs k).2.2 ++ [⟨(rowTo cs k).2.1, (keysOf cs).getD k 0⟩] := by rw [e, stepR1 h0 (hws ▸ h1)]
        rw [if_pos h1, if_pos h1, e2, List.append_nil]
      · have e2 : (rowTo cs (k + 1)).2.2 = (rowTo cs k).2.2 := by rw [e, stepR2 h0 (hws ▸ h1)]
        rw [if_neg h1, if_neg h1, e2]
        simp
def docRow (cs : List (Int × Int)) : List SpanT := docTo cs ((keysOf cs).length - 1)
/-- where the windings come to nothing, both are alike -/
theorem docRow_eq {cs : List (Int × Int)} (h : sumF (fun c => c.2) cs = 0) : docRow cs = rowS cs := by
  unfold docRow rowS
  rcases Nat.eq_zero_or_pos (keysOf cs).length with h0 | h0
  · rw [h0]; rfl
  · obtain ⟨k, hk⟩ : ∃ k, (keysOf cs).length = k + 1 := ⟨_, (Nat.succ_pred_eq_of_pos h0).symm⟩
    rw [hk, Nat.add_sub_cancel, docTo_ok cs k (by omega)]
    have hend := rowTo_end cs
    rw [hk, h] at hend
    have hw : (rowTo cs (k + 1)).1 = (rowTo cs k).1 + sumAt cs ((keysOf cs).getD k 0) := by rw [rowTo_succ (by omega)]; rfl
    have hz : (rowTo cs k).1 + sumAt cs ((keysOf cs).getD k 0) = 0 := by rw [← hw]; exact hend
    rw [rowTo_succ (show k < _ by omega)]
    by_cases h1 : (rowTo cs k).1 = 0
    · rw [stepR0 h1, if_pos h1, List.append_nil]
    · rw [stepR1 h1 hz, if_neg h1]

/-! #### spans by their places alone; shifted; cut -/
theorem keysOf_congr {cs cs' : List (Int × Int)} (h : ∀ x, (∃ c ∈ cs, c.1 = x) ↔ ∃ c ∈ cs', c.1 = x) : keysOf cs = keysOf cs' :=
  inc_unique _ _ (keysOf_inc cs) (keysOf_inc cs') fun x => by rw [keysOf_mem, keysOf_mem]; exact h x
theorem rowS_congr {cs cs' : List (Int × Int)} (hk : keysOf cs = keysOf cs') (hs : ∀ x, sumAt cs x = sumAt cs' x) : rowS cs = rowS cs' := by
  have e : stepR cs = stepR cs' := by funext s x; simp only [stepR, hs]
  unfold rowS rowTo
  rw [hk, e]
theorem sumAt_perm {cs cs' : List (Int × Int)} (h : cs.Perm cs') (x : Int) : sumAt cs x = sumAt cs' x := sumF_perm h
theorem rowS_perm {cs cs' : List (Int × Int)} (h : cs.Perm cs') : rowS cs = rowS cs' :=
  rowS_congr (keysOf_congr fun x => ⟨fun ⟨c, h1, h2⟩ => ⟨c, h.mem_iff.1 h1, h2⟩, fun ⟨c, h1, h2⟩ => ⟨c, h.mem_iff.2 h1, h2⟩⟩) (sumAt_perm h)
/-- shifted -/
def shS (d : Int) (s : SpanT) : SpanT := ⟨s.fr + d, s.to + d⟩
def shC (d : Int) (c : Int × Int) : Int × Int := (c.1 + d, c.2)
theorem insU_sh (d x : Int) : ∀ l : List Int, insU (x + d) (l.map (· + d)) = (insU x l).map (· + d)
  | [] => rfl
  | y :: r => by
    simp only [List.map_cons, insU]
    by_cases h : y < x
    · rw [if_pos h, if_pos (by omega), insU_sh d x r]; rfl
    · rw [if_neg h, if_neg (by omega)]
      by_cases h2 : y = x
      · rw [if_pos h2, if_pos (by omega)]; rfl
      · rw [if_neg h2, if_neg (by omega)]; rfl
theorem keysOf_sh (d : Int) : ∀ (n : Nat) (cs : List (Int × Int)), cs.length = n → keysOf (cs.map (shC d)) = (keysOf cs).map (· + d)
  | 0, cs, h => by
    obtain rfl : cs = [] := List.length_eq_zero_iff.1 h
    rfl
  | n + 1, cs, h => by
    have hne : cs ≠ [] := by intro e; subst e; simp at h
    have e := List.dropLast_concat_getLast hne
    obtain ⟨l0, c, rfl⟩ : ∃ l0 c, cs = l0 ++ [c] := ⟨_, _, e.symm⟩
    rw [List.map_append, List.map_cons, List.map_nil, keysOf_snoc, keysOf_snoc, keysOf_sh d n l0 (by simpa using h), shC, insU_sh]
theorem sumAt_sh (d x : Int) (cs : List (Int × Int)) : sumAt (cs.map (shC d)) (x + d) = sumAt cs x := by
  unfold sumAt
  rw [sumF_map]
  refine sumF_congr cs fun c _ => ?_
  by_cases h : c.1 = x
  · rw [if_pos h, if_pos (by simp only [shC]; omega)]; rfl
  · rw [if_neg h, if_neg (by simp only [shC]; omega)]
theorem rowTo_sh (d : Int) (cs : List (Int × Int)) : ∀ k, k ≤ (keysOf cs).length → (rowTo (cs.map (shC d)) k).1 = (rowTo cs k).1 ∧ ((rowTo cs k).1 ≠ 0 → (rowTo (cs.map (shC d)) k).2.1 = (rowTo cs k).2.1 + d) ∧ (rowTo (cs.map (shC d)) k).2.2 = (rowTo cs k).2.2.map (shS d)
  | 0, _ => ⟨rfl, fun h => absurd rfl h, rfl⟩
  | k + 1, h => by
    obtain ⟨h1, h2, h3⟩ := rowTo_sh d cs k (by omega)
    have hk := keysOf_sh d _ cs rfl
    have hlt : k < (keysOf cs).length := by omega
    have e := rowTo_succ hlt
    have e' := rowTo_succ (cs := cs.map (shC d)) (k := k) (by rw [hk]; simpa using hlt)
    have hg : (keysOf (cs.map (shC d))).getD k 0 = (keysOf cs).getD k 0 + d := by
      rw [hk, List.getD_eq_getElem?_getD, List.getD_eq_getElem?_getD, List.getElem?_map, List.getElem?_eq_getElem hlt]; rfl
    rw [hg] at e'
    rw [e, e']
    have hsa := sumAt_sh d ((keysOf cs).getD k 0) cs
    by_cases h0 : (rowTo cs k).1 = 0
    · rw [stepR0 h0, stepR0 (h1.trans h0)]
      exact ⟨by dsimp only; rw [h1, hsa], fun _ => rfl, h3⟩
    · have h2' := h2 h0
      have h0' : ¬ (rowTo (cs.map (shC d)) k).1 = 0 := by rw [h1]; exact h0
      by_cases hz : (rowTo cs k).1 + sumAt cs ((keysOf cs).getD k 0) = 0
      · rw [stepR1 h0 hz, stepR1 h0' (by rw [h1, hsa]; exact hz)]
        exact ⟨by dsimp only; rw [h1, hsa], fun _ => h2', by dsimp only; rw [h2', h3, List.map_append]; rfl⟩
      · rw [stepR2 h0 hz, stepR2 h0' (by rw [h1, hsa]; exact hz)]
        exact ⟨by dsimp only; rw [h1, hsa], fun _ => h2', h3⟩
theorem rowS_sh (d : Int) (cs : List (Int × Int)) : rowS (cs.map (shC d)) = (rowS cs).map (shS d) := by
  unfold rowS
  rw [keysOf_sh d _ cs rfl, List.length_map]
  exact (rowTo_sh d cs _ (Nat.le_refl _)).2.2
/-- cut -/
def clipS (lo hi : Int) (s : SpanT) : SpanT := ⟨if s.fr < lo then lo else s.fr, if hi < s.to then hi else s.to⟩
def clipT (lo hi : Int) (l : List SpanT) : List SpanT := (l.map (clipS lo hi)).filter fun s => decide (s.fr < s.to)
def sumS (l : List SpanT) : Int := sumF (fun s => s.to - s.fr) l
def hasS (l : List SpanT) (x : Int) : Bool := l.any fun s => decide (s.fr ≤ x) && decide (x < s.to)
theorem clipT_cons (lo hi : Int) (s : SpanT) (l : List SpanT) : clipT lo hi (s :: l) = (if (clipS lo hi s).fr < (clipS lo hi s).to then [clipS lo hi s] else []) ++ clipT lo hi l := by
  unfold clipT
  by_cases h : (clipS lo hi s).fr < (clipS lo hi s).to
  · rw [List.map_cons, List.filter_cons_of_pos (by simpa using h), if_pos h]; rfl
  · rw [List.map_cons, List.filter_cons_of_neg (by simpa using h), if_neg h]; rfl
theorem clipT_snoc (lo hi : Int) (s : SpanT) (l : List SpanT) : clipT lo hi (l ++ [s]) = clipT lo hi l ++ (if (clipS lo hi s).fr < (clipS lo hi s).to then [clipS lo hi s] else []) := by
  unfold clipT
  rw [List.map_append, List.filter_append]
  congr 1
  by_cases h : (clipS lo hi s).fr < (clipS lo hi s).to
  · rw [List.map_cons, List.filter_cons_of_pos (by simpa using h), if_pos h]; rfl
  · rw [List.map_cons, List.filter_cons_of_neg (by simpa using h), if_neg h]; rfl
theorem clipT_len (lo hi : Int) (l : List SpanT) : (clipT lo hi l).length ≤ l.length := Nat.le_trans (List.length_filter_le _ _) (by rw [List.length_map]; exact Nat.le_refl _)
theorem clipT_bound {lo hi : Int} {l : List SpanT} {s : SpanT} (h : s ∈ clipT lo hi l) : lo ≤ s.fr ∧ s.fr < s.to ∧ s.to ≤ hi ∧ ∃ t ∈ l, t.fr ≤ s.fr ∧ s.to ≤ t.to := by
  have h1 := List.mem_filter.1 h
  obtain ⟨t, ht, rfl⟩ := List.mem_map.1 h1.1
  have h2 : (clipS lo hi t).fr < (clipS lo hi t).to := by simpa using h1.2
  refine ⟨?_, h2, ?_, t, ht, ?_, ?_⟩
  · show lo ≤ if t.fr < lo then lo else t.fr; split <;> omega
  · show (if hi < t.to then hi else t.to) ≤ hi; split <;> omega
  · show t.fr ≤ if t.fr < lo then lo else t.fr; split <;> omega
  · show (if hi < t.to then hi else t.to) ≤ t.to; split <;> omega
theorem hasS_clip (lo hi x : Int) : ∀ l : List SpanT, hasS (clipT lo hi l) x = (hasS l x && (decide (lo ≤ x) && decide (x < hi)))
  | [] => rfl
  | s :: l => by
    have ih := hasS_clip lo hi x l
    have key : (if (clipS lo hi s).fr < (clipS lo hi s).to then [clipS lo hi s] else []).any (fun s => decide (s.fr ≤ x) && decide (x < s.to)) = ((decide (s.fr ≤ x) && decide (x < s.to)) && (decide (lo ≤ x) && decide (x < hi))) := by
      rw [Bool.eq_iff_iff]
      split
      · simp only [List.any_cons, List.any_nil, Bool.or_false, Bool.and_eq_true, decide_eq_true_eq, clipS]
        split <;> split <;> omega
      · rename_i hn
        simp only [List.any_nil, Bool.false_eq_true, Bool.and_eq_true, decide_eq_true_eq, false_iff]
        simp only [clipS] at hn
        split at hn <;> split at hn <;> omega
    rw [clipT_cons]
    unfold hasS at ih ⊢
    rw [List.any_append, key, ih, List.any_cons]
    cases h1 : (decide (s.fr ≤ x) && decide (x < s.to)) <;> cases h2 : (decide (lo ≤ x) && decide (x < hi)) <;> simp
theorem sumS_cons (s : SpanT) (l : List SpanT) : sumS (s :: l) = (s.to - s.fr) + sumS l := rfl
theorem sumS_append (l k : List SpanT) : sumS (l ++ k) = sumS l + sumS k := sumF_append _ l k
def lenC (lo hi : Int) (s : SpanT) : Int := if (clipS lo hi s).fr < (clipS lo hi s).to then (clipS lo hi s).to - (clipS lo hi s).fr else 0
theorem sumS_clip (lo hi : Int) : ∀ l : List SpanT, sumS (clipT lo hi l) = sumF (lenC lo hi) l
  | [] => rfl
  | s :: l => by
    rw [clipT_cons, sumS_append, sumS_clip lo hi l]
    simp only [sumF]
    congr 1
    unfold lenC
    split
    · simp [sumS, sumF]
    · rfl
theorem lenC_split {lo at_ hi : Int} {s : SpanT} (h1 : lo ≤ s.fr) (h2 : s.fr ≤ s.to) (h3 : s.to ≤ hi) : lenC lo at_ s + lenC at_ hi s = s.to - s.fr := by
  simp only [lenC, clipS]
  (repeat' split) <;> omega
theorem sumS_split {lo at_ hi : Int} {l : List SpanT} (h : ∀ s ∈ l, lo ≤ s.fr ∧ s.fr ≤ s.to ∧ s.to ≤ hi) : sumS (clipT lo at_ l) + sumS (clipT at_ hi l) = sumS l := by
  rw [sumS_clip, sumS_clip, ← sumF_add]
  exact sumF_congr l fun s hs => lenC_split (h s hs).1 (h s hs).2.1 (h s hs).2.2
theorem sumS_bound {B : Int} : ∀ l : List SpanT, (∀ s ∈ l, 0 ≤ s.to - s.fr ∧ s.to - s.fr ≤ B) → 0 ≤ sumS l ∧ sumS l ≤ B * l.length
  | [], _ => by simp [sumS, sumF]
  | s :: l, h => by
    have h1 := h s List.mem_cons_self
    have h2 := sumS_bound l fun t ht => h t (List.mem_cons_of_mem _ ht)
    rw [sumS_cons, List.length_cons]
    have : B * ((l.length + 1 : Nat) : Int) = B * l.length + B := by push_cast; rw [Int.mul_add, Int.mul_one]
    omega

shelf_lay_g SlLaysZI.n7 Ggz 7 at Try 62 as keysA
shelf_lay_g SlLaysZI.n6 Ggz 6 at Try 61 as sortedA
shelf_lay_g SlLaysM.n5 Slgm 5 at Try 74 as sortA
theorem zero_int (w : World) : (zeroValue 3).run Try.prog w = .ok (.int .i64 0) w := by
  obtain ⟨i, hi, hz, _⟩ := (inferInstance : TElem Try.prog 3 (.int .i64 0) 1 8).h
  simp [zeroValue, typeInfo, hi, hz]
theorem sortsA (m : Nat) : AnyZI.SortsIn Try.prog sortedA_ren Fence.wide m :=
  ⟨fun blk off cap ss W hH hblk hsz => callsIn_wide.2 (AnyM.slices_Sort_int sortA blk off cap ss W hH hblk hsz),
   fun p cap W => callsIn_wide.2 (AnyM.slices_Sort_int_none sortA p cap W)⟩
/-- block b is a map that holds the crossings' tally -/
def TallyAt (w : World) (b n : Nat) (cs : List (Int × Int)) : Prop := ∃ D : DataW Bool, w.ownsMap Try.prog 3 (plainElem Try.prog 3) b n D ∧ Go.Maps.IsMap D ∧ (∀ x, D.atKey (.int .i64 x) (.lit (.int .i64 0)) = .lit (.int .i64 (sumAt cs x))) ∧ (∀ x, Go.Maps.has D (.int .i64 x) = cs.any fun c => decide (c.1 = x))
theorem tally_lt {w : World} {b n : Nat} {cs : List (Int × Int)} (h : TallyAt w b n cs) : b < w.heap.size := h.choose_spec.1.lt
theorem tally_st {b n : Nat} {cs : List (Int × Int)} {w1 w2 : World} (h : TallyAt w1 b n cs) (e : w2.heap[b]? = w1.heap[b]?) : TallyAt w2 b n cs := by
  obtain ⟨D, ⟨es, clock, hb, F, hs, hD⟩, h2⟩ := h
  exact ⟨D, ⟨es, clock, e.trans hb, F, hs, hD⟩, h2⟩
theorem tally_new (w : World) : TallyAt (w.alloc (.map #[] 0)) w.heap.size 0 [] :=
  ⟨.map [], World.ownsMap_made w _ _ _, ⟨[], rfl⟩, fun x => rfl, fun x => rfl⟩
theorem tally_look {w : World} {b n : Nat} {cs : List (Int × Int)} (h : TallyAt w b n cs) {x : Int} (hx : (Lit.int .i64 x).wf = true) : (Instr.lookup 101 (.map (some b)) (.int .i64 x) false).run Try.prog w = .ok (.int .i64 (sumAt cs x)) w := by
  obtain ⟨D, h1, _, h3, _⟩ := h
  obtain ⟨c, h4, h5, _⟩ := h1.lookup_int (Go.Maps.int_keyed Try.underlying3) Try.underlying101 Try.underlying3 (zero_int w) (Go.Maps.keyOf_int_mk Try.underlying3 hx)
  rw [h3] at h5
  simp only [DataW.lit.injEq, Lit.int.injEq, true_and] at h5
  rw [h4, h5]
theorem sumAt_snoc (cs : List (Int × Int)) (x d y : Int) : sumAt (cs ++ [(x, d)]) y = sumAt cs y + if x = y then d else 0 := by
  unfold sumAt; rw [sumF_append]; simp [sumF]
theorem tally_set {w : World} {b n : Nat} {cs : List (Int × Int)} (h : TallyAt w b n cs) {x d : Int} (hx : (Lit.int .i64 x).wf = true) (hd : (Lit.int .i64 (sumAt cs x + d)).wf = true) (hn : n < maxLen) :
    ∃ w', (Instr.mapUpdate 101 (.map (some b)) (.int .i64 x) (.int .i64 (sumAt cs x + d))).run Try.prog w = .ok () w' ∧ Chg (fun z => z = b) w w' ∧ TallyAt w' b (n + 1) (cs ++ [(x, d)]) := by
  obtain ⟨D, h1, h2, h3, h4⟩ := h
  obtain ⟨w', h5, h6, h7⟩ := h1.update (Go.Maps.int_keyed Try.underlying3) Try.underlying101 hn (Go.Maps.keyOf_int_mk Try.underlying3 hx) (plainElem_int Try.underlying3 hd)
  have hk : WideAt.IsKeyLit (.int .i64 x) := trivial
  refine ⟨w', h5, (Chg.grown h7).mono (fun k _ hk => by cases hk; rfl), D.put (.int .i64 x) (.lit (.int .i64 (sumAt cs x + d))), h6, h2.put _ _, fun y => ?_, fun y => ?_⟩
  · rw [sumAt_snoc]
    by_cases e : x = y
    · subst e; rw [Go.Maps.atKey_put_same h2 hk, if_pos rfl]
    · rw [Go.Maps.atKey_put_other (fun h => e (by cases h; rfl)), h3, if_neg e, Int.add_zero]
  · rw [List.any_append]
    by_cases e : x = y
    · subst e; rw [Go.Maps.has_put_same h2 hk]; simp
    · rw [Go.Maps.has_put_other (fun h => e (by cases h; rfl)), h4]; simp [e]
theorem wf_of {a : Int} (h : -9223372036854775808 ≤ a ∧ a < 9223372036854775808) : (Lit.int .i64 a).wf = true := by
  simp only [Lit.wf, Bool.and_eq_true, decide_eq_true_eq]
  have e1 : IntKind.i64.min = -9223372036854775808 := by decide
  have e2 : IntKind.i64.max = 9223372036854775807 := by decide
  omega
theorem a_Tally (w : World) (b n : Nat) (cs : List (Int × Int)) (x d : Int) (hx : -1099511627776 ≤ x ∧ x ≤ 1099511627776) (hd : -1 ≤ d ∧ d ≤ 1) (hb : -1099511627776 ≤ sumAt cs x ∧ sumAt cs x ≤ 1099511627776) (hn : n < maxLen) (h : TallyAt w b n cs) :
    Calls Try.prog 58 #[.map (some b), .int .i64 x, .int .i64 d] w fun e w' => (∃ y, e = .returned y) ∧ Chg (fun z => z = b) w w' ∧ TallyAt w' b (n + 1) (cs ++ [(x, d)]) := by
  have hwx : (Lit.int .i64 x).wf = true := wf_of (by omega)
  have hws : (Lit.int .i64 (sumAt cs x + d)).wf = true := wf_of (by omega)
  have hlt := tally_lt h
  refine calls_turn (args := [.map (some b), .int .i64 x, .int .i64 d]) b (fun w => TallyAt w b n cs) (fun w => TallyAt w b (n + 1) (cs ++ [(x, d)])) Try.func58 rfl Try.ntmps58 Try.results58 rfl h (fun _ _ h e => tally_st h e) hlt ?_
  refine v_region ?_
  refine l_val rfl (o_move rfl) ?_
  refine l_val rfl (o_move rfl) ?_
  refine l_val rfl (o_lookup (b := b) rfl rfl (fun w' hg => tally_look hg.2 hwx)) ?_
  refine l_val rfl (o_move rfl) ?_
  refine l_val rfl (o_addi rfl rfl ?_) ?_
  · omega
  refine l_mapSet (b := b) (S := fun z => z = b) (g' := fun w' => Chg (fun z => z = b) w w' ∧ TallyAt w' b (n + 1) (cs ++ [(x, d)])) rfl rfl rfl rfl (fun z hz => by subst hz; exact ⟨hlt, .inr ⟨rfl, fun h => h⟩⟩) (fun w1 w2 hc h1 => ⟨h1.1.trans (hc.mono fun k _ hk => .inr (by omega)), tally_st h1.2 (hc.block b (Nat.lt_of_lt_of_le hlt h1.1.size) fun hn => hn hlt)⟩) (fun w1 h1 => by obtain ⟨w2, e1, e2, e3⟩ := tally_set h1.2 hwx hws hn; exact ⟨w2, e1, e2, h1.1.trans (e2.mono fun k _ hk => .inl hk), e3⟩) ?_
  refine l_nil ?_
  refine ⟨[], ResAll.nil, ?_⟩
  exact fun w' h => h.2
theorem keys_perm {D : DataW Bool} {cs : List (Int × Int)} {w : World} {b n : Nat} (h1 : w.ownsMap Try.prog 3 (plainElem Try.prog 3) b n D) (h4 : ∀ x, Go.Maps.has D (.int .i64 x) = cs.any fun c => decide (c.1 = x)) : (keysOf cs).Perm (intKeys D) := by
  obtain ⟨es, hD, hpw, _⟩ := h1.entries (Go.Maps.int_keyed Try.underlying3)
  obtain ⟨es', hD', hko⟩ := h1.keysOf
  obtain rfl : es = es' := by rw [hD] at hD'; simpa using hD'
  subst hD
  refine perm_intKeys hpw (fun p hp => by obtain ⟨v, hv⟩ := hko p hp; obtain ⟨x, _, hx, _⟩ := Go.Maps.keyOf_i64 Try.underlying3 hv; exact ⟨x, hx⟩) ?_ fun x => ?_
  · exact (keysOf_inc cs).imp fun h => Int.ne_of_lt h
  · rw [h4 x, List.any_eq_true, keysOf_mem]
    exact ⟨fun ⟨c, h1, h2⟩ => ⟨c, h1, by simpa using h2⟩, fun ⟨c, h1, h2⟩ => ⟨c, h1, by simpa using h2⟩⟩
theorem keys_sorted {l ss : List Int} (hl : Inc l) (hp : ss.Perm l) : ss.mergeSort (fun x y => decide (x ≤ y)) = l := by
  refine List.Perm.eq_of_pairwise (le := fun a b => a ≤ b) (fun a b _ _ h1 h2 => Int.le_antisymm h1 h2) ?_ (hl.imp fun h => Int.le_of_lt h) ((List.mergeSort_perm ss _).trans hp)
  refine (List.pairwise_mergeSort (le := fun x y => decide (x ≤ y)) (fun a b c h1 h2 => ?_) (fun a b => ?_) ss).imp fun h => by simpa using h
  · simp only [decide_eq_true_eq] at *; exact Int.le_trans h1 h2
  · simp only [Bool.or_eq_true, decide_eq_true_eq]; exact Int.le_total a b
theorem maps_size {D : DataW Bool} (h : Go.Maps.IsMap D) : Go.Maps.size D = (intKeys D).length := by
  obtain ⟨es, rfl⟩ := h
  simp [Go.Maps.size, intKeys]
theorem a_SortedK (w : World) (bx bm n : Nat) (cs : List (Int × Int)) (hl : cs.length ≤ 1000000) (hx : Blk w bx #[.map (some bm)] 101) (hT : TallyAt w bm n cs) :
    Calls Try.prog 61 #[.func (.func 75) #[] #[.pointer (some ⟨bx, 0, none⟩)]] w fun e w' => ∃ y, e = .returned y ∧ Below w.heap.size w w' ∧ OwnAt w.heap.size w' y 3 1 (keysOf cs).length ((keysOf cs).map (Value.int .i64)) := by
  obtain ⟨D, h1, h2, h3, h4⟩ := hT
  have hp := keys_perm h1 h4
  have hsz : Go.Maps.size D ≤ 1000000 := by
    rw [maps_size h2, ← hp.length_eq]; exact Nat.le_trans (keysOf_len cs) hl
  have hseq : SeqGives Fence.wide 2 Try.prog 75 #[.pointer (some ⟨bx, 0, none⟩)] encZ (fun ss => ss.Perm (intKeys D)) (Go.Maps.size D) w :=
    AnyZI.keys_gives (ρ := keysA_ren) { keysA with } Fence.wide _ trivial rfl (by omega) bx bm n D _ hx.lt (hx.cell 0 _ rfl) h1
  have cS := AnyZI.sorted_in sortedA Fence.wide 5 trivial trivial trivial trivial rfl (by omega) (sortsA _) (enters_of Try.func74 (by kernel_rfl) rfl) 75 #[.pointer (some ⟨bx, 0, none⟩)] trivial (enters_of Try.func75 (by kernel_rfl) rfl) _ _ (by unfold maxLen; omega) (by omega) _ hseq
  change CallsIn _ _ Try.prog 61 _ _ _ at cS
  refine (callsIn_wide (n := 5)).1 (cS.mono ?_)
  rintro e w' ⟨v, ss, rfl, hS, hrow, _, hb⟩
  have hss := keys_sorted (keysOf_inc cs) (hS.trans hp.symm)
  rw [hss] at hrow
  have hlen : ss.length = (keysOf cs).length := (hS.trans hp.symm).length_eq
  rw [hlen] at hrow
  have hone : ∀ u ∈ (keysOf cs).map (Value.int .i64), u.oneCell' = true := fun u hu => by
    obtain ⟨x, _, rfl⟩ := List.mem_map.1 hu; rfl
  refine ⟨v, rfl, hb, ⟨⟨⟨hrow.1, ?_⟩, hone⟩, fun b hb' => (hrow.lt b hb').1⟩⟩
  rcases hrow.2 with h | ⟨g, cap, cur, rfl, h0, h'⟩
  · exact .inl h
  · exact .inr ⟨g, cap, cur, rfl, Nat.zero_le _, h'⟩
theorem a_KeysM (w : World) (mb : Option Nat) : Calls Try.prog 62 #[.map mb] w fun e w' => ∃ b : Nat, e = .returned (.func (.func 75) #[] #[.pointer (some ⟨b, 0, none⟩)]) ∧ Below w.heap.size w w' ∧ Blk w' b #[.map mb] 101 ∧ ∀ z, z = b → w.heap.size ≤ z := by
  have h := AnyZI.keys_in keysA Fence.wide 5 trivial rfl mb w
  change CallsIn _ _ Try.prog 62 _ _ _ at h
  refine (callsIn_wide (n := 5)).1 (h.mono ?_)
  rintro e w' ⟨rfl, rfl⟩
  exact ⟨w.heap.size, rfl, (Below.refl _ w).alloc (Nat.le_refl _) _, Blk.new w _ _, fun z hz => by omega⟩
end Go.Proofs.Ytllhohbenniaaaa

/- The spans of a row. Conditions: none. -/
namespace Go.Proofs.Ytllhohbenniaaaa
open Go.Proofs Go.RowKit Go.Shelf

/-- an edge whose crossing of row r can be told -/
structure CrossOk (r : Int) (e : EdgeT) : Prop where
  rr : -1073741824 ≤ r ∧ r ≤ 1073741824
  x : -1099511627776 ≤ e.x ∧ e.x ≤ 1099511627776
  y : -1099511627776 ≤ e.y ∧ e.y ≤ 1099511627776
  d : -1099511627776 ≤ e.dx ∧ e.dx ≤ 1099511627776
  dy : 0 < e.dy ∧ e.dy ≤ 1099511627776
  p : -4611686018427387904 ≤ (16 * r + 8 - e.y) * e.dx ∧ (16 * r + 8 - e.y) * e.dx ≤ 4611686018427387904
  at_ : -1073741824 ≤ atE e r ∧ atE e r ≤ 1073741824
  wi : Unit e
theorem crossOk_of {e : EdgeT} {r : Int} (h : EdgeOk e) (hu : Unit e) (h1 : e.fr ≤ r) (h2 : r < e.to) : CrossOk r e := by
  have hr := h.rows; have hx := h.x; have hx2 := h.x2; have hy := h.y; have hy2 := h.y2; have hd := h.dy
  exact ⟨by omega, by omega, by omega, by omega, by omega, h.prod h1 h2, h.at_ h1 h2, hu⟩
theorem crossOk_cut {e : EdgeT} {r f t : Int} (h : CrossOk r e) : CrossOk r (cutE f t e) := ⟨h.rr, h.x, h.y, h.d, h.dy, h.p, h.at_, h.wi⟩
/-- the crossings of a row -/
def crs (r : Int) (es : List EdgeT) : List (Int × Int) := es.map fun e => (atE e r, e.wi)
theorem crs_len (r : Int) (es : List EdgeT) : (crs r es).length = es.length := by simp [crs]
theorem crs_getD {r : Int} {es : List EdgeT} {i : Nat} (h : i < es.length) : (crs r es)[i]? = some (atE (es.getD i dE) r, (es.getD i dE).wi) := by
  unfold crs
  rw [List.getElem?_map, List.getElem?_eq_getElem h, List.getD_eq_getElem?_getD, List.getElem?_eq_getElem h]; rfl
theorem crs_take {r : Int} {es : List EdgeT} {i : Nat} (h : i < es.length) : (crs r es).take (i + 1) = (crs r es).take i ++ [(atE (es.getD i dE) r, (es.getD i dE).wi)] := by
  rw [List.take_add_one, crs_getD h]; rfl
def WiOk (cs : List (Int × Int)) : Prop := ∀ c ∈ cs, c.2 = 1 ∨ c.2 = -1
theorem sumAt_bound {cs : List (Int × Int)} (h : WiOk cs) (x : Int) : -(cs.length : Int) ≤ sumAt cs x ∧ sumAt cs x ≤ cs.length :=
  sumF_bound cs fun c hc => by have := h c hc; split <;> omega
theorem rowTo_bound {cs : List (Int × Int)} (h : WiOk cs) (k : Nat) (hk : k ≤ (keysOf cs).length) : -(cs.length : Int) ≤ (rowTo cs k).1 ∧ (rowTo cs k).1 ≤ cs.length := by
  rw [rowTo_w cs k hk, sum_keys cs (inc_take (keysOf_inc cs) k)]
  exact sumF_bound cs fun c hc => by have := h c hc; split <;> omega
theorem crs_wi {r : Int} {es : List EdgeT} (h : ∀ e ∈ es, CrossOk r e) : WiOk (crs r es) := fun c hc => by
  obtain ⟨e, he, rfl⟩ := List.mem_map.1 hc
  exact (h e he).wi
theorem wiOk_take {cs : List (Int × Int)} (h : WiOk cs) (k : Nat) : WiOk (cs.take k) := fun c hc => h c (List.mem_of_mem_take hc)
theorem live_getD {r : Int} {es : List EdgeT} {i : Nat} (h : ∀ e ∈ liveT r es, CrossOk r e) (hi : i < (liveT r es).length) : CrossOk r ((liveT r es).getD i dE) := by
  refine h _ ?_
  rw [List.getD_eq_getElem?_getD, List.getElem?_eq_getElem hi]; exact List.getElem_mem hi
/-- what is handed on, by place -/
def prs (cs : List (Int × Int)) : List (Int × Int) := (keysOf cs).map fun x => (x, sumAt cs x)
theorem prs_get {cs : List (Int × Int)} {k : Nat} {p : Int × Int} (h : (prs cs)[k]? = some p) : k < (keysOf cs).length ∧ p = ((keysOf cs).getD k 0, sumAt cs ((keysOf cs).getD k 0)) := by
  unfold prs at h
  rw [List.getElem?_map] at h
  by_cases hk : k < (keysOf cs).length
  · rw [List.getElem?_eq_getElem hk] at h
    simp only [Option.map_some, Option.some.injEq] at h
    refine ⟨hk, ?_⟩
    rw [List.getD_eq_getElem?_getD, List.getElem?_eq_getElem hk]; exact h.symm
  · rw [List.getElem?_eq_none (by omega)] at h; cases h
theorem prs_at {cs : List (Int × Int)} {k : Nat} (h : k < (keysOf cs).length) : (prs cs)[k]? = some ((keysOf cs).getD k 0, sumAt cs ((keysOf cs).getD k 0)) := by
  unfold prs
  rw [List.getElem?_map, List.getElem?_eq_getElem h, List.getD_eq_getElem?_getD, List.getElem?_eq_getElem h]; rfl
theorem prs_len (cs : List (Int × Int)) : (prs cs).length = (keysOf cs).length := by simp [prs]
theorem el_int {l : List Int} {i : Nat} (h : i < l.length) : El (l.map (Value.int .i64)) 1 i [.int .i64 (l.getD i 0)] := ⟨rfl, fun f hf => by
  obtain rfl : f = 0 := by omega
  rw [Nat.mul_one, Nat.add_zero, List.getElem?_map, List.getElem?_eq_getElem h, List.getD_eq_getElem?_getD, List.getElem?_eq_getElem h]; rfl⟩
theorem key_bound {cs : List (Int × Int)} {B : Int} (h : ∀ c ∈ cs, -B ≤ c.1 ∧ c.1 ≤ B) {k : Nat} (hk : k < (keysOf cs).length) : -B ≤ (keysOf cs).getD k 0 ∧ (keysOf cs).getD k 0 ≤ B := by
  obtain ⟨c, hc, e⟩ := keysOf_mem.1 (getD_mem hk)
  rw [← e]; exact h c hc
theorem crs_bound {r : Int} {es : List EdgeT} (h : ∀ e ∈ es, CrossOk r e) : ∀ c ∈ crs r es, -1073741824 ≤ c.1 ∧ c.1 ≤ 1073741824 := fun c hc => by
  obtain ⟨e, he, rfl⟩ := List.mem_map.1 hc
  exact (h e he).at_
/-- spans lie between the least place and the greatest -/
theorem rowS_bound {cs : List (Int × Int)} {B : Int} (h : ∀ c ∈ cs, -B ≤ c.1 ∧ c.1 ≤ B) : ∀ s ∈ rowS cs, -B ≤ s.fr ∧ s.fr < s.to ∧ s.to ≤ B := fun s hs => by
  have hq := rowQ cs _ (Nat.le_refl _)
  obtain ⟨h1, h2⟩ := hq.from_ s hs
  obtain ⟨c, hc, e⟩ := keysOf_mem.1 h1
  obtain ⟨c', hc', e'⟩ := keysOf_mem.1 h2
  have b1 := h c hc; have b2 := h c' hc'
  exact ⟨by omega, hq.pos s hs, by omega⟩
theorem rowTo_out_len (cs : List (Int × Int)) : ∀ k, k ≤ (keysOf cs).length → (rowTo cs k).2.2.length ≤ k
  | 0, _ => Nat.le_refl _
  | k + 1, h => by
    have ih := rowTo_out_len cs k (by omega)
    rw [rowTo_succ (by omega)]
    simp only [stepR]
    split
    · omega
    · split
      · rw [List.length_append]; simp; omega
      · omega
theorem rowS_len (cs : List (Int × Int)) : (rowS cs).length ≤ cs.length := Nat.le_trans (rowTo_out_len cs _ (Nat.le_refl _)) (keysOf_len cs)
theorem a_crossed (w : World) (v : Value) (es : List EdgeT) (r : Int) (hn : es.length ≤ 100000) (hV : RowV v es.length) (hrow : RowAt w v 7 es.length (es.flatMap eE)) (hc : ∀ e ∈ liveT r es, CrossOk r e) :
    Calls Try.prog 41 #[v, .int .i64 r] w fun e w' => ∃ x : Nat × Nat, e = .returned (.func (.func 60) #[] #[.pointer (some ⟨x.1, 0, none⟩)]) ∧ Below w.heap.size w w' ∧ (Blk w' x.1 #[.map (some x.2)] 101 ∧ TallyAt w' x.2 (liveT r es).length (crs r (liveT r es))) ∧ ∀ b, (b = x.1 ∨ b = x.2) → w.heap.size ≤ b := by
  have hr : ∀ w', Chg (fun _ => False) w w' → RowAt w' v 7 es.length (es.flatMap eE) := fun w' h => hrow.chg h (fun h => h)
  have hll : (liveT r es).length ≤ es.length := List.length_filter_le _ _
  have hcl := crs_len r (liveT r es)
  refine calls_said (args := [v, .int .i64 r]) (fun x : Nat × Nat => .func (.func 60) #[] #[.pointer (some ⟨x.1, 0, none⟩)]) (fun x w' => Blk w' x.1 #[.map (some x.2)] 101 ∧ TallyAt w' x.2 (liveT r es).length (crs r (liveT r es))) (fun x b => b = x.1 ∨ b = x.2) Try.func41 rfl Try.ntmps41 Try.results41 rfl ?_
  refine v_seq ?_
  refine v_region ?_
  refine l_val rfl (o_assign rfl) ?_
  refine l_nil ?_
  refine kt_norm ?_
  refine v_seq ?_
  refine v_region ?_
  refine l_mapNew (fun b w => TallyAt w b 0 []) rfl tally_new (fun _ _ _ h e => tally_st h e) (fun _ _ h => tally_lt h) (fun bm hbm => ?_)
  refine l_new rfl o_alloc fun b5 => ?_
  refine l_store rfl (o_store1 (key := 5) (rs := [_]) rfl rfl rfl rfl rfl rfl rfl) ?_
  refine l_nil ?_
  refine kt_norm ?_
  refine v_seq ?_
  refine v_seq ?_
  refine v_region ?_
  skip
  refine l_val rfl (o_move rfl) ?_
  refine l_val rfl (o_move rfl) ?_
  refine l_gown (ks := []) (caps := #[]) (vs := [_, _]) rfl rfl (ent_of Try.func30 rfl rfl) rfl (fun w' hg hh => a_Live w' v es r (by omega) hV (hr w' hg.1)) fun y hy => ?_
  refine l_val rfl (o_len rfl hy) ?_
  refine l_val rfl (o_move rfl) ?_
  refine l_nil ?_
  refine kt_norm ?_
  refine v_block ?_
  refine v_loopL (α := Nat) (fun i => [(13, .int .i64 (i : Int))]) (fun i => []) (fun i => fun w' => Chg (fun _ => False) w w' ∧ TallyAt w' bm i ((crs r (liveT r es)).take i)) (fun i => fun b => (b < w.heap.size ∧ ¬ False) ∨ b = bm) (fun i => i ≤ (liveT r es).length) (fun i => (liveT r es).length - i) 0 [1, 5, 11, 12] [5, 11] (Nat.zero_le _) rfl rfl (And.intro rfl (True.intro)) rfl (True.intro) rfl ?_
  rintro i hi
  refine v_seq ?_
  refine v_region ?_
  refine l_split rfl (o_lss rfl rfl) (fun q1 => ?_) (fun q1 => ?_)
  · have hil : i < (liveT r es).length := by omega
    have hk := live_getD hc hil
    have hka := hk.at_
    have hkw := hk.wi
    unfold Unit at hkw
    have hct := crs_take (r := r) hil
    have hsb := sumAt_bound (wiOk_take (crs_wi hc) i) (atE ((liveT r es).getD i dE) r)
    have htl := List.length_take (i := i) (l := (crs r (liveT r es)))
    refine l_nil ?_
    refine kt_norm ?_
    refine v_seq ?_
    refine v_condT rfl ?_
    refine v_skip ?_
    refine kt_norm ?_
    refine v_seq ?_
    refine v_block ?_
    refine v_seq ?_
    refine v_region ?_
    refine l_val rfl (o_idx (i) rfl hy rfl (by first | rfl | omega) (by omega)) ?_
    refine l_val rfl (o_loadRE (c' := [_, _, _, _, _, _, _]) rfl (row_own (key := 11) rfl) (el_flat eE_len dE (liveT r es) (i) (by omega)) rfl) ?_
    refine l_new rfl o_alloc fun b7 => ?_
    refine l_store rfl (o_storeW (key := 7) (xs := [_, _, _, _, _, _, _]) rfl rfl rfl rfl rfl rfl rfl) ?_
    refine l_nil ?_
    refine kt_norm ?_
    refine v_drawZ [[5], [7], [], [], [], [7]] mixed ?_ (by kernel_rfl) (by kernel_rfl)
    refine d_val (fun _ => rfl) rfl rfl (fun _ => o_load1 (key := 5) rfl rfl rfl) ?_
    refine d_val (fun _ => rfl) rfl rfl (fun _ => o_loadW (key := 7) rfl rfl rfl) ?_
    refine d_val (fun _ => rfl) rfl rfl (fun _ => o_move rfl) ?_
    refine d_ans (vs := [_, _]) (fun _ => rfl) (fun _ => rfl) (a_At ((liveT r es).getD i dE) r hk.rr hk.x hk.y hk.d hk.dy hk.p) ?_
    refine d_val (fun _ => rfl) rfl rfl (fun _ => o_fld rfl) ?_
    refine d_val (fun _ => rfl) rfl rfl (fun _ => o_load1 (key := 7) rfl rfl rfl) ?_
    refine d_nil (fun σ => ?_)
    refine l_gturn (ks := []) (S := fun z => z = bm) (g' := fun w' => Chg (fun _ => False) w w' ∧ TallyAt w' bm (i + 1) ((crs r (liveT r es)).take (i + 1))) (caps := #[]) (vs := [_, _, _]) rfl rfl (ent_of Try.func58 rfl rfl) rfl (fun z hz => by subst hz; exact ⟨.inr rfl, .inl hbm⟩) (fun w1 w2 hc h1 => ⟨h1.1.trans (hc.mono fun k _ hk => .inr (Decidable.byContradiction fun hn => hk (.inl ⟨by omega, fun h => h⟩))), tally_st h1.2 (hc.block bm (tally_lt h1.2) fun hn => hn (.inr rfl))⟩) (fun w' hg _ => (a_Tally w' bm i ((crs r (liveT r es)).take i) _ _ (by omega) (by omega) (by omega) (by unfold maxLen; omega) hg.2).mono fun e w2 ⟨e1, e2, e3⟩ => ⟨e1, e2, hg.1.trans (e2.mono fun k _ hk => .inr (by subst hk; exact hbm)), by rw [hct]; exact e3⟩) (fun y2 => ?_)
    refine l_nil ?_
    refine kb_norm ?_
    refine kt_norm ?_
    refine v_sel [13, 1, 5, 11, 12] [5, 11] rfl rfl ?_
    refine v_region ?_
    refine l_val rfl (o_addi rfl rfl ?_) ?_
    · omega
    refine l_val rfl (o_move rfl) ?_
    refine l_nil ?_
    refine kt_norm ?_
    refine ⟨i + 1, hil, by omega, le_app (And.intro rfl (True.intro)) [1, 5, 11, 12] rfl (True.intro) [5, 11] rfl⟩
  · skip
    refine l_nil ?_
    refine kt_norm ?_
    refine v_seq ?_
    refine v_condF rfl ?_
    refine v_exit ?_
    refine kt_exit ?_
    refine kt_exit ?_
    refine kb_eq ?_
    refine kt_norm ?_
    refine v_seq ?_
    refine v_region ?_
    obtain rfl : i = (liveT r es).length := by omega
    refine l_val rfl (o_makeFunc (vs := [_]) rfl) ?_
    refine l_val rfl (o_assign rfl) ?_
    refine l_nil ?_
    refine kt_norm ?_
    refine v_sel [4] [5, 11] rfl rfl ?_
    refine v_ret ?_
    refine ⟨[_], .cons (.tmp rfl) (ResAll.nil), ?_⟩
    exact ⟨(b5, bm), rfl, fun w' ho => ⟨⟨(ho.mo 5 _ rfl).1, by have h1 := ho.gh.2; rw [List.take_of_length_le (by omega)] at h1; exact h1⟩, fun b hb => by rcases hb with rfl | rfl; exact ((ho.mo 5 _ rfl).2 _ rfl).elim id False.elim; exact hbm⟩⟩
set_option maxHeartbeats 1000000 in
theorem a_crossed1 (bx bm n : Nat) (cs : List (Int × Int)) (hl : cs.length ≤ 1000000) (hB : ∀ c ∈ cs, -1073741824 ≤ c.1 ∧ c.1 ≤ 1073741824) : Iter Try.prog 60 #[.pointer (some ⟨bx, 0, none⟩)] (fun p : Int × Int => [.int .i64 p.1, .int .i64 p.2]) (prs cs) (fun w => Blk w bx #[.map (some bm)] 101 ∧ TallyAt w bm n cs) := by
  intro lp J Jx O0 W hJ hJx hJG hround hJ0
  have gst : ∀ {w w' : World}, Blk w bx #[.map (some bm)] 101 ∧ TallyAt w bm n cs → Chg (fun _ => False) w w' → Blk w' bx #[.map (some bm)] 101 ∧ TallyAt w' bm n cs := fun h hc => ⟨(hc.block bx (Blk.lt h.1) (fun h => h)).trans h.1, tally_st h.2 (hc.block bm (tally_lt h.2) (fun h => h))⟩
  have hG0 := (hJG _ _ _ hJ0).1
  have hkl := keysOf_len cs
  refine enterI (A := fun W' => (∃ O', J (prs cs).length O' W') ∨ Jx W') (args := [.func (.yield lp) #[] #[], .pointer (some ⟨bx, 0, none⟩)]) Try.func60 rfl Try.ntmps60 Try.results60 rfl (fun w w' h hc => h.imp (fun ⟨O, h⟩ => ⟨O, hJ _ _ _ _ h hc⟩) (fun h => hJx _ _ h hc)) ?_
  refine v_seq ?_
  refine v_region ?_
  refine l_val rfl (o_loadG1 rfl (fun w hg => (gst hG0 hg).1.cell 0 _ rfl)) ?_
  refine l_gsaid (ks := []) (fun b : Nat => .func (.func 75) #[] #[.pointer (some ⟨b, 0, none⟩)]) (fun b w => Blk w b #[.map (some bm)] 101) (fun b z => z = b) (caps := #[]) (vs := [_]) rfl rfl (ent_of Try.func62 rfl rfl) rfl (fun b w1 w2 h e => (e b rfl).trans h) (fun b w1 z h e => by subst e; exact Blk.lt h) (fun w' hg _ => a_KeysM w' (some bm)) (fun b6 => ?_)
  refine l_gownB (ks := []) (caps := #[]) (vs := [_]) rfl rfl (ent_of Try.func61 rfl rfl) rfl (fun w' hg _ => a_SortedK w' b6 bm n cs hl hg.2 (gst hG0 hg.1).2) (fun y7 hy7 hyb => ?_)
  refine l_val rfl (o_len rfl hy7) ?_
  refine l_val rfl (o_move rfl) ?_
  refine l_nil ?_
  refine kt_norm ?_
  refine v_block ?_
  refine v_rebase (fun _ => trivial) (fun h => h) (fun W1 hg1 hm1 => ?_)
  have hok1 : (Hp.own y7 3 1 (keysOf cs).length ((keysOf cs).map (Value.int .i64))).ok W1 := hm1 7 _ rfl
  have hJ1 : J 0 O0 W1 := hJ _ _ _ _ hJ0 hg1.1
  have hO1 : ∀ b, y7.ownBlock = some b → ¬ O0 b := fun b hb ho => by have h1 := (hJG _ _ _ hJ0).2 b ho; have h2 : W.heap.size ≤ b := hyb b hb; omega
  refine v_loopL (α := Nat × World) (fun ⟨i, W2⟩ => [(9, .int .i64 (i : Int))]) (fun ⟨i, W2⟩ => []) (fun ⟨i, W2⟩ => fun w => Chg (fun _ => False) W2 w) (fun ⟨i, W2⟩ => fun b => b < W2.heap.size) (fun ⟨i, W2⟩ => i ≤ (keysOf cs).length ∧ ∃ O2, J i O2 W2 ∧ (∀ b, y7.ownBlock = some b → ¬ O2 b) ∧ (Hp.own y7 3 1 (keysOf cs).length ((keysOf cs).map (Value.int .i64))).ok W2) (fun ⟨i, W2⟩ => (keysOf cs).length - i) (0, W1) [0, 1, 7, 8] [] ⟨Nat.zero_le _, O0, hJ1, hO1, hok1⟩ rfl rfl (And.intro rfl (True.intro)) rfl (True.intro) rfl ?_
  rintro ⟨i, W2⟩ ⟨hi, O2, hJ2, hO2, hok2⟩
  have hrowK := fun w (hg : Chg (fun _ => False) W2 w) => (rowAt_own hok2).chg hg (fun h => h)
  have hGk := fun w (hg : Chg (fun _ => False) W2 w) => gst (hJG _ _ _ hJ2).1 hg
  refine v_seq ?_
  refine v_region ?_
  refine l_split rfl (o_lss rfl rfl) (fun q1 => ?_) (fun q1 => ?_)
  · have hil : i < (keysOf cs).length := by omega
    have hkb := key_bound hB hil
    refine l_nil ?_
    refine kt_norm ?_
    refine v_seq ?_
    refine v_condT rfl ?_
    refine v_skip ?_
    refine kt_norm ?_
    refine v_seq ?_
    refine v_block ?_
    refine v_seq ?_
    refine v_region ?_
    refine l_val rfl (o_idx (i) rfl hy7 rfl (by first | rfl | omega) (by omega)) ?_
    refine l_val rfl (o_loadR1 rfl (row_imm hrowK) (el_int (by omega))) ?_
    refine l_val rfl (o_assign rfl) ?_
    refine l_nil ?_
    refine kt_norm ?_
    refine v_seq ?_
    refine v_region ?_
    refine l_val rfl (o_move rfl) ?_
    refine l_val rfl (o_move rfl) ?_
    refine l_val rfl (o_loadG1 rfl (fun w hg => (hGk w hg).1.cell 0 _ rfl)) ?_
    refine l_val rfl (o_move rfl) ?_
    refine l_val rfl (o_lookup (b := bm) rfl rfl (fun w hg => tally_look (hGk w hg).2 (wf_of (by omega)))) ?_
    refine l_yield (k := 0) (vs := [_, _]) (A := fun W3 => ∃ O3, J (i + 1) O3 W3 ∧ (∀ b, y7.ownBlock = some b → ¬ O3 b) ∧ (Hp.own y7 3 1 (keysOf cs).length ((keysOf cs).map (Value.int .i64))).ok W3) (B := Jx) rfl rfl (fun _ => trivial) (fun h => h) rfl rfl rfl (fun w hg => ⟨O2, yieldAt_mono (hround _ _ O2 w (prs_at hil) (hJ _ _ _ _ hJ2 hg)) (fun e w2 h => h.imp (fun h => ⟨h.1, h.2.1, h.2.2.imp fun O3 h3 => ⟨h3.1, yield_keeps hok2 hg hO2 h.2.1 h3.2⟩⟩) id)⟩) (fun W3 hA => ?_) (fun W3 hBx => ?_)
    · obtain ⟨O3, hJ3, hO3, hok3⟩ := hA
      refine l_val rfl (o_not rfl rfl) ?_
      refine l_nil ?_
      refine kt_norm ?_
      refine v_sel [9, 0, 1, 7, 8, 19] [] rfl rfl ?_
      refine v_condF rfl ?_
      refine v_skip ?_
      refine kb_norm ?_
      refine kt_norm ?_
      refine v_region ?_
      refine l_val rfl (o_addi rfl rfl ?_) ?_
      · omega
      refine l_val rfl (o_move rfl) ?_
      refine l_nil ?_
      refine kt_norm ?_
      refine ⟨(i + 1, W3), ⟨hil, O3, hJ3, hO3, hok3⟩, (by show (keysOf cs).length - (i + 1) < (keysOf cs).length - i; omega), le_app (And.intro rfl (True.intro)) [0, 1, 7, 8] rfl (True.intro) [] rfl⟩
    · skip
      refine l_val rfl (o_not rfl rfl) ?_
      refine l_nil ?_
      refine kt_norm ?_
      refine v_sel [9, 0, 1, 7, 8, 19] [] rfl rfl ?_
      refine v_condT rfl ?_
      refine v_ret ?_
      refine kb_ret ?_
      refine kt_ret ?_
      refine kt_ret ?_
      refine kb_ret ?_
      refine ⟨[], ResAll.nil, ?_⟩
      first
        | exact ⟨rfl, fun w hg => .inr (hJx _ _ hBx hg)⟩
        | exact ⟨rfl, fun w hg => .inl ⟨O2, hJ _ _ _ _ (by rw [prs_len, show (keysOf cs).length = i by omega]; exact hJ2) hg⟩⟩
  · skip
    refine l_nil ?_
    refine kt_norm ?_
    refine v_seq ?_
    refine v_condF rfl ?_
    refine v_exit ?_
    refine kt_exit ?_
    refine kt_exit ?_
    refine kb_eq ?_
    refine ⟨[], ResAll.nil, ?_⟩
    first
      | exact ⟨rfl, fun w hg => .inr (hJx _ _ hBx hg)⟩
      | exact ⟨rfl, fun w hg => .inl ⟨O2, hJ _ _ _ _ (by rw [prs_len, show (keysOf cs).length = i by omega]; exact hJ2) hg⟩⟩
set_option maxHeartbeats 1000000 in
theorem a_Spans (w : World) (v : Value) (es : List EdgeT) (r : Int) (hn : es.length ≤ 100000) (hV : RowV v es.length) (hrow : RowAt w v 7 es.length (es.flatMap eE)) (hc : ∀ e ∈ liveT r es, CrossOk r e) :
    Calls Try.prog 22 #[v, .int .i64 r] w fun e w' => ∃ y, e = .returned y ∧ Below w.heap.size w w' ∧ OwnAt w.heap.size w' y 74 2 (rowS (crs r (liveT r es))).length ((rowS (crs r (liveT r es))).flatMap eS) := by
  have hr : ∀ w', Chg (fun _ => False) w w' → RowAt w' v 7 es.length (es.flatMap eE) := fun w' h => hrow.chg h (fun h => h)
  have hll : (liveT r es).length ≤ es.length := List.length_filter_le _ _
  have hcl := crs_len r (liveT r es)
  have hkl := keysOf_len (crs r (liveT r es))
  refine calls_own (args := [v, .int .i64 r]) Try.func22 rfl Try.ntmps22 Try.results22 rfl ?_
  refine v_seq ?_
  refine v_region ?_
  refine l_new rfl o_alloc fun b4 => ?_
  refine l_nil ?_
  refine kt_norm ?_
  refine v_seq ?_
  refine v_region ?_
  refine l_new rfl o_alloc fun b5 => ?_
  refine l_new rfl o_alloc fun b6 => ?_
  refine l_store rfl (o_store1 (key := 5) (rs := [_]) rfl rfl rfl rfl rfl rfl rfl) ?_
  refine l_store rfl (o_store1 (key := 6) (rs := [_]) rfl rfl rfl rfl rfl rfl rfl) ?_
  refine l_nil ?_
  refine kt_norm ?_
  refine v_seq ?_
  refine v_seq ?_
  refine v_region ?_
  refine l_val rfl (o_move rfl) ?_
  refine l_val rfl (o_move rfl) ?_
  refine l_gsaid (ks := []) (fun x : Nat × Nat => .func (.func 60) #[] #[.pointer (some ⟨x.1, 0, none⟩)]) (fun x w' => Blk w' x.1 #[.map (some x.2)] 101 ∧ TallyAt w' x.2 (liveT r es).length (crs r (liveT r es))) (fun x b => b = x.1 ∨ b = x.2) (caps := #[]) (vs := [_, _]) rfl rfl (ent_of Try.func41 rfl rfl) rfl (fun x w1 w2 h e => ⟨(e x.1 (.inl rfl)).trans h.1, tally_st h.2 (e x.2 (.inr rfl))⟩) (fun x w1 b h hb => by rcases hb with rfl | rfl; exact Blk.lt h.1; exact tally_lt h.2) (fun w' hg _ => a_crossed w' v es r hn hV (hr w' hg) hc) (fun x12 => ?_)
  refine l_nil ?_
  refine kt_norm ?_
  refine v_block ?_
  refine v_ghost 31 74 2 ?_
  refine v_range (τ := Value × RowS) rfl rfl rfl (ent_of Try.func60 rfl rfl) (a_crossed1 x12.1 x12.2 (liveT r es).length (crs r (liveT r es)) (by omega) (crs_bound hc)) (fun w' hg => hg.2) (fun _ => rfl) (fun t => [(4, .box b4 49 [t.1]), (5, .box b5 3 [.int .i64 t.2.1]), (6, .box b6 3 [.int .i64 t.2.2.1]), (31, .own t.1 74 2 t.2.2.2.length (t.2.2.2.flatMap eS))]) (fun k t => t.2 = rowTo (crs r (liveT r es)) k ∧ RowV t.1 t.2.2.2.length) (.slice none 0 0, 0, 0, []) ⟨rfl, .nil0⟩ [4, 5, 6, 31] rfl ?_ ?_
  · rintro k x ⟨va, wn, fr, out⟩ lp W1 Wa hx ⟨hs, hva⟩
    dsimp only at hs hva
    obtain ⟨hk, rfl⟩ := prs_get hx
    have e1 : wn = (rowTo (crs r (liveT r es)) k).1 := by rw [← hs]
    have e3 : out = (rowTo (crs r (liveT r es)) k).2.2 := by rw [← hs]
    have hb1 := rowTo_bound (crs_wi hc) k (by omega)
    have hb2 := sumAt_bound (crs_wi hc) ((keysOf (crs r (liveT r es))).getD k 0)
    have hb3 := rowTo_out_len (crs r (liveT r es)) k (by omega)
    rw [← e1] at hb1
    rw [← e3] at hb3
    dsimp only
    refine v_seq ?_
    refine v_region ?_
    refine l_val rfl (o_assign rfl) ?_
    refine l_nil ?_
    refine kt_norm ?_
    refine v_region ?_
    refine l_val rfl (o_assign rfl) ?_
    refine l_nil ?_
    refine ⟨rfl, rfl, rfl, rfl, fun W2 Wb => ?_⟩
    refine v_block ?_
    refine v_seq ?_
    refine v_region ?_
    refine l_val rfl (o_load1 (key := 5) rfl rfl rfl) ?_
    refine l_val rfl (o_assign rfl) ?_
    refine l_nil ?_
    refine kt_norm ?_
    refine v_sel [0, 1, 4, 5, 6, 7, 8, 9] [4, 5, 6, 31] rfl rfl ?_
    refine v_seq ?_
    refine v_region ?_
    refine l_val rfl (o_load1 (key := 5) rfl rfl rfl) ?_
    refine l_val rfl (o_move rfl) ?_
    refine l_val rfl (o_addi rfl rfl ?_) ?_
    · omega
    refine l_store rfl (o_store1 (key := 5) (rs := [_]) rfl rfl rfl rfl rfl rfl rfl) ?_
    refine l_nil ?_
    refine kt_norm ?_
    refine v_block ?_
    refine v_seq ?_
    refine v_region ?_
    refine l_val rfl (o_move rfl) ?_
    refine l_split rfl (o_eql rfl rfl) (fun h71 => ?_) (fun h71 => ?_)
    · skip
      refine l_val rfl (o_assign rfl) ?_
      refine l_nil ?_
      refine kt_norm ?_
      refine v_sel [0, 1, 4, 5, 6, 7, 8, 19] [4, 5, 6, 31] rfl rfl ?_
      refine v_condT rfl ?_
      refine v_region ?_
      refine l_val rfl (o_move rfl) ?_
      refine l_store rfl (o_store1 (key := 6) (rs := [_]) rfl rfl rfl rfl rfl rfl rfl) ?_
      refine l_nil ?_
      refine kb_norm ?_
      refine kb_norm ?_
      exact ⟨rfl, (va, wn + sumAt (crs r (liveT r es)) ((keysOf (crs r (liveT r es))).getD k 0), ((keysOf (crs r (liveT r es))).getD k 0), out), ⟨by rw [rowTo_succ hk, ← hs, stepR0 h71], hva⟩, ⟨fun _ _ h => (by cases h), leL_ok _ (And.intro rfl (And.intro rfl (And.intro rfl (And.intro rfl True.intro)))), rfl, rfl, rfl⟩⟩
    · skip
      refine l_val rfl (o_assign rfl) ?_
      refine l_nil ?_
      refine kt_norm ?_
      refine v_sel [0, 1, 4, 5, 6, 7, 8, 19] [4, 5, 6, 31] rfl rfl ?_
      refine v_condF rfl ?_
      refine v_seq ?_
      refine v_region ?_
      refine l_val rfl (o_load1 (key := 5) rfl rfl rfl) ?_
      refine l_split rfl (o_eql rfl rfl) (fun h91 => ?_) (fun h91 => ?_)
      · skip
        refine l_val rfl (o_assign rfl) ?_
        refine l_nil ?_
        refine kt_norm ?_
        refine v_condT rfl ?_
        refine v_region ?_
        refine l_val rfl (o_load1 (key := 4) rfl rfl rfl) ?_
        refine l_val rfl (o_load1 (key := 6) rfl rfl rfl) ?_
        refine l_val rfl (o_move rfl) ?_
        refine l_val rfl (o_build (vs := [_, _]) (cs := [_, _]) rfl rfl) ?_
        refine l_buildSlice (vs := [_]) (cs := [_, _]) rfl rfl rfl rfl rfl rfl fun v30 hv30 => ?_
        refine l_append 31 [4, 5, 6, 30] rfl rfl rfl rfl rfl rfl rfl hv30 (row_own (key := 30) rfl) (by omega) fun v31 hv31 => ?_
        refine l_store rfl (o_store1 (key := 4) (rs := [_]) rfl rfl (rowV_cells hv31) rfl rfl (rowV_one hv31) rfl) ?_
        refine l_nil ?_
        refine kb_norm ?_
        refine kb_norm ?_
        exact ⟨rfl, (v31, wn + sumAt (crs r (liveT r es)) ((keysOf (crs r (liveT r es))).getD k 0), fr, out ++ [⟨fr, ((keysOf (crs r (liveT r es))).getD k 0)⟩]), ⟨by rw [rowTo_succ hk, ← hs, stepR1 h71 h91], by rw [List.length_append]; exact hv31⟩, ⟨fun _ _ h => (by cases h), leL_ok _ (And.intro rfl (And.intro rfl (And.intro rfl (And.intro (congrArg some (own_congr (by simp) (by simp [eS]))) True.intro)))), rfl, rfl, rfl⟩⟩
      · skip
        refine l_val rfl (o_assign rfl) ?_
        refine l_nil ?_
        refine kt_norm ?_
        refine v_condF rfl ?_
        refine v_skip ?_
        refine kb_norm ?_
        refine kb_norm ?_
        exact ⟨rfl, (va, wn + sumAt (crs r (liveT r es)) ((keysOf (crs r (liveT r es))).getD k 0), fr, out), ⟨by rw [rowTo_succ hk, ← hs, stepR2 h71 h91], hva⟩, ⟨fun _ _ h => (by cases h), leL_ok _ (And.intro rfl (And.intro rfl (And.intro rfl (And.intro rfl True.intro)))), rfl, rfl, rfl⟩⟩
  · rintro ⟨va, wn, fr, out⟩ D ⟨hs, hva⟩
    dsimp only at hs hva
    rw [prs_len] at hs
    obtain rfl : out = rowS (crs r (liveT r es)) := congrArg (fun t : RowS => t.2.2) hs
    refine kb_norm ?_
    refine kt_norm ?_
    refine v_sel [4] [4, 31] rfl rfl ?_
    refine v_seq ?_
    refine v_region ?_
    refine l_val rfl (o_load1 (key := 4) rfl rfl rfl) ?_
    refine l_store rfl (o_store1 (key := 4) (rs := [_]) rfl rfl (rowV_cells hva) rfl rfl (rowV_one hva) rfl) ?_
    refine l_nil ?_
    refine kt_norm ?_
    refine v_ret ?_
    refine ⟨[_], .cons (.cell1 (key := 4) rfl rfl) (ResAll.nil), ?_⟩
    exact ⟨31, rfl⟩
end Go.Proofs.Ytllhohbenniaaaa

/- Spans cut, summed, asked; all edges of some pieces. Conditions: none. -/
namespace Go.Proofs.Ytllhohbenniaaaa
open Go.Proofs Go.RowKit Go.Shelf

theorem clip_take {lo hi : Int} {l : List SpanT} {i : Nat} (h : i < l.length) : clipT lo hi (l.take (i + 1)) = clipT lo hi (l.take i) ++ (if (clipS lo hi (l.getD i dS)).fr < (clipS lo hi (l.getD i dS)).to then [clipS lo hi (l.getD i dS)] else []) := by
  rw [List.take_add_one, List.getElem?_eq_getElem h, List.getD_eq_getElem?_getD, List.getElem?_eq_getElem h]
  exact clipT_snoc lo hi _ _
theorem sumS_take {l : List SpanT} {i : Nat} (h : i < l.length) : sumS (l.take (i + 1)) = sumS (l.take i) + ((l.getD i dS).to - (l.getD i dS).fr) := by
  rw [List.take_add_one, List.getElem?_eq_getElem h, sumS_append, List.getD_eq_getElem?_getD, List.getElem?_eq_getElem h]
  simp [sumS, sumF]
/-- spans whose ends can be reckoned with -/
def SpOk (l : List SpanT) : Prop := ∀ s ∈ l, -2199023255552 ≤ s.fr ∧ s.fr ≤ s.to ∧ s.to ≤ 2199023255552
theorem spOk_getD {l : List SpanT} (h : SpOk l) {i : Nat} (hi : i < l.length) : -2199023255552 ≤ (l.getD i dS).fr ∧ (l.getD i dS).fr ≤ (l.getD i dS).to ∧ (l.getD i dS).to ≤ 2199023255552 := by
  rw [List.getD_eq_getElem?_getD, List.getElem?_eq_getElem hi]; exact h _ (List.getElem_mem hi)
theorem spOk_take {l : List SpanT} (h : SpOk l) (k : Nat) : SpOk (l.take k) := fun s hs => h s (List.mem_of_mem_take hs)
theorem sumS_ok {l : List SpanT} (h : SpOk l) : 0 ≤ sumS l ∧ sumS l ≤ 4398046511104 * l.length := sumS_bound l fun s hs => by have := h s hs; omega
theorem spOk_clip {l : List SpanT} (h : SpOk l) (lo hi : Int) : SpOk (clipT lo hi l) := fun s hs => by
  obtain ⟨h1, h2, h3, t, ht, h4, h5⟩ := clipT_bound hs
  have := h t ht; omega
def idxS (p : SpanT → Bool) (l : List SpanT) : Int := if l.findIdx p = l.length then -1 else ((l.findIdx p : Nat) : Int)
theorem idxS_yes {p : SpanT → Bool} {l : List SpanT} {i : Nat} (hi : i < l.length) (hb : ∀ j, j < i → p (l.getD j dS) = false) (h : p (l.getD i dS) = true) : idxS p l = i := by
  have e : l.findIdx p = i := (List.findIdx_eq hi).2 ⟨by simpa [List.getD_eq_getElem?_getD, hi] using h, fun j hj => by
    have := hb j hj
    simpa [List.getD_eq_getElem?_getD, show j < l.length by omega] using this⟩
  unfold idxS; rw [e, if_neg (by omega)]
theorem idxS_no {p : SpanT → Bool} {l : List SpanT} (hb : ∀ j, j < l.length → p (l.getD j dS) = false) : idxS p l = -1 := by
  have e : l.findIdx p = l.length := List.findIdx_eq_length.2 fun x hx => by
    obtain ⟨j, hj, rfl⟩ := List.getElem_of_mem hx
    simpa [List.getD_eq_getElem?_getD, hj] using hb j hj
  unfold idxS; rw [if_pos e]
theorem idxS_any (p : SpanT → Bool) (l : List SpanT) : decide (0 ≤ idxS p l) = l.any p := by
  unfold idxS
  by_cases h : l.findIdx p = l.length
  · rw [if_pos h]
    have := List.findIdx_eq_length.1 h
    rw [Bool.eq_iff_iff]
    simp only [decide_eq_true_eq, List.any_eq_true]
    exact ⟨fun h => by omega, fun ⟨x, hx, e⟩ => by have := this x hx; rw [e] at this; cases this⟩
  · rw [if_neg h]
    have hlt : l.findIdx p < l.length := by have := List.findIdx_le_length (p := p) (xs := l); omega
    have := (List.findIdx_eq hlt).1 rfl
    rw [Bool.eq_iff_iff]
    simp only [decide_eq_true_eq, List.any_eq_true]
    exact ⟨fun _ => ⟨_, List.getElem_mem hlt, this.1⟩, fun _ => by omega⟩
/-- bounds of these statements -/
def Bn20 (ps : List (List PtT)) : Prop := ps.length ≤ 12 ∧ ∀ i, i < ps.length → BndP (ps.getD i [])
instance (ps : List (List PtT)) : Decidable (Bn20 ps) := by unfold Bn20; infer_instance
theorem Bn20.bnd {ps : List (List PtT)} (h : Bn20 ps) : Bnd ps := ⟨by have := h.1; omega, h.2⟩
theorem all_cross {ps : List (List PtT)} (h : Bnd ps) (r : Int) : ∀ e ∈ liveT r (edgesAll ps), CrossOk r e := fun e he => by
  have h1 := mem_live he
  have h2 := edgesAll_ok h e h1.1
  exact crossOk_of h2.1 h2.2 h1.2.1 h1.2.2
/-- pieces, a few more of them -/
def BndX (ps : List (List PtT)) : Prop := ps.length ≤ 24 ∧ ∀ i, i < ps.length → BndP (ps.getD i [])
theorem Bnd.x {ps : List (List PtT)} (h : Bnd ps) : BndX ps := ⟨by have := h.1; omega, h.2⟩
theorem BndX.mem {ps : List (List PtT)} (h : BndX ps) {pc : List PtT} (hp : pc ∈ ps) : BndP pc := by
  obtain ⟨i, hi, rfl⟩ := List.getElem_of_mem hp
  have := h.2 i hi
  rwa [List.getD_eq_getElem?_getD, List.getElem?_eq_getElem hi] at this
theorem BndX.pcsV {v : Value} {pvs : List Value} {ps : List (List PtT)} (h : BndX ps) (hv : PcsW v pvs ps) : PcsV v pvs ps :=
  ⟨hv.V, hv.lenv, by have := h.1; omega, hv.pV, fun i hi => by have := (h.2 i hi).1; omega, fun i hi => (h.2 i hi).near⟩
theorem edgesAll_lenX {ps : List (List PtT)} (h : BndX ps) : (edgesAll ps).length ≤ 384 := by
  have h1 : ∀ (q : List (List PtT)), (∀ pc ∈ q, pc.length ≤ 16) → (edgesAll q).length ≤ 16 * q.length := fun q => by
    induction q with
    | nil => intro _; exact Nat.le_refl _
    | cons pc r ih =>
      intro hq
      have h2 := ih fun x hx => hq x (List.mem_cons_of_mem _ hx)
      have h3 := hq pc List.mem_cons_self
      have h4 := edgesTo_len pc pc.length
      have e : edgesAll (pc :: r) = edgesOf pc ++ edgesAll r := by simp [edgesAll]
      rw [e, List.length_append, List.length_cons, edgesOf]
      omega
  have h5 := h1 ps fun pc hpc => (h.mem hpc).1
  have := h.1
  omega
theorem all_crossX {ps : List (List PtT)} (h : BndX ps) (r : Int) : ∀ e ∈ liveT r (edgesAll ps), CrossOk r e := fun e he => by
  have h1 := mem_live he
  obtain ⟨pc, hp, hm⟩ := List.mem_flatMap.1 h1.1
  have h2 := edgesAll_ok (bnd_one.2 (h.mem hp)) e (by simpa [edgesAll] using hm)
  exact crossOk_of h2.1 h2.2 h1.2.1 h1.2.2
theorem all_spOk {ps : List (List PtT)} (h : Bnd ps) (r : Int) : SpOk (rowS (crs r (liveT r (edgesAll ps)))) := fun s hs => by
  have := rowS_bound (crs_bound (all_cross h r)) s hs; omega
theorem a_Clip (w : World) (v : Value) (l : List SpanT) (lo hi : Int) (hn : l.length ≤ 1000000) (hV : RowV v l.length) (hrow : RowAt w v 2 l.length (l.flatMap eS)) :
    Calls Try.prog 35 #[v, .int .i64 lo, .int .i64 hi] w fun e w' => ∃ y, e = .returned y ∧ Below w.heap.size w w' ∧ OwnAt w.heap.size w' y 74 2 (clipT lo hi l).length ((clipT lo hi l).flatMap eS) := by
  have hr : ∀ w', Chg (fun _ => False) w w' → RowAt w' v 2 l.length (l.flatMap eS) := fun w' h => hrow.chg h (fun h => h)
  refine calls_own (args := [v, .int .i64 lo, .int .i64 hi]) Try.func35 rfl Try.ntmps35 Try.results35 rfl ?_
  refine v_ghost 33 74 2 ?_
  refine v_seq ?_
  refine v_region ?_
  refine l_val rfl (o_assign rfl) ?_
  refine l_nil ?_
  refine kt_norm ?_
  refine v_seq ?_
  refine v_seq ?_
  refine v_region ?_
  refine l_val rfl (o_move rfl) ?_
  refine l_val rfl (o_len rfl hV) ?_
  refine l_val rfl (o_move rfl) ?_
  refine l_nil ?_
  refine kt_norm ?_
  refine v_block ?_
  refine v_loopS (α := Nat × Value) (fun ⟨i, v6⟩ => [(11, .int .i64 (i : Int)), (6, v6)]) (fun ⟨i, v6⟩ => [(33, Hp.own v6 74 2 (clipT lo hi (l.take i)).length ((clipT lo hi (l.take i)).flatMap eS))])  (fun ⟨i, v6⟩ => i ≤ l.length ∧ RowV v6 (clipT lo hi (l.take i)).length) (fun ⟨i, v6⟩ => l.length - i) (0, .slice none 0 0) [1, 2, 9, 10] [] ⟨Nat.zero_le _, .nil0⟩  (And.intro rfl (And.intro rfl (True.intro))) rfl (And.intro rfl (True.intro)) rfl ?_
  rintro ⟨i, v6⟩ ⟨hi_, hv6⟩
  refine v_seq ?_
  refine v_region ?_
  refine l_split rfl (o_lss rfl rfl) (fun q1 => ?_) (fun q1 => ?_)
  · have hil : i < l.length := by omega
    have hct := clip_take (lo := lo) (hi := hi) hil
    refine l_nil ?_
    refine kt_norm ?_
    refine v_seq ?_
    refine v_condT rfl ?_
    refine v_skip ?_
    refine kt_norm ?_
    refine v_seq ?_
    refine v_block ?_
    refine v_seq ?_
    refine v_region ?_
    refine l_val rfl (o_idx (i) rfl hV rfl (by first | rfl | omega) (by omega)) ?_
    refine l_val rfl (o_loadRE (c' := [_, _]) rfl (row_imm hr) (el_flat eS_len dS l (i) (by omega)) rfl) ?_
    refine l_new rfl o_alloc fun b8 => ?_
    refine l_store rfl (o_storeW (key := 8) (xs := [_, _]) rfl rfl rfl rfl rfl rfl rfl) ?_
    refine l_nil ?_
    refine kt_norm ?_
    refine v_seq ?_
    refine v_region ?_
    refine l_val rfl (o_fld rfl) ?_
    refine l_val rfl (o_load1 (key := 8) rfl rfl rfl) ?_
    refine l_val rfl (o_move rfl) ?_
    refine l_val rfl (o_max rfl rfl) ?_
    refine l_val rfl (o_fld rfl) ?_
    refine l_val rfl (o_load1 (key := 8) rfl rfl rfl) ?_
    refine l_val rfl (o_move rfl) ?_
    refine l_val rfl (o_min rfl rfl) ?_
    refine l_val rfl (o_fld rfl) ?_
    refine l_store rfl (o_store1 (key := 8) (rs := [_, _]) rfl rfl rfl rfl rfl rfl rfl) ?_
    refine l_val rfl (o_fld rfl) ?_
    refine l_store rfl (o_store1 (key := 8) (rs := [_, _]) rfl rfl rfl rfl rfl rfl rfl) ?_
    refine l_nil ?_
    refine kt_norm ?_
    refine v_sel [11, 6, 1, 2, 9, 10, 8] [8, 33] rfl rfl ?_
    refine v_seq ?_
    refine v_region ?_
    refine l_val rfl (o_fld rfl) ?_
    refine l_val rfl (o_load1 (key := 8) rfl rfl rfl) ?_
    refine l_val rfl (o_fld rfl) ?_
    refine l_val rfl (o_load1 (key := 8) rfl rfl rfl) ?_
    refine l_split rfl (o_lss rfl rfl) (fun hlt => ?_) (fun hlt => ?_)
    · have hc1 : (clipS lo hi (l.getD i dS)).fr < (clipS lo hi (l.getD i dS)).to := hlt
      refine l_nil ?_
      refine kt_norm ?_
      refine v_condT rfl ?_
      refine v_region ?_
      refine l_val rfl (o_move rfl) ?_
      refine l_val rfl (o_loadW (key := 8) rfl rfl rfl) ?_
      refine l_buildSlice (vs := [_]) (cs := [_, _]) rfl rfl rfl rfl rfl rfl fun v32 hv32 => ?_
      refine l_append 33 [8, 32] rfl rfl rfl rfl rfl rfl rfl hv32 (row_own (key := 32) rfl) (by have h1 := clipT_len lo hi (l.take i); have h2 := List.length_take (i := i) (l := l); omega) fun v33 hv33 => ?_
      refine l_val rfl (o_assign rfl) ?_
      refine l_nil ?_
      refine kb_norm ?_
      refine kt_norm ?_
      refine v_sel [11, 6, 1, 2, 9, 10] [33] rfl rfl ?_
      refine v_region ?_
      refine l_val rfl (o_addi rfl rfl ?_) ?_
      · omega
      refine l_val rfl (o_move rfl) ?_
      refine l_nil ?_
      refine kt_norm ?_
      refine ⟨(i + 1, v33), ⟨hil, by rw [hct, if_pos hc1, List.length_append]; exact hv33⟩, (by show l.length - (i + 1) < l.length - i; omega), le_app (And.intro rfl (And.intro rfl (True.intro))) [1, 2, 9, 10] rfl (And.intro (congrArg some (own_congr (by rw [hct, if_pos hc1, List.length_append]; rfl) (by rw [hct, if_pos hc1, List.flatMap_append]; simp [eS, clipS]))) (True.intro)) [] rfl⟩
    · have hc1 : ¬ (clipS lo hi (l.getD i dS)).fr < (clipS lo hi (l.getD i dS)).to := hlt
      refine l_nil ?_
      refine kt_norm ?_
      refine v_condF rfl ?_
      refine v_skip ?_
      refine kb_norm ?_
      refine kt_norm ?_
      refine v_sel [11, 6, 1, 2, 9, 10] [33] rfl rfl ?_
      refine v_region ?_
      refine l_val rfl (o_addi rfl rfl ?_) ?_
      · omega
      refine l_val rfl (o_move rfl) ?_
      refine l_nil ?_
      refine kt_norm ?_
      refine ⟨(i + 1, v6), ⟨hil, by rw [hct, if_neg hc1, List.append_nil]; exact hv6⟩, (by show l.length - (i + 1) < l.length - i; omega), le_app (And.intro rfl (And.intro rfl (True.intro))) [1, 2, 9, 10] rfl (And.intro (congrArg some (own_congr (by rw [hct, if_neg hc1, List.append_nil]) (by rw [hct, if_neg hc1, List.append_nil]))) (True.intro)) [] rfl⟩
  · skip
    refine l_nil ?_
    refine kt_norm ?_
    refine v_seq ?_
    refine v_condF rfl ?_
    refine v_exit ?_
    refine kt_exit ?_
    refine kt_exit ?_
    refine kb_eq ?_
    refine kt_norm ?_
    refine v_sel [6] [33] rfl rfl ?_
    refine v_seq ?_
    refine v_region ?_
    obtain rfl : i = l.length := by omega
    refine l_val rfl (o_move rfl) ?_
    refine l_val rfl (o_assign rfl) ?_
    refine l_nil ?_
    refine kt_norm ?_
    refine v_ret ?_
    refine ⟨[_], .cons (.tmp rfl) (ResAll.nil), ?_⟩
    exact ⟨33, congrArg some (own_congr (by rw [List.take_length]) (by rw [List.take_length]))⟩
theorem a_Sum (w : World) (v : Value) (l : List SpanT) (hn : l.length ≤ 1000000) (ho : SpOk l) (hV : RowV v l.length) (hrow : RowAt w v 2 l.length (l.flatMap eS)) :
    Calls Try.prog 25 #[v] w fun e w' => e = .returned (.int .i64 (sumS l)) ∧ Below w.heap.size w w' := by
  have hr : ∀ w', Chg (fun _ => False) w w' → RowAt w' v 2 l.length (l.flatMap eS) := fun w' h => hrow.chg h (fun h => h)
  refine calls_of (args := [v]) Try.func25 rfl Try.ntmps25 Try.results25 rfl ?_
  refine v_seq ?_
  refine v_region ?_
  refine l_val rfl (o_assign rfl) ?_
  refine l_nil ?_
  refine kt_norm ?_
  refine v_seq ?_
  refine v_seq ?_
  refine v_region ?_
  refine l_val rfl (o_move rfl) ?_
  refine l_val rfl (o_len rfl hV) ?_
  refine l_val rfl (o_move rfl) ?_
  refine l_nil ?_
  refine kt_norm ?_
  refine v_block ?_
  refine v_loopS (α := Nat) (fun i => [(7, .int .i64 (i : Int)), (2, .int .i64 (sumS (l.take i)))]) (fun i => [])  (fun i => i ≤ l.length) (fun i => l.length - i) 0 [5, 6] [] (Nat.zero_le _)  (And.intro rfl (And.intro rfl (True.intro))) rfl (True.intro) rfl ?_
  rintro i hi
  refine v_seq ?_
  refine v_region ?_
  refine l_split rfl (o_lss rfl rfl) (fun q1 => ?_) (fun q1 => ?_)
  · have hil : i < l.length := by omega
    have hb1 := spOk_getD ho hil
    have hb2 := sumS_ok (spOk_take ho i)
    have hb3 := List.length_take (i := i) (l := l)
    refine l_nil ?_
    refine kt_norm ?_
    refine v_seq ?_
    refine v_condT rfl ?_
    refine v_skip ?_
    refine kt_norm ?_
    refine v_seq ?_
    refine v_block ?_
    refine v_seq ?_
    refine v_region ?_
    refine l_val rfl (o_idx (i) rfl hV rfl (by first | rfl | omega) (by omega)) ?_
    refine l_val rfl (o_loadRE (c' := [_, _]) rfl (row_imm hr) (el_flat eS_len dS l (i) (by omega)) rfl) ?_
    refine l_new rfl o_alloc fun b4 => ?_
    refine l_store rfl (o_storeW (key := 4) (xs := [_, _]) rfl rfl rfl rfl rfl rfl rfl) ?_
    refine l_nil ?_
    refine kt_norm ?_
    refine v_region ?_
    refine l_val rfl (o_move rfl) ?_
    refine l_val rfl (o_fld rfl) ?_
    refine l_val rfl (o_load1 (key := 4) rfl rfl rfl) ?_
    refine l_val rfl (o_fld rfl) ?_
    refine l_val rfl (o_load1 (key := 4) rfl rfl rfl) ?_
    refine l_val rfl (o_subi rfl rfl ?_) ?_
    · omega
    refine l_val rfl (o_addi rfl rfl ?_) ?_
    · omega
    refine l_val rfl (o_assign rfl) ?_
    refine l_nil ?_
    refine kb_norm ?_
    refine kt_norm ?_
    refine v_sel [7, 2, 5, 6] [] rfl rfl ?_
    refine v_region ?_
    refine l_val rfl (o_addi rfl rfl ?_) ?_
    · omega
    refine l_val rfl (o_move rfl) ?_
    refine l_nil ?_
    refine kt_norm ?_
    refine ⟨i + 1, hil, by omega, le_app (And.intro rfl (And.intro (congrArg (fun q => some (Value.int .i64 q)) (sumS_take hil).symm) (True.intro))) [5, 6] rfl (True.intro) [] rfl⟩
  · skip
    refine l_nil ?_
    refine kt_norm ?_
    refine v_seq ?_
    refine v_condF rfl ?_
    refine v_exit ?_
    refine kt_exit ?_
    refine kt_exit ?_
    refine kb_eq ?_
    refine kt_norm ?_
    refine v_seq ?_
    refine v_region ?_
    obtain rfl : i = l.length := by omega
    refine l_val rfl (o_move rfl) ?_
    refine l_val rfl (o_assign rfl) ?_
    refine l_nil ?_
    refine kt_norm ?_
    refine v_ret ?_
    refine ⟨[_], .cons (.tmp rfl) (ResAll.nil), ?_⟩
    exact congrArg (Value.int .i64) (by rw [List.take_length])
theorem a_Has1 (x : Int) (b : Nat) : PredF Try.prog 44 #[.pointer (some ⟨b, 0, none⟩)] eS (fun s => decide (s.fr ≤ x) && decide (x < s.to)) (fun w => Blk w b #[.int .i64 x] 3) := by
  refine ⟨ent_of Try.func44 rfl rfl, fun w s hG => ?_⟩
  have hG' : ∀ w', Chg (fun _ => False) w w' → Blk w' b #[.int .i64 x] 3 := fun w' h => (h.block b (Blk.lt hG) (fun h => h)).trans hG
  refine calls_of (args := [.agg #[.int .i64 s.fr, .int .i64 s.to], .pointer (some ⟨b, 0, none⟩)]) Try.func44 rfl Try.ntmps44 Try.results44 rfl ?_
  refine v_seq ?_
  refine v_region ?_
  refine l_new rfl (o_box (cs := [_, _]) rfl rfl) fun b2 => ?_
  refine l_val rfl (o_assign rfl) ?_
  refine l_nil ?_
  refine kt_norm ?_
  refine v_seq ?_
  refine v_region ?_
  refine l_val rfl (o_fld rfl) ?_
  refine l_val rfl (o_load1 (key := 2) rfl rfl rfl) ?_
  refine l_val rfl (o_loadG1 rfl (fun w hg => (hG' w hg).cell 0 _ rfl)) ?_
  refine l_split rfl (o_leq rfl rfl) (fun q1 => ?_) (fun q1 => ?_)
  · skip
    refine l_val rfl (o_move rfl) ?_
    refine l_val rfl (o_loadG1 rfl (fun w hg => (hG' w hg).cell 0 _ rfl)) ?_
    refine l_val rfl (o_fld rfl) ?_
    refine l_val rfl (o_load1 (key := 2) rfl rfl rfl) ?_
    refine l_split rfl (o_lss rfl rfl) (fun q2 => ?_) (fun q2 => ?_)
    · skip
      refine l_val rfl (o_pickT rfl rfl) ?_
      refine l_val rfl (o_assign rfl) ?_
      refine l_nil ?_
      refine kt_norm ?_
      refine v_sel [3] [] rfl rfl ?_
      refine v_ret ?_
      refine ⟨[_], .cons (.tmp rfl) (ResAll.nil), ?_⟩
      exact congrArg Value.bool (by first | (rw [decide_eq_false (show ¬ s.fr ≤ x by omega)]; rfl) | (rw [decide_eq_true (show s.fr ≤ x by omega)]; first | (rw [decide_eq_true (show x < s.to by omega)]; rfl) | (rw [decide_eq_false (show ¬ x < s.to by omega)]; rfl)))
    · skip
      refine l_val rfl (o_pickT rfl rfl) ?_
      refine l_val rfl (o_assign rfl) ?_
      refine l_nil ?_
      refine kt_norm ?_
      refine v_sel [3] [] rfl rfl ?_
      refine v_ret ?_
      refine ⟨[_], .cons (.tmp rfl) (ResAll.nil), ?_⟩
      exact congrArg Value.bool (by first | (rw [decide_eq_false (show ¬ s.fr ≤ x by omega)]; rfl) | (rw [decide_eq_true (show s.fr ≤ x by omega)]; first | (rw [decide_eq_true (show x < s.to by omega)]; rfl) | (rw [decide_eq_false (show ¬ x < s.to by omega)]; rfl)))
  · skip
    refine l_val rfl (o_move rfl) ?_
    refine l_no rfl ?_
    refine l_no rfl ?_
    refine l_no rfl ?_
    refine l_no rfl ?_
    refine l_val rfl (o_pickF rfl rfl) ?_
    refine l_val rfl (o_assign rfl) ?_
    refine l_nil ?_
    refine kt_norm ?_
    refine v_sel [3] [] rfl rfl ?_
    refine v_ret ?_
    refine ⟨[_], .cons (.tmp rfl) (ResAll.nil), ?_⟩
    exact congrArg Value.bool (by first | (rw [decide_eq_false (show ¬ s.fr ≤ x by omega)]; rfl) | (rw [decide_eq_true (show s.fr ≤ x by omega)]; first | (rw [decide_eq_true (show x < s.to by omega)]; rfl) | (rw [decide_eq_false (show ¬ x < s.to by omega)]; rfl)))
theorem a_IndexS {f : Nat} {caps : Array Value} {p : SpanT → Bool} {G : World → Prop} (hp : PredF Try.prog f caps eS p G) (w : World) (v : Value) (l : List SpanT) (hn : l.length ≤ 1000000) (hV : RowV v l.length) (hrow : RowAt w v 2 l.length (l.flatMap eS)) (hG : ∀ w', Chg (fun _ => False) w w' → G w') :
    Calls Try.prog 63 #[v, .func (.func f) #[] caps] w fun e w' => e = .returned (.int .i64 (idxS p l)) ∧ Below w.heap.size w w' := by
  have hr : ∀ w', Chg (fun _ => False) w w' → RowAt w' v 2 l.length (l.flatMap eS) := fun w' h => hrow.chg h (fun h => h)
  refine calls_of (args := [v, .func (.func f) #[] caps]) Try.func63 rfl Try.ntmps63 Try.results63 rfl ?_
  refine v_seq ?_
  refine v_region ?_
  refine l_val rfl (o_assign rfl) ?_
  refine l_nil ?_
  refine kt_norm ?_
  refine v_seq ?_
  refine v_seq ?_
  refine v_region ?_
  refine l_val rfl (o_move rfl) ?_
  refine l_val rfl (o_len rfl hV) ?_
  refine l_val rfl (o_move rfl) ?_
  refine l_nil ?_
  refine kt_norm ?_
  refine v_block ?_
  refine v_loopS (α := Nat) (fun i => [(8, .int .i64 (i : Int))]) (fun i => [])  (fun i => i ≤ l.length ∧ ∀ j, j < i → p (l.getD j dS) = false) (fun i => l.length - i) 0 [0, 1, 7] [] ⟨by omega, fun j h => by omega⟩  (And.intro rfl (True.intro)) rfl (True.intro) rfl ?_
  rintro i ⟨hi, hb⟩
  refine v_seq ?_
  refine v_region ?_
  refine l_split rfl (o_lss rfl rfl) (fun q1 => ?_) (fun q1 => ?_)
  · first
    | (exfalso; assumption; done)
    | (
        refine l_nil ?_
        refine kt_norm ?_
        refine v_seq ?_
        refine v_condT rfl ?_
        refine v_skip ?_
        refine kt_norm ?_
        refine v_seq ?_
        refine v_block ?_
        refine v_seq ?_
        refine v_region ?_
        refine l_val rfl (o_move rfl) ?_
        refine l_val rfl (o_assign rfl) ?_
        refine l_nil ?_
        refine kt_norm ?_
        refine v_seq ?_
        refine v_region ?_
        refine l_val rfl (o_move rfl) ?_
        refine l_val rfl (o_move rfl) ?_
        refine l_val rfl (o_move rfl) ?_
        refine l_val rfl (o_idx (i) rfl hV rfl (by first | rfl | omega) (by omega)) ?_
        refine l_val rfl (o_loadRE (c' := [_, _]) rfl (row_imm hr) (el_flat eS_len dS l (i) (by omega)) rfl) ?_
        refine l_call (ks := []) rfl (o_callF (caps := caps) (vs := [_]) (r := .bool (p (l.getD i dS))) rfl hp.ent rfl (fun w' hg _ => hp.ans w' (l.getD i dS) (hG w' hg))) ?_
        refine lz_cases (fun q2 => ?_) (fun q2 => ?_)
        · first
          | (exfalso; assumption; done)
          | (
              refine l_nil ?_
              refine kt_norm ?_
              refine v_sel [8, 0, 1, 7, 5, 16] [] rfl rfl ?_
              refine v_condT rfl ?_
              refine v_seq ?_
              refine v_region ?_
              refine l_val rfl (o_move rfl) ?_
              refine l_val rfl (o_assign rfl) ?_
              refine l_nil ?_
              refine kt_norm ?_
              refine v_sel [4] [] rfl rfl ?_
              refine v_ret ?_
              refine kb_ret ?_
              refine kt_ret ?_
              refine kt_ret ?_
              refine kb_ret ?_
              refine kt_ret ?_
              refine ⟨[_], .cons (.tmp rfl) (ResAll.nil), ?_⟩
              first
                | exact congrArg (Value.int .i64) (idxS_yes (by omega) hb (by assumption)).symm
                | exact congrArg (Value.int .i64) (idxS_no (fun j hj => hb j (by omega))).symm)
        · first
          | (exfalso; assumption; done)
          | (
              refine l_nil ?_
              refine kt_norm ?_
              refine v_sel [8, 0, 1, 7, 5, 16] [] rfl rfl ?_
              refine v_condF rfl ?_
              refine v_skip ?_
              refine kb_norm ?_
              refine kt_norm ?_
              refine v_region ?_
              refine l_val rfl (o_addi rfl rfl ?_) ?_
              · omega
              refine l_val rfl (o_move rfl) ?_
              refine l_nil ?_
              refine kt_norm ?_
              refine ⟨i + 1, ⟨by omega, fun j hj => by rcases Nat.lt_or_eq_of_le (Nat.le_of_lt_succ hj) with h | h; exact hb j h; subst h; assumption⟩, by omega, le_app (And.intro rfl (True.intro)) [0, 1, 7] rfl (True.intro) [] rfl⟩))
  · first
    | (exfalso; assumption; done)
    | (
        refine l_nil ?_
        refine kt_norm ?_
        refine v_seq ?_
        refine v_condF rfl ?_
        refine v_exit ?_
        refine kt_exit ?_
        refine kt_exit ?_
        refine kb_eq ?_
        refine kt_norm ?_
        refine v_seq ?_
        refine v_region ?_
        refine l_val rfl (o_assign rfl) ?_
        refine l_nil ?_
        refine kt_norm ?_
        refine v_ret ?_
        refine ⟨[_], .cons (.tmp rfl) (ResAll.nil), ?_⟩
        first
          | exact congrArg (Value.int .i64) (idxS_yes (by omega) hb (by assumption)).symm
          | exact congrArg (Value.int .i64) (idxS_no (fun j hj => hb j (by omega))).symm)
theorem a_ContS {f : Nat} {caps : Array Value} {p : SpanT → Bool} {G : World → Prop} (hp : PredF Try.prog f caps eS p G) (w : World) (v : Value) (l : List SpanT) (hn : l.length ≤ 1000000) (hV : RowV v l.length) (hrow : RowAt w v 2 l.length (l.flatMap eS)) (hG : ∀ w', Chg (fun _ => False) w w' → G w') :
    Calls Try.prog 43 #[v, .func (.func f) #[] caps] w fun e w' => e = .returned (.bool (l.any p)) ∧ Below w.heap.size w w' := by
  have hr : ∀ w', Chg (fun _ => False) w w' → RowAt w' v 2 l.length (l.flatMap eS) := fun w' h => hrow.chg h (fun h => h)
  refine calls_of (args := [v, .func (.func f) #[] caps]) Try.func43 rfl Try.ntmps43 Try.results43 rfl ?_
  refine v_seq ?_
  refine v_region ?_
  refine l_val rfl (o_assign rfl) ?_
  refine l_nil ?_
  refine kt_norm ?_
  refine v_seq ?_
  refine v_region ?_
  refine l_val rfl (o_move rfl) ?_
  refine l_val rfl (o_move rfl) ?_
  refine l_call (ks := []) rfl (o_callC (vs := [_, _]) (r := .int .i64 (idxS p l)) (ent_of Try.func63 rfl rfl) rfl (fun w' hg hh => a_IndexS hp w' v l hn hV (hr w' hg) (fun w2 hc => hG w2 (hg.trans (hc.mono fun k _ h => h.elim))))) ?_
  refine l_val rfl (o_geq rfl rfl) ?_
  refine l_val rfl (o_assign rfl) ?_
  refine l_nil ?_
  refine kt_norm ?_
  refine v_sel [4] [] rfl rfl ?_
  refine v_ret ?_
  refine ⟨[_], .cons (.tmp rfl) (ResAll.nil), ?_⟩
  exact congrArg Value.bool (idxS_any p l)
theorem a_Has (w : World) (v : Value) (l : List SpanT) (x : Int) (hn : l.length ≤ 1000000) (hV : RowV v l.length) (hrow : RowAt w v 2 l.length (l.flatMap eS)) :
    Calls Try.prog 24 #[v, .int .i64 x] w fun e w' => e = .returned (.bool (hasS l x)) ∧ Below w.heap.size w w' := by
  have hr : ∀ w', Chg (fun _ => False) w w' → RowAt w' v 2 l.length (l.flatMap eS) := fun w' h => hrow.chg h (fun h => h)
  refine calls_of (args := [v, .int .i64 x]) Try.func24 rfl Try.ntmps24 Try.results24 rfl ?_
  refine v_seq ?_
  refine v_region ?_
  refine l_new rfl (o_box (cs := [_]) rfl rfl) fun b3 => ?_
  refine l_val rfl (o_assign rfl) ?_
  refine l_nil ?_
  refine kt_norm ?_
  refine v_seq ?_
  refine v_region ?_
  refine l_val rfl (o_move rfl) ?_
  refine l_val rfl (o_makeFunc (vs := [_]) rfl) ?_
  refine l_call (ks := [3]) rfl (o_callC (vs := [_, _]) (r := .bool (hasS l x)) (ent_of Try.func43 rfl rfl) rfl (fun w' hg hh => a_ContS (a_Has1 x b3) w' v l hn hV (hr w' hg) (fun w2 hc => (hc.block b3 (Blk.lt (hh 3 (by simp) _ rfl)) (fun h => h)).trans (hh 3 (by simp) _ rfl)))) ?_
  refine l_val rfl (o_assign rfl) ?_
  refine l_nil ?_
  refine kt_norm ?_
  refine v_sel [4] [] rfl rfl ?_
  refine v_ret ?_
  refine ⟨[_], .cons (.tmp rfl) (ResAll.nil), ?_⟩
  rfl
theorem a_row20 (n : Int) : Ans Try.prog 18 [.int .i64 n] (.bool (decide (-134217728 ≤ n ∧ n ≤ 134217728))) := by
  refine ans_of Try.func18 rfl Try.ntmps18 Try.results18 rfl rfl fun w => ?_
  refine v_seq ?_
  refine v_region ?_
  refine l_val rfl (o_assign rfl) ?_
  refine l_nil ?_
  refine kt_norm ?_
  refine v_seq ?_
  refine v_region ?_
  refine l_val rfl (o_move rfl) ?_
  refine l_split rfl (o_geq rfl rfl) (fun q1 => ?_) (fun q1 => ?_)
  · first
    | (exfalso; omega; done)
    | (
        refine l_val rfl (o_move rfl) ?_
        refine l_val rfl (o_move rfl) ?_
        refine l_split rfl (o_leq rfl rfl) (fun q2 => ?_) (fun q2 => ?_)
        · first
          | (exfalso; omega; done)
          | (
              refine l_val rfl (o_pickT rfl rfl) ?_
              refine l_val rfl (o_assign rfl) ?_
              refine l_nil ?_
              refine kt_norm ?_
              refine v_sel [2] [] rfl rfl ?_
              refine v_ret ?_
              refine ⟨[_], .cons (.tmp rfl) (ResAll.nil), ?_⟩
              exact congrArg Value.bool (by first | exact (decide_eq_true (by omega)).symm | exact (decide_eq_false (by omega)).symm))
        · first
          | (exfalso; omega; done)
          | (
              refine l_val rfl (o_pickT rfl rfl) ?_
              refine l_val rfl (o_assign rfl) ?_
              refine l_nil ?_
              refine kt_norm ?_
              refine v_sel [2] [] rfl rfl ?_
              refine v_ret ?_
              refine ⟨[_], .cons (.tmp rfl) (ResAll.nil), ?_⟩
              exact congrArg Value.bool (by first | exact (decide_eq_true (by omega)).symm | exact (decide_eq_false (by omega)).symm)))
  · first
    | (exfalso; omega; done)
    | (
        refine l_val rfl (o_move rfl) ?_
        refine l_no rfl ?_
        refine l_no rfl ?_
        refine l_val rfl (o_pickF rfl rfl) ?_
        refine l_val rfl (o_assign rfl) ?_
        refine l_nil ?_
        refine kt_norm ?_
        refine v_sel [2] [] rfl rfl ?_
        refine v_ret ?_
        refine ⟨[_], .cons (.tmp rfl) (ResAll.nil), ?_⟩
        exact congrArg Value.bool (by first | exact (decide_eq_true (by omega)).symm | exact (decide_eq_false (by omega)).symm))
theorem a_far (n : Int) : Ans Try.prog 19 [.int .i64 n] (.bool (decide (n > 1099511627776 ∨ n < -1099511627776))) := by
  refine ans_of Try.func19 rfl Try.ntmps19 Try.results19 rfl rfl fun w => ?_
  refine v_seq ?_
  refine v_region ?_
  refine l_val rfl (o_assign rfl) ?_
  refine l_nil ?_
  refine kt_norm ?_
  refine v_seq ?_
  refine v_region ?_
  refine l_val rfl (o_move rfl) ?_
  refine l_split rfl (o_gtr rfl rfl) (fun q1 => ?_) (fun q1 => ?_)
  · first
    | (exfalso; omega; done)
    | (
        refine l_val rfl (o_move rfl) ?_
        refine l_no rfl ?_
        refine l_no rfl ?_
        refine l_val rfl (o_pickT rfl rfl) ?_
        refine l_val rfl (o_assign rfl) ?_
        refine l_nil ?_
        refine kt_norm ?_
        refine v_sel [2] [] rfl rfl ?_
        refine v_ret ?_
        refine ⟨[_], .cons (.tmp rfl) (ResAll.nil), ?_⟩
        exact congrArg Value.bool (by first | exact (decide_eq_true (by omega)).symm | exact (decide_eq_false (by omega)).symm))
  · first
    | (exfalso; omega; done)
    | (
        refine l_val rfl (o_move rfl) ?_
        refine l_val rfl (o_move rfl) ?_
        refine l_split rfl (o_lss rfl rfl) (fun q2 => ?_) (fun q2 => ?_)
        · first
          | (exfalso; omega; done)
          | (
              refine l_val rfl (o_pickF rfl rfl) ?_
              refine l_val rfl (o_assign rfl) ?_
              refine l_nil ?_
              refine kt_norm ?_
              refine v_sel [2] [] rfl rfl ?_
              refine v_ret ?_
              refine ⟨[_], .cons (.tmp rfl) (ResAll.nil), ?_⟩
              exact congrArg Value.bool (by first | exact (decide_eq_true (by omega)).symm | exact (decide_eq_false (by omega)).symm))
        · first
          | (exfalso; omega; done)
          | (
              refine l_val rfl (o_pickF rfl rfl) ?_
              refine l_val rfl (o_assign rfl) ?_
              refine l_nil ?_
              refine kt_norm ?_
              refine v_sel [2] [] rfl rfl ?_
              refine v_ret ?_
              refine ⟨[_], .cons (.tmp rfl) (ResAll.nil), ?_⟩
              exact congrArg Value.bool (by first | exact (decide_eq_true (by omega)).symm | exact (decide_eq_false (by omega)).symm)))
theorem a_bounded20 (w : World) (v : Value) (pvs : List Value) (ps : List (List PtT)) (hv : PcsW v pvs ps) (hat : PcsAt w v pvs ps) : Calls Try.prog 17 #[v] w fun e w' => e = .returned (.bool (decide (Bn20 ps))) ∧ Below w.heap.size w w' := by
  have hVp := hv.V
  have hlen := hv.len
  have hrowP : ∀ w', Chg (fun _ => False) w w' → RowAt w' v 1 ps.length pvs := fun w' h => (hat.keep h).row
  refine calls_of (args := [v]) Try.func17 rfl Try.ntmps17 Try.results17 rfl ?_
  refine v_seq ?_
  refine v_region ?_
  refine l_val rfl (o_assign rfl) ?_
  refine l_nil ?_
  refine kt_norm ?_
  refine v_seq ?_
  refine v_seq ?_
  refine v_region ?_
  refine l_val rfl (o_assign rfl) ?_
  refine l_nil ?_
  refine kt_norm ?_
  refine v_block ?_
  refine v_loopS (α := Nat) (fun i => [(3, .int .i64 (i : Int))]) (fun i => [])  (fun i => i ≤ ps.length ∧ ∀ k, k < i → BndP (ps.getD k [])) (fun i => ps.length - i) 0 [0] [] ⟨by omega, fun k h => by omega⟩  (And.intro rfl (True.intro)) rfl (True.intro) rfl ?_
  rintro i ⟨hi, hB⟩
  refine v_seq ?_
  refine v_seq ?_
  refine v_region ?_
  refine l_val rfl (o_move rfl) ?_
  refine l_val rfl (o_move rfl) ?_
  refine l_val rfl (o_len rfl hVp) ?_
  refine l_split rfl (o_lss rfl rfl) (fun q1 => ?_) (fun q1 => ?_)
  · have hil : i < ps.length := by omega
    obtain ⟨pc, hpc⟩ : ∃ pc, ps.getD i [] = pc := ⟨_, rfl⟩
    have hVq := hv.pV i hil
    have hrowQ : ∀ w', Chg (fun _ => False) w w' → RowAt w' (pvs.getD i undef) 2 (ps.getD i []).length ((ps.getD i []).flatMap eP) := fun w' h => (hat.keep h).pc i hil
    rw [hpc] at hVq hrowQ
    refine l_nil ?_
    refine kt_norm ?_
    refine v_condT rfl ?_
    refine v_skip ?_
    refine kt_norm ?_
    refine v_seq ?_
    refine v_block ?_
    refine v_seq ?_
    refine v_seq ?_
    refine v_region ?_
    refine l_val rfl (o_move rfl) ?_
    refine l_val rfl (o_move rfl) ?_
    refine l_val rfl (o_idx (i) rfl hVp rfl (by first | rfl | omega) (by omega)) ?_
    refine l_val rfl (o_loadR1 rfl (row_imm hrowP) (el_one (by rw [hv.lenv]; exact hil))) ?_
    refine l_val rfl (o_len rfl hVq) ?_
    refine l_split rfl (o_gtr rfl rfl) (fun h16 => ?_) (fun h16 => ?_)
    · skip
      refine l_nil ?_
      refine kt_norm ?_
      refine v_sel [3, 0, 16] [] rfl rfl ?_
      refine v_condT rfl ?_
      refine v_seq ?_
      refine v_region ?_
      refine l_val rfl (o_assign rfl) ?_
      refine l_nil ?_
      refine kt_norm ?_
      refine v_ret ?_
      refine kt_ret ?_
      refine kb_ret ?_
      refine kt_ret ?_
      refine kt_ret ?_
      refine kb_ret ?_
      refine kt_ret ?_
      refine ⟨[_], .cons (.tmp rfl) (ResAll.nil), ?_⟩
      first
        | exact congrArg Value.bool (decide_eq_false fun h => by have := (h.2 i hil).1; rw [hpc] at this; omega).symm
        | exact congrArg Value.bool (decide_eq_false fun h => by have := (h.2 i hil).2 j (by rw [hpc]; exact hjl); rw [hpc] at this; exact absurd this hnr).symm
        | exact congrArg Value.bool (decide_congr ⟨fun h => ⟨by omega, fun k hk => hB k (by omega)⟩, fun h => by have := h.1; omega⟩)
    · skip
      refine l_nil ?_
      refine kt_norm ?_
      refine v_sel [3, 0, 16] [] rfl rfl ?_
      refine v_condF rfl ?_
      refine v_skip ?_
      refine kt_norm ?_
      refine v_seq ?_
      refine v_region ?_
      refine l_val rfl (o_assign rfl) ?_
      refine l_nil ?_
      refine kt_norm ?_
      refine v_block ?_
      refine v_loopS (α := Nat) (fun j => [(4, .int .i64 (j : Int))]) (fun j => [])  (fun j => j ≤ pc.length ∧ ∀ k, k < j → NearT (pc.getD k dP)) (fun j => pc.length - j) 0 [3, 0] [] ⟨by omega, fun k h => by omega⟩  (And.intro rfl (True.intro)) rfl (True.intro) rfl ?_
      rintro j ⟨hj, hN⟩
      refine v_seq ?_
      refine v_seq ?_
      refine v_region ?_
      refine l_val rfl (o_move rfl) ?_
      refine l_val rfl (o_move rfl) ?_
      refine l_val rfl (o_move rfl) ?_
      refine l_val rfl (o_idx (i) rfl hVp rfl (by first | rfl | omega) (by omega)) ?_
      refine l_val rfl (o_loadR1 rfl (row_imm hrowP) (el_one (by rw [hv.lenv]; exact hil))) ?_
      refine l_val rfl (o_len rfl hVq) ?_
      refine l_split rfl (o_lss rfl rfl) (fun q2 => ?_) (fun q2 => ?_)
      · have hjl : j < pc.length := by omega
        refine l_nil ?_
        refine kt_norm ?_
        refine v_sel [4, 3, 0, 23] [] rfl rfl ?_
        refine v_condT rfl ?_
        refine v_skip ?_
        refine kt_norm ?_
        refine v_seq ?_
        refine v_block ?_
        refine v_seq ?_
        refine v_region ?_
        refine l_val rfl (o_move rfl) ?_
        refine l_val rfl (o_move rfl) ?_
        refine l_val rfl (o_idx (i) rfl hVp rfl (by first | rfl | omega) (by omega)) ?_
        refine l_val rfl (o_loadR1 rfl (row_imm hrowP) (el_one (by rw [hv.lenv]; exact hil))) ?_
        refine l_val rfl (o_move rfl) ?_
        refine l_val rfl (o_idx (j) rfl hVq rfl (by first | rfl | omega) (by omega)) ?_
        refine l_val rfl (o_loadRE (c' := [_, _]) rfl (row_imm hrowQ) (el_flat eP_len dP pc (j) (by omega)) rfl) ?_
        refine l_ans (vs := [_]) rfl rfl (a_Near (pc.getD j dP)) ?_
        refine lz_bool (fun hnr => ?_) (fun hnr => ?_)
        · skip
          refine l_val rfl (o_not rfl rfl) ?_
          refine l_nil ?_
          refine kt_norm ?_
          refine v_sel [4, 3, 0, 34] [] rfl rfl ?_
          refine v_condF rfl ?_
          refine v_skip ?_
          refine kb_norm ?_
          refine kt_norm ?_
          refine v_region ?_
          refine l_val rfl (o_move rfl) ?_
          refine l_val rfl (o_addi rfl rfl ?_) ?_
          · omega
          refine l_val rfl (o_assign rfl) ?_
          refine l_nil ?_
          refine kt_norm ?_
          refine ⟨j + 1, ⟨hjl, fun k hk => by rcases Nat.lt_or_eq_of_le (Nat.le_of_lt_succ hk) with h | h; exact hN k h; subst h; assumption⟩, by omega, le_app (And.intro rfl (True.intro)) [3, 0] rfl (True.intro) [] rfl⟩
        · skip
          refine l_val rfl (o_not rfl rfl) ?_
          refine l_nil ?_
          refine kt_norm ?_
          refine v_sel [4, 3, 0, 34] [] rfl rfl ?_
          refine v_condT rfl ?_
          refine v_seq ?_
          refine v_region ?_
          refine l_val rfl (o_assign rfl) ?_
          refine l_nil ?_
          refine kt_norm ?_
          refine v_ret ?_
          refine kb_ret ?_
          refine kt_ret ?_
          refine kt_ret ?_
          refine kb_ret ?_
          refine kb_ret ?_
          refine kt_ret ?_
          refine kt_ret ?_
          refine kb_ret ?_
          refine kt_ret ?_
          refine ⟨[_], .cons (.tmp rfl) (ResAll.nil), ?_⟩
          first
            | exact congrArg Value.bool (decide_eq_false fun h => by have := (h.2 i hil).1; rw [hpc] at this; omega).symm
            | exact congrArg Value.bool (decide_eq_false fun h => by have := (h.2 i hil).2 j (by rw [hpc]; exact hjl); rw [hpc] at this; exact absurd this hnr).symm
            | exact congrArg Value.bool (decide_congr ⟨fun h => ⟨by omega, fun k hk => hB k (by omega)⟩, fun h => by have := h.1; omega⟩)
      · skip
        refine l_nil ?_
        refine kt_norm ?_
        refine v_sel [4, 3, 0, 23] [] rfl rfl ?_
        refine v_condF rfl ?_
        refine v_exit ?_
        refine kt_exit ?_
        refine kt_exit ?_
        refine kb_eq ?_
        refine kb_norm ?_
        refine kt_norm ?_
        refine v_region ?_
        refine l_val rfl (o_move rfl) ?_
        refine l_val rfl (o_addi rfl rfl ?_) ?_
        · omega
        refine l_val rfl (o_assign rfl) ?_
        refine l_nil ?_
        refine kt_norm ?_
        refine ⟨i + 1, ⟨hil, fun k hk => by rcases Nat.lt_or_eq_of_le (Nat.le_of_lt_succ hk) with h | h; exact hB k h; subst h; rw [hpc]; exact ⟨by omega, fun m hm => hN m (by omega)⟩⟩, by omega, le_app (And.intro rfl (True.intro)) [0] rfl (True.intro) [] rfl⟩
  · skip
    refine l_nil ?_
    refine kt_norm ?_
    refine v_condF rfl ?_
    refine v_exit ?_
    refine kt_exit ?_
    refine kt_exit ?_
    refine kb_eq ?_
    refine kt_norm ?_
    refine v_seq ?_
    refine v_region ?_
    refine l_val rfl (o_move rfl) ?_
    refine l_val rfl (o_len rfl hVp) ?_
    refine l_val rfl (o_leq rfl rfl) ?_
    refine l_val rfl (o_assign rfl) ?_
    refine l_nil ?_
    refine kt_norm ?_
    refine v_sel [2] [] rfl rfl ?_
    refine v_ret ?_
    refine ⟨[_], .cons (.tmp rfl) (ResAll.nil), ?_⟩
    first
      | exact congrArg Value.bool (decide_eq_false fun h => by have := (h.2 i hil).1; rw [hpc] at this; omega).symm
      | exact congrArg Value.bool (decide_eq_false fun h => by have := (h.2 i hil).2 j (by rw [hpc]; exact hjl); rw [hpc] at this; exact absurd this hnr).symm
      | exact congrArg Value.bool (decide_congr ⟨fun h => ⟨by omega, fun k hk => hB k (by omega)⟩, fun h => by have := h.1; omega⟩)
theorem a_allX (w : World) (v : Value) (pvs : List Value) (ps : List (List PtT)) (hb : BndX ps) (hv : PcsV v pvs ps) (hat : PcsAt w v pvs ps) :
    Calls Try.prog 23 #[v] w fun e w' => ∃ y, e = .returned y ∧ Below w.heap.size w w' ∧ OwnAt w.heap.size w' y 68 7 (edgesAll ps).length ((edgesAll ps).flatMap eE) := by
  have hVp := hv.V
  have hlen := hv.len
  have hrowP : ∀ w', Chg (fun _ => False) w w' → RowAt w' v 1 ps.length pvs := fun w' h => (hat.keep h).row
  refine calls_own (args := [v]) Try.func23 rfl Try.ntmps23 Try.results23 rfl ?_
  refine v_seq ?_
  refine v_region ?_
  refine l_val rfl (o_assign rfl) ?_
  refine l_nil ?_
  refine kt_norm ?_
  refine v_seq ?_
  refine v_region ?_
  refine l_buildSlice (vs := []) (cs := []) rfl rfl rfl rfl rfl rfl fun v5 hv5 => ?_
  refine l_val rfl (o_assign rfl) ?_
  refine l_nil ?_
  refine kt_norm ?_
  refine v_seq ?_
  refine v_seq ?_
  refine v_region ?_
  refine l_val rfl (o_assign rfl) ?_
  refine l_nil ?_
  refine kt_norm ?_
  refine v_block ?_
  refine v_ren 5 18 [] rfl rfl rfl ?_
  refine v_loopS (α := Nat × Value) (fun ⟨i, v3⟩ => [(4, .int .i64 (i : Int)), (3, v3)]) (fun ⟨i, v3⟩ => [(18, Hp.own v3 68 7 (edgesAll (ps.take i)).length ((edgesAll (ps.take i)).flatMap eE))])  (fun ⟨i, v3⟩ => i ≤ ps.length ∧ RowV v3 (edgesAll (ps.take i)).length) (fun ⟨i, v3⟩ => ps.length - i) (0, v5) [0] [] ⟨Nat.zero_le _, hv5⟩  (And.intro rfl (And.intro rfl (True.intro))) rfl (And.intro rfl (True.intro)) rfl ?_
  rintro ⟨i, v3⟩ ⟨hi, hv3⟩
  refine v_seq ?_
  refine v_seq ?_
  refine v_region ?_
  refine l_val rfl (o_move rfl) ?_
  refine l_val rfl (o_move rfl) ?_
  refine l_val rfl (o_len rfl hVp) ?_
  refine l_split rfl (o_lss rfl rfl) (fun q1 => ?_) (fun q1 => ?_)
  · have hil : i < ps.length := by omega
    obtain ⟨pc, hpc⟩ : ∃ pc, ps.getD i [] = pc := ⟨_, rfl⟩
    have hVq := hv.pV i hil
    have hnear := hv.near i hil
    have hbi := (hb.2 i hil).1
    have hrowQ : ∀ w', Chg (fun _ => False) w w' → RowAt w' (pvs.getD i undef) 2 (ps.getD i []).length ((ps.getD i []).flatMap eP) := fun w' h => (hat.keep h).pc i hil
    rw [hpc] at hVq hnear hrowQ hbi
    have hofl := edgesTo_len pc pc.length
    have hofe : (edgesTo pc pc.length).length = (edgesOf pc).length := rfl
    have hall := all_split hil 0
    rw [List.take_zero, List.append_nil] at hall
    have h320 := edgesAll_lenX hb
    have hsu := all_take_succ hil
    rw [hpc] at hsu
    refine l_nil ?_
    refine kt_norm ?_
    refine v_condT rfl ?_
    refine v_skip ?_
    refine kt_norm ?_
    refine v_seq ?_
    refine v_block ?_
    refine v_region ?_
    refine l_val rfl (o_move rfl) ?_
    refine l_val rfl (o_move rfl) ?_
    refine l_val rfl (o_move rfl) ?_
    refine l_val rfl (o_idx (i) rfl hVp rfl (by first | rfl | omega) (by omega)) ?_
    refine l_val rfl (o_loadR1 rfl (row_imm hrowP) (el_one (by rw [hv.lenv]; exact hil))) ?_
    refine l_gown (ks := []) (caps := #[]) (vs := [_]) rfl rfl (ent_of Try.func42 rfl rfl) rfl (fun w' hg hh => a_OfE w' (pvs.getD i undef) pc (by omega) hVq (hrowQ w' hg) hnear) fun v17 hv17 => ?_
    refine l_append 18 [17] rfl rfl rfl rfl rfl rfl rfl hv17 (row_own (key := 17) rfl) (by omega) fun v18 hv18 => ?_
    refine l_val rfl (o_assign rfl) ?_
    refine l_nil ?_
    refine kb_norm ?_
    refine kt_norm ?_
    refine v_sel [4, 3, 0] [18] rfl rfl ?_
    refine v_region ?_
    refine l_val rfl (o_move rfl) ?_
    refine l_val rfl (o_addi rfl rfl ?_) ?_
    · omega
    refine l_val rfl (o_assign rfl) ?_
    refine l_nil ?_
    refine kt_norm ?_
    refine ⟨(i + 1, v18), ⟨hil, by rw [hsu, List.length_append]; exact hv18⟩, (by show ps.length - (i + 1) < ps.length - i; omega), le_app (And.intro rfl (And.intro rfl (True.intro))) [0] rfl (And.intro (congrArg some (own_congr (by rw [hsu, List.length_append]) (by rw [hsu, List.flatMap_append]))) (True.intro)) [] rfl⟩
  · skip
    refine l_nil ?_
    refine kt_norm ?_
    refine v_condF rfl ?_
    refine v_exit ?_
    refine kt_exit ?_
    refine kt_exit ?_
    refine kb_eq ?_
    refine kt_norm ?_
    refine v_sel [3] [18] rfl rfl ?_
    refine v_seq ?_
    refine v_region ?_
    obtain rfl : i = ps.length := by omega
    refine l_val rfl (o_move rfl) ?_
    refine l_val rfl (o_assign rfl) ?_
    refine l_nil ?_
    refine kt_norm ?_
    refine v_ret ?_
    refine ⟨[_], .cons (.tmp rfl) (ResAll.nil), ?_⟩
    exact ⟨18, congrArg some (own_congr (by rw [List.take_length]) (by rw [List.take_length]))⟩
theorem a_all (w : World) (v : Value) (pvs : List Value) (ps : List (List PtT)) (hb : Bnd ps) (hv : PcsV v pvs ps) (hat : PcsAt w v pvs ps) :
    Calls Try.prog 23 #[v] w fun e w' => ∃ y, e = .returned y ∧ Below w.heap.size w w' ∧ OwnAt w.heap.size w' y 68 7 (edgesAll ps).length ((edgesAll ps).flatMap eE) := a_allX w v pvs ps hb.x hv hat
end Go.Proofs.Ytllhohbenniaaaa

/- Two squares, looked at; spans rise; what is clipped has just what lies between. Conditions: none. -/
namespace Go.Proofs.Ytllhohbenniaaaa
open Go.Proofs Go.RowKit Go.Shelf

theorem pcsV_two {v p q : Value} {pc qc : List PtT} (h : RowV v 2) (hp : RowV p pc.length) (hq : RowV q qc.length) (hs : pc.length ≤ 1000000) (hs' : qc.length ≤ 1000000) (hn : ∀ p ∈ pc, NearT p) (hn' : ∀ p ∈ qc, NearT p) : PcsV v [p, q] [pc, qc] :=
  ⟨h, rfl, (show 2 ≤ 1099511627776 by omega), fun i hi => by match i, hi with | 0, _ => exact hp | 1, _ => exact hq | n + 2, h => exact absurd h (by show ¬ n + 2 < 2; omega), fun i hi => by match i, hi with | 0, _ => show pc.length ≤ _; omega | 1, _ => show qc.length ≤ _; omega | n + 2, h => exact absurd h (by show ¬ n + 2 < 2; omega), fun i hi => by match i, hi with | 0, _ => exact hn | 1, _ => exact hn' | n + 2, h => exact absurd h (by show ¬ n + 2 < 2; omega)⟩
theorem pcsAt_two {w : World} {v p q : Value} {pc qc : List PtT} (h : RowAt w v 1 2 [p, q]) (h1 : RowAt w p 2 pc.length (pc.flatMap eP)) (h2 : RowAt w q 2 qc.length (qc.flatMap eP)) : PcsAt w v [p, q] [pc, qc] :=
  ⟨h, fun i hi => by match i, hi with | 0, _ => exact h1 | 1, _ => exact h2 | n + 2, h => exact absurd h (by show ¬ n + 2 < 2; omega)⟩
def sqA : List PtT := [⟨0, 0⟩, ⟨32, 0⟩, ⟨32, 32⟩, ⟨0, 32⟩]
def sqB : List PtT := [⟨32, 0⟩, ⟨64, 0⟩, ⟨64, 32⟩, ⟨32, 32⟩]
def tb20 : List EdgeT := [⟨32, 0, 0, 32, 1, 0, 2⟩, ⟨0, 0, 0, 32, -1, 0, 2⟩, ⟨64, 0, 0, 32, 1, 0, 2⟩, ⟨32, 0, 0, 32, -1, 0, 2⟩]
theorem tab20 : tabT 0 0 1 1 [sqA, sqB] = tb20 := by unfold tabT; rw [if_pos (by decide)]; rfl
theorem nearA : ∀ p ∈ sqA, NearT p := by decide
theorem nearB : ∀ p ∈ sqB, NearT p := by decide
theorem bndAB : Bnd [sqA, sqB] := by decide
theorem sp20 : rowS (crs 1 (liveT 1 tb20)) = [⟨0, 64⟩] := by rfl
theorem cr20 : ∀ e ∈ liveT 1 tb20, CrossOk 1 e := fun e he => by
  have h : liveT 1 tb20 = tb20 := by rfl
  rw [h] at he
  simp only [tb20, List.mem_cons, List.not_mem_nil, or_false] at he
  rcases he with rfl | rfl | rfl | rfl <;> exact ⟨by decide, by decide, by decide, by decide, by decide, by decide, by decide, by first | exact .inl rfl | exact .inr rfl⟩
theorem a_Tab20 (w : World) (v p q : Value) (hV : RowV v 2) (hp : RowV p 4) (hq : RowV q 4) (h : RowAt w v 1 2 [p, q]) (h1 : RowAt w p 2 4 (sqA.flatMap eP)) (h2 : RowAt w q 2 4 (sqB.flatMap eP)) :
    Calls Try.prog 29 #[v, .agg #[.int .i64 0, .int .i64 0, .int .i64 1, .int .i64 1]] w fun e w' => ∃ y, e = .returned y ∧ Below w.heap.size w w' ∧ OwnAt w.heap.size w' y 68 7 4 (tb20.flatMap eE) := by
  have := a_TableT w v [p, q] [sqA, sqB] 0 0 1 1 bndAB (pcsV_two hV hp hq (by decide) (by decide) nearA nearB) (pcsAt_two h h1 h2)
  rw [tab20] at this
  exact this
theorem a_Row20 (w : World) (v : Value) (hV : RowV v 4) (hrow : RowAt w v 7 4 (tb20.flatMap eE)) : Calls Try.prog 22 #[v, .int .i64 1] w fun e w' => ∃ y, e = .returned y ∧ Below w.heap.size w w' ∧ OwnAt w.heap.size w' y 74 2 1 [.int .i64 0, .int .i64 64] := by
  have := a_Spans w v tb20 1 (by decide) hV hrow cr20
  rw [sp20] at this
  exact this
theorem a_Clip20 (w : World) (v : Value) (hV : RowV v 1) (hrow : RowAt w v 2 1 [.int .i64 0, .int .i64 64]) : Calls Try.prog 35 #[v, .int .i64 5, .int .i64 20] w fun e w' => ∃ y, e = .returned y ∧ Below w.heap.size w w' ∧ OwnAt w.heap.size w' y 74 2 1 [.int .i64 5, .int .i64 20] :=
  a_Clip w v [⟨0, 64⟩] 5 20 (by decide) hV hrow
theorem a_Sum20 (w : World) (v : Value) (hV : RowV v 1) (hrow : RowAt w v 2 1 [.int .i64 5, .int .i64 20]) : Calls Try.prog 25 #[v] w fun e w' => e = .returned (.int .i64 15) ∧ Below w.heap.size w w' :=
  a_Sum w v [⟨5, 20⟩] (by decide) (fun s hs => by rw [List.mem_singleton.1 hs]; decide) hV hrow
theorem a_HasY (w : World) (v : Value) (hV : RowV v 1) (hrow : RowAt w v 2 1 [.int .i64 0, .int .i64 64]) : Calls Try.prog 24 #[v, .int .i64 63] w fun e w' => e = .returned (.bool true) ∧ Below w.heap.size w w' :=
  a_Has w v [⟨0, 64⟩] 63 (by decide) hV hrow
theorem a_HasN (w : World) (v : Value) (hV : RowV v 1) (hrow : RowAt w v 2 1 [.int .i64 0, .int .i64 64]) : Calls Try.prog 24 #[v, .int .i64 64] w fun e w' => e = .returned (.bool false) ∧ Below w.heap.size w w' :=
  a_Has w v [⟨0, 64⟩] 64 (by decide) hV hrow
theorem rise_getD {cs : List (Int × Int)} {i j : Nat} (hij : i < j) (hj : j < (rowS cs).length) : ((rowS cs).getD i dS).to < ((rowS cs).getD j dS).fr := by
  have := List.pairwise_iff_getElem.1 (rowQ cs _ (Nat.le_refl _)).rise i j (show i < (rowS cs).length by omega) hj hij
  rw [List.getD_eq_getElem?_getD, List.getD_eq_getElem?_getD, List.getElem?_eq_getElem hj, List.getElem?_eq_getElem (show i < (rowS cs).length by omega)]
  exact this
theorem hasS_hi {l : List SpanT} {B x : Int} (h : ∀ s ∈ l, s.to ≤ B) (hx : B ≤ x) : hasS l x = false := by
  unfold hasS
  rw [List.any_eq_false]
  intro s hs
  have := h s hs
  simp only [Bool.and_eq_true, decide_eq_true_eq]
  omega
theorem sp_mem {l : List SpanT} {i : Nat} (h : i < l.length) : l.getD i dS ∈ l := by
  rw [List.getD_eq_getElem?_getD, List.getElem?_eq_getElem h]; exact List.getElem_mem h
theorem a_shown20  : Ans Try.prog 20 [] (.bool true) := by
  refine ans_of Try.func20 rfl Try.ntmps20 Try.results20 rfl rfl fun w => ?_
  refine v_seq ?_
  refine v_region ?_
  refine l_val rfl (o_assign rfl) ?_
  refine l_nil ?_
  refine kt_norm ?_
  refine v_seq ?_
  refine v_region ?_
  refine l_val rfl (o_build (vs := []) (cs := [_, _]) rfl rfl) ?_
  refine l_val rfl (o_build (vs := [_]) (cs := [_, _]) rfl rfl) ?_
  refine l_val rfl (o_build (vs := [_, _]) (cs := [_, _]) rfl rfl) ?_
  refine l_val rfl (o_build (vs := [_]) (cs := [_, _]) rfl rfl) ?_
  refine l_buildSlice (vs := [_, _, _, _]) (cs := [_, _, _, _, _, _, _, _]) rfl rfl rfl rfl rfl rfl fun v7 hv7 => ?_
  refine l_val rfl (o_build (vs := [_]) (cs := [_, _]) rfl rfl) ?_
  refine l_val rfl (o_build (vs := [_]) (cs := [_, _]) rfl rfl) ?_
  refine l_val rfl (o_build (vs := [_, _]) (cs := [_, _]) rfl rfl) ?_
  refine l_val rfl (o_build (vs := [_, _]) (cs := [_, _]) rfl rfl) ?_
  refine l_buildSlice (vs := [_, _, _, _]) (cs := [_, _, _, _, _, _, _, _]) rfl rfl rfl rfl rfl rfl fun v12 hv12 => ?_
  obtain ⟨a7, c7, rfl⟩ := hv7.sl
  obtain ⟨a12, c12, rfl⟩ := hv12.sl
  refine l_buildSlice (vs := [_, _]) (cs := [_, _]) rfl rfl rfl rfl rfl rfl fun v13 hv13 => ?_
  refine l_val rfl (o_assign rfl) ?_
  refine l_nil ?_
  refine kt_norm ?_
  refine v_sel [1] [7, 12, 13] rfl rfl ?_
  refine v_seq ?_
  refine v_region ?_
  refine l_val rfl (o_move rfl) ?_
  refine l_val rfl (o_build (vs := [_, _]) (cs := [_, _, _, _]) rfl rfl) ?_
  refine l_gown (ks := [7, 12, 13]) (caps := #[]) (vs := [_, _]) rfl rfl (ent_of Try.func29 rfl rfl) rfl (fun w' hg hh => a_Tab20 w' v13 _ _ hv13 hv7 hv12 (rowAt_own (hh 13 (by simp) _ rfl)) (rowAt_own (hh 7 (by simp) _ rfl)) (rowAt_own (hh 12 (by simp) _ rfl))) fun tt htt => ?_
  refine l_gown (ks := [16]) (caps := #[]) (vs := [_, _]) rfl rfl (ent_of Try.func22 rfl rfl) rfl (fun w' hg hh => a_Row20 w' tt htt (rowAt_own (hh 16 (by simp) _ rfl))) fun ys hys => ?_
  refine l_val rfl (o_assign rfl) ?_
  refine l_nil ?_
  refine kt_norm ?_
  refine v_seq ?_
  refine v_region ?_
  refine l_val rfl (o_move rfl) ?_
  refine l_val rfl (o_len rfl hys) ?_
  refine l_val rfl (o_eql rfl rfl) ?_
  refine l_val rfl (o_move rfl) ?_
  refine l_val rfl (o_move rfl) ?_
  refine l_val rfl (o_idx (0) rfl hys rfl (by first | rfl | omega) (by decide)) ?_
  refine l_val rfl (o_loadRE (c' := [_, _]) rfl (row_own (key := 17) rfl) (el_lit (esz := 2) (i := 0) (c := [_, _]) rfl rfl) rfl) ?_
  refine l_val rfl (o_build (vs := [_, _]) (cs := [_, _]) rfl rfl) ?_
  refine l_split rfl (o_eqs (xl := [_, _]) (yl := [_, _]) (az := [_, _]) (bz := [_, _]) rfl rfl rfl rfl rfl rfl) (fun _ => ?_) (fun q2 => absurd rfl q2)
  refine l_val rfl (o_pickT rfl rfl) ?_
  refine l_val rfl (o_move rfl) ?_
  refine l_val rfl (o_move rfl) ?_
  refine l_gown (ks := [17]) (caps := #[]) (vs := [_, _, _]) rfl rfl (ent_of Try.func35 rfl rfl) rfl (fun w' hg hh => a_Clip20 w' ys hys (rowAt_own (hh 17 (by simp) _ rfl))) fun yc hyc => ?_
  refine l_call (ks := [30]) rfl (o_callC (vs := [_]) (r := .int .i64 15) (ent_of Try.func25 rfl rfl) rfl (fun w' hg hh => a_Sum20 w' yc hyc (rowAt_own (hh 30 (by simp) _ rfl)))) ?_
  refine l_val rfl (o_eql rfl rfl) ?_
  refine l_val rfl (o_pickT rfl rfl) ?_
  refine l_val rfl (o_move rfl) ?_
  refine l_val rfl (o_move rfl) ?_
  refine l_call (ks := [17]) rfl (o_callC (vs := [_, _]) (r := .bool true) (ent_of Try.func24 rfl rfl) rfl (fun w' hg hh => a_HasY w' ys hys (rowAt_own (hh 17 (by simp) _ rfl)))) ?_
  refine l_val rfl (o_pickT rfl rfl) ?_
  refine l_val rfl (o_move rfl) ?_
  refine l_val rfl (o_move rfl) ?_
  refine l_call (ks := [17]) rfl (o_callC (vs := [_, _]) (r := .bool false) (ent_of Try.func24 rfl rfl) rfl (fun w' hg hh => a_HasN w' ys hys (rowAt_own (hh 17 (by simp) _ rfl)))) ?_
  refine l_val rfl (o_not rfl rfl) ?_
  refine l_val rfl (o_pickT rfl rfl) ?_
  refine l_val rfl (o_assign rfl) ?_
  refine l_nil ?_
  refine kt_norm ?_
  refine v_sel [0] [7, 12, 13] rfl rfl ?_
  refine v_ret ?_
  refine ⟨[_], .cons (.tmp rfl) (ResAll.nil), ?_⟩
  rfl


end Go.Proofs.Ytllhohbenniaaaa

/- Pieces that are shifted by whole pixels have shifted spans. Conditions: none. -/
namespace Go.Proofs.Ytllhohbenniaaaa
open Go.Proofs Go.RowKit Go.Shelf

def shPs (bx by_ : Int) (ps : List (List PtT)) : List (List PtT) := ps.map fun pc => pc.map (shP bx by_)
theorem shPs_getD {bx by_ : Int} {ps : List (List PtT)} {i : Nat} (h : i < ps.length) : (shPs bx by_ ps).getD i [] = (ps.getD i []).map (shP bx by_) := by
  unfold shPs
  rw [List.getD_eq_getElem?_getD, List.getD_eq_getElem?_getD, List.getElem?_map, List.getElem?_eq_getElem h]; rfl
theorem edgesAll_shift (bx d : Int) : ∀ ps : List (List PtT), edgesAll (shPs bx (256 * d) ps) = (edgesAll ps).map (shE bx d)
  | [] => rfl
  | pc :: r => by
    have ih := edgesAll_shift bx d r
    simp only [shPs, edgesAll, List.map_cons, List.flatMap_cons, List.map_append] at ih ⊢
    rw [edgesOf_shift, ih]
theorem live_shift (bx d r : Int) : ∀ es : List EdgeT, liveT (r + 16 * d) (es.map (shE bx d)) = (liveT r es).map (shE bx d)
  | [] => rfl
  | e :: es => by
    have ih := live_shift bx d r es
    unfold liveT at ih ⊢
    rw [List.map_cons]
    by_cases h : r < e.fr ∨ r ≥ e.to
    · rw [List.filter_cons_of_neg (by simp [shE]; omega), List.filter_cons_of_neg (by simp; omega), ih]
    · rw [List.filter_cons_of_pos (by simp [shE]; omega), List.filter_cons_of_pos (by simp; omega), List.map_cons, ih]
theorem crs_shift (bx d r : Int) (es : List EdgeT) : crs (r + 16 * d) (es.map (shE bx d)) = (crs r es).map (shC bx) := by
  unfold crs
  rw [List.map_map, List.map_map]
  refine List.map_congr_left fun e _ => ?_
  simp only [Function.comp, at_shift, shC]
  rfl
theorem row_shift (bx d r : Int) (ps : List (List PtT)) : rowS (crs (r + 16 * d) (liveT (r + 16 * d) (edgesAll (shPs bx (256 * d) ps)))) = (rowS (crs r (liveT r (edgesAll ps)))).map (shS bx) := by
  rw [edgesAll_shift, live_shift, crs_shift, rowS_sh]
theorem sp_map {bx : Int} {l : List SpanT} {i : Nat} (h : i < l.length) : (l.map (shS bx)).getD i dS = shS bx (l.getD i dS) := by
  rw [List.getD_eq_getElem?_getD, List.getD_eq_getElem?_getD, List.getElem?_map, List.getElem?_eq_getElem h]; rfl
theorem shp_snoc {bx by_ : Int} {pc : List PtT} {i : Nat} (hi : i < pc.length) : ((pc.take i).map (shP bx by_)).flatMap eP ++ [.int .i64 ((pc.getD i dP).x + bx), .int .i64 ((pc.getD i dP).y + by_)] = ((pc.take (i + 1)).map (shP bx by_)).flatMap eP := by
  rw [List.take_add_one, List.map_append, List.flatMap_append, List.getElem?_eq_getElem hi, List.getD_eq_getElem?_getD, List.getElem?_eq_getElem hi]
  rfl
/-- the i-th shifted row, as it lies -/
def shHp (T : TypeId) (bx by_ : Int) (v : Value) (pc : List PtT) : Hp := .own v T 2 pc.length ((pc.map (shP bx by_)).flatMap eP)
/-- rows made one by one: what they are, that they lie still -/
structure MadeQ (T : TypeId) (bx by_ : Int) (ps : List (List PtT)) (i : Nat) (qvs : List Value) (fs : List Hp) : Prop where
  len : qvs.length = i
  le : i ≤ ps.length
  V : ∀ j, j < i → RowV (qvs.getD j undef) (ps.getD j []).length
  mem : ∀ j, j < i → shHp T bx by_ (qvs.getD j undef) (ps.getD j []) ∈ fs
theorem MadeQ.start {T : TypeId} {bx by_ : Int} {ps : List (List PtT)} : MadeQ T bx by_ ps 0 [] [] := ⟨rfl, Nat.zero_le _, fun j h => by omega, fun j h => by omega⟩
theorem getD_snoc {l : List Value} {v : Value} {j : Nat} : (l ++ [v]).getD j undef = if j = l.length then v else l.getD j undef := by
  rw [List.getD_eq_getElem?_getD, List.getD_eq_getElem?_getD, List.getElem?_append]
  split
  · rw [if_neg (by omega)]
  · split
    · rename_i h1 h2; subst h2; simp
    · rw [List.getElem?_eq_none (by simp; omega), List.getElem?_eq_none (by omega)]
theorem MadeQ.step {T : TypeId} {bx by_ : Int} {ps : List (List PtT)} {i : Nat} {qvs : List Value} {fs : List Hp} (h : MadeQ T bx by_ ps i qvs fs) (hi : i < ps.length) {v : Value} (hv : RowV v (ps.getD i []).length) : MadeQ T bx by_ ps (i + 1) (qvs ++ [v]) (shHp T bx by_ v (ps.getD i []) :: fs) := by
  refine ⟨by rw [List.length_append, h.len]; rfl, hi, fun j hj => ?_, fun j hj => ?_⟩
  · rw [getD_snoc, h.len]
    split
    · rename_i e; subst e; exact hv
    · exact h.V j (by omega)
  · rw [getD_snoc, h.len]
    split
    · rename_i e; subst e; exact List.mem_cons_self
    · exact List.mem_cons_of_mem _ (h.mem j (by omega))
theorem MadeQ.pcsW {T : TypeId} {bx by_ : Int} {ps : List (List PtT)} {qvs : List Value} {fs : List Hp} (h : MadeQ T bx by_ ps ps.length qvs fs) {v : Value} (hv : RowV v ps.length) (hl : ps.length ≤ 9223372036854775807) : PcsW v qvs (shPs bx by_ ps) := by
  have e : (shPs bx by_ ps).length = ps.length := by simp [shPs]
  refine ⟨by rw [e]; exact hv, by rw [e]; exact h.len, by rw [e]; exact hl, fun i hi => ?_⟩
  rw [e] at hi
  rw [shPs_getD hi, List.length_map]
  exact h.V i hi
theorem MadeQ.pcsAt {T : TypeId} {bx by_ : Int} {ps : List (List PtT)} {qvs : List Value} {fs : List Hp} (h : MadeQ T bx by_ ps ps.length qvs fs) {v : Value} {g0 : World → Prop} {w : World} (hg : gF g0 fs w) (hr : RowAt w v 1 ps.length qvs) : PcsAt w v qvs (shPs bx by_ ps) := by
  have e : (shPs bx by_ ps).length = ps.length := by simp [shPs]
  refine ⟨by rw [e]; exact hr, fun i hi => ?_⟩
  rw [e] at hi
  rw [shPs_getD hi, List.length_map]
  exact rowAt_own (gF_mem fs (h.mem i hi) hg)

end Go.Proofs.Ytllhohbenniaaaa

/- The spans as the document has them. Conditions: none. -/
namespace Go.Proofs.Ytllhohbenniaaaa
open Go.Proofs Go.RowKit Go.Shelf

def eC (c : Int × Int) : List Value := [.int .i64 c.1, .int .i64 c.2]
def dC : Int × Int := (0, 0)
theorem eC_len (c : Int × Int) : (eC c).length = 2 := rfl
theorem takeSnoc {α : Type} {l : List α} {i : Nat} (d : α) (h : i < l.length) : l.take (i + 1) = l.take i ++ [l.getD i d] := by
  rw [List.take_add_one, List.getElem?_eq_getElem h, List.getD_eq_getElem?_getD, List.getElem?_eq_getElem h]; rfl
theorem sumTo_snoc (cs : List (Int × Int)) (c : Int × Int) (x : Int) : sumTo (cs ++ [c]) x = sumTo cs x + if c.1 ≤ x then c.2 else 0 := by
  unfold sumTo; rw [sumF_append]; simp [sumF]
theorem sumTo_bound {cs : List (Int × Int)} (h : WiOk cs) (x : Int) : -(cs.length : Int) ≤ sumTo cs x ∧ sumTo cs x ≤ cs.length :=
  sumF_bound cs fun c hc => by have := h c hc; split <;> omega
theorem wiOk_getD {cs : List (Int × Int)} (h : WiOk cs) {i : Nat} (hi : i < cs.length) : (cs.getD i dC).2 = 1 ∨ (cs.getD i dC).2 = -1 := by
  rw [List.getD_eq_getElem?_getD, List.getElem?_eq_getElem hi]; exact h _ (List.getElem_mem hi)
theorem crs_get {r : Int} {es : List EdgeT} {i : Nat} (h : i < es.length) : (crs r es).getD i dC = (atE (es.getD i dE) r, (es.getD i dE).wi) := by
  rw [List.getD_eq_getElem?_getD, crs_getD h]; rfl
/-- a place is put in its order -/
theorem keys_put {cs : List (Int × Int)} {c : Int × Int} {j : Nat} (h1 : j ≤ (keysOf cs).length) (h2 : ∀ k, k < j → (keysOf cs).getD k 0 < c.1) (h3 : j < (keysOf cs).length → ¬ (keysOf cs).getD j 0 < c.1) (h4 : j < (keysOf cs).length → (keysOf cs).getD j 0 ≠ c.1) : keysOf (cs ++ [c]) = (keysOf cs).take j ++ c.1 :: (keysOf cs).drop j := by
  rw [keysOf_snoc, insU_at _ j h1 h2 h3, if_neg fun h => h4 h.1 h.2]
theorem keys_has {cs : List (Int × Int)} {c : Int × Int} {j : Nat} (h1 : j < (keysOf cs).length) (h2 : ∀ k, k < j → (keysOf cs).getD k 0 < c.1) (h4 : (keysOf cs).getD j 0 = c.1) : keysOf (cs ++ [c]) = keysOf cs := by
  rw [keysOf_snoc, insU_at _ j (Nat.le_of_lt h1) h2 (fun _ => by omega), if_pos ⟨h1, h4⟩]
theorem keys_flat {l l' : List Int} {x : Int} {j : Nat} (h : l' = l.take j ++ x :: l.drop j) : [] ++ (l.map (Value.int .i64)).take (j * 1) ++ [.int .i64 x] ++ (l.map (Value.int .i64)).drop (j * 1) = l'.map (Value.int .i64) := by
  subst h; simp [List.map_take, List.map_drop]
theorem keys_len {l l' : List Int} {x : Int} {j : Nat} (h : l' = l.take j ++ x :: l.drop j) (hj : j ≤ l.length) : 0 + j + 1 + (l.length - j) = l'.length := by
  subst h; simp [List.length_take, List.length_drop]; omega
theorem doc0 {cs : List (Int × Int)} {k : Nat} (h : sumTo cs ((keysOf cs).getD k 0) = 0) : docTo cs (k + 1) = docTo cs k := by
  rw [docTo_succ, docStep, if_pos h]
theorem last_getD {o : List SpanT} (h : 0 < o.length) : o.getLast? = some (o.getD (o.length - 1) dS) := by
  rw [List.getLast?_eq_getElem?, List.getD_eq_getElem?_getD, List.getElem?_eq_getElem (show o.length - 1 < o.length by omega)]; rfl
theorem doc1 {cs : List (Int × Int)} {k : Nat} (h : ¬ sumTo cs ((keysOf cs).getD k 0) = 0) (h0 : 0 < (docTo cs k).length) (h1 : ((docTo cs k).getD ((docTo cs k).length - 1) dS).to = (keysOf cs).getD k 0) :
    docTo cs (k + 1) = (docTo cs k).dropLast ++ [⟨((docTo cs k).getD ((docTo cs k).length - 1) dS).fr, (keysOf cs).getD (k + 1) 0⟩] := by
  rw [docTo_succ, docStep, if_neg h, last_getD h0]; simp only; rw [if_pos h1]
theorem doc2 {cs : List (Int × Int)} {k : Nat} (h : ¬ sumTo cs ((keysOf cs).getD k 0) = 0) (h1 : 0 < (docTo cs k).length → ¬ ((docTo cs k).getD ((docTo cs k).length - 1) dS).to = (keysOf cs).getD k 0) :
    docTo cs (k + 1) = docTo cs k ++ [⟨(keysOf cs).getD k 0, (keysOf cs).getD (k + 1) 0⟩] := by
  rw [docTo_succ, docStep, if_neg h]
  rcases Nat.eq_zero_or_pos (docTo cs k).length with h0 | h0
  · rw [List.eq_nil_of_length_eq_zero h0]; rfl
  · rw [last_getD h0]; simp only; rw [if_neg (h1 h0)]
theorem docTo_len (cs : List (Int × Int)) : ∀ k, (docTo cs k).length ≤ k
  | 0 => Nat.le_refl _
  | k + 1 => by
    have ih := docTo_len cs k
    by_cases h : sumTo cs ((keysOf cs).getD k 0) = 0
    · rw [doc0 h]; omega
    · by_cases h1 : 0 < (docTo cs k).length ∧ ((docTo cs k).getD ((docTo cs k).length - 1) dS).to = (keysOf cs).getD k 0
      · rw [doc1 h h1.1 h1.2, List.length_append, List.length_dropLast]; simp; omega
      · rw [doc2 h fun h0 h2 => h1 ⟨h0, h2⟩, List.length_append]; simp; omega
theorem flat_last : ∀ {o : List SpanT} {y : Int}, 0 < o.length → (o.flatMap eS).take ((o.length - 1) * 2 + 1) ++ [.int .i64 y] ++ (o.flatMap eS).drop ((o.length - 1) * 2 + 1 + 1) = (o.dropLast ++ [(⟨(o.getD (o.length - 1) dS).fr, y⟩ : SpanT)]).flatMap eS
  | [], _, h => by simp at h
  | [s], y, _ => rfl
  | s :: t :: r, y, _ => by
    have ih := flat_last (o := t :: r) (y := y) (by simp)
    have e : ((s :: t :: r).length - 1) * 2 = ((t :: r).length - 1) * 2 + 2 := by simp [List.length_cons]; omega
    have e2 : (s :: t :: r).getD ((s :: t :: r).length - 1) dS = (t :: r).getD ((t :: r).length - 1) dS := by simp [List.length_cons]
    rw [e, e2, List.dropLast_cons_cons, List.cons_append]
    conv => rhs; rw [List.flatMap_cons, ← ih]
    have e3 : ((t :: r).length - 1) * 2 + 2 + 1 = (((t :: r).length - 1) * 2 + 1) + 1 + 1 := by omega
    rw [e3]
    rfl
theorem dropLast_len {o : List SpanT} {s : SpanT} (h : 0 < o.length) : o.length = (o.dropLast ++ [s]).length := by rw [List.length_append, List.length_dropLast]; simp; omega
theorem crs_flat_snoc {cs : List (Int × Int)} {c : Int × Int} : cs.flatMap eC ++ eC c = (cs ++ [c]).flatMap eC := by simp
theorem zeroSum_crs (r : Int) (es : List EdgeT) : sumF (fun c => c.2) (crs r es) = windSum es := by
  unfold crs
  rw [sumF_map]
  induction es with
  | nil => rfl
  | cons e es ih => simp only [sumF, windSum, List.map_cons, List.sum_cons] at *; rw [ih]
theorem wind_all (r : Int) : ∀ ps : List (List PtT), windSum (liveT r (edgesAll ps)) = 0
  | [] => rfl
  | pc :: ps => by
    have ih := wind_all r ps
    unfold edgesAll at ih ⊢
    rw [List.flatMap_cons, live_append, windSum_append, wind_zero, ih]; rfl
theorem docRow_all (r : Int) (ps : List (List PtT)) : docRow (crs r (liveT r (edgesAll ps))) = rowS (crs r (liveT r (edgesAll ps))) := docRow_eq (by rw [zeroSum_crs, wind_all])


end Go.Proofs.Ytllhohbenniaaaa

/- The spans of a row, clipped and asked, are as the document has them. Conditions: none. -/
namespace Go.Proofs.Ytllhohbenniaaaa
open Go.Proofs Go.RowKit Go.Shelf






theorem hasS_yes {l : List SpanT} {x : Int} {i : Nat} (h : i < l.length) (h1 : (l.getD i dS).fr ≤ x) (h2 : x < (l.getD i dS).to) : hasS l x = true :=
  List.any_eq_true.2 ⟨_, sp_mem h, by rw [decide_eq_true h1, decide_eq_true h2]; rfl⟩
theorem hasS_no {l : List SpanT} {x : Int} (h : ∀ i, i < l.length → ¬ ((l.getD i dS).fr ≤ x ∧ x < (l.getD i dS).to)) : hasS l x = false :=
  List.any_eq_false.2 fun s hs => by
    obtain ⟨i, hi, rfl⟩ := List.getElem_of_mem hs
    have := h i hi
    rw [List.getD_eq_getElem?_getD, List.getElem?_eq_getElem hi] at this
    simpa using this


end Go.Proofs.Ytllhohbenniaaaa

/- The canvas: spans are gathered, a row of pixels is flushed. Conditions: none. -/
namespace Go.Proofs.Ytllhohbenniaaaa
open Go.Proofs Go.RowKit Go.Shelf

theorem lenC_def (lo hi : Int) (s : SpanT) : (max lo s.fr < min hi s.to → lenC lo hi s = min hi s.to - max lo s.fr) ∧ (¬ max lo s.fr < min hi s.to → lenC lo hi s = 0) := by
  simp only [lenC, clipS]
  constructor <;> intro h <;> (repeat' split) <;> omega
theorem lenC_bound (lo hi : Int) (s : SpanT) : 0 ≤ lenC lo hi s ∧ (lo ≤ hi → lenC lo hi s ≤ hi - lo) := by
  have h := lenC_def lo hi s
  by_cases hc : max lo s.fr < min hi s.to
  · have := h.1 hc; omega
  · have := h.2 hc; omega
theorem lenC_clip {a b lo hi : Int} {s : SpanT} (h1 : a ≤ lo) (h2 : hi ≤ b) : lenC lo hi (clipS a b s) = lenC lo hi s := by
  have e1 := lenC_def lo hi (clipS a b s)
  have e2 := lenC_def lo hi s
  have f1 : (clipS a b s).fr = max a s.fr := by simp only [clipS]; split <;> omega
  have f2 : (clipS a b s).to = min b s.to := by simp only [clipS]; split <;> omega
  rw [f1, f2] at e1
  by_cases hc : max lo s.fr < min hi s.to
  · have h3 := e1.1 (by omega); have h4 := e2.1 hc; omega
  · have h3 := e1.2 (by omega); have h4 := e2.2 hc; omega
theorem lenC_none {lo hi : Int} {s : SpanT} (h : ¬ s.fr < s.to) : lenC lo hi s = 0 := (lenC_def lo hi s).2 (by omega)
theorem sumC_clip {a b lo hi : Int} (h1 : a ≤ lo) (h2 : hi ≤ b) : ∀ l : List SpanT, sumF (lenC lo hi) (clipT a b l) = sumF (lenC lo hi) l
  | [] => rfl
  | s :: l => by
    rw [clipT_cons, sumF_append, sumC_clip h1 h2 l]
    simp only [sumF]
    congr 1
    split
    · simp only [sumF]; rw [lenC_clip h1 h2]; omega
    · rename_i h; rw [← lenC_clip h1 h2, lenC_none h]; rfl
theorem sumC_bound (lo : Int) : ∀ l : List SpanT, 0 ≤ sumF (lenC lo (lo + 256)) l ∧ sumF (lenC lo (lo + 256)) l ≤ 256 * l.length
  | [] => ⟨Int.le_refl _, by simp [sumF]⟩
  | s :: l => by
    have ih := sumC_bound lo l
    have hb := lenC_bound lo (lo + 256) s
    simp only [sumF, List.length_cons]
    omega
/-- the part of pixel p -/
def pxC (st : Int) (p : Nat) (s : SpanT) : Int := lenC (st + 256 * p) (st + 256 * p + 256) s
theorem pxC_step {st fr at_ to e : Int} {px : Nat} (h1 : st ≤ fr) (h2 : fr ≤ at_) (h3 : at_ < to) (hp : (px : Int) = (at_ - st) / 256) (he : e = if st + (px + 1) * 256 < to then st + (px + 1) * 256 else to) (p : Nat) : pxC st p ⟨fr, e⟩ = pxC st p ⟨fr, at_⟩ + if p = px then e - at_ else 0 := by
  have d1 := lenC_def (st + 256 * p) (st + 256 * p + 256) ⟨fr, e⟩
  have d2 := lenC_def (st + 256 * p) (st + 256 * p + 256) ⟨fr, at_⟩
  dsimp only at d1 d2
  unfold pxC
  have hpx : 256 * (px : Int) ≤ at_ - st ∧ at_ - st < 256 * px + 256 := by omega
  have he1 : at_ < e ∧ e ≤ st + 256 * px + 256 ∧ e ≤ to := by split at he <;> omega
  by_cases c1 : max (st + 256 * (p : Int)) fr < min (st + 256 * p + 256) e <;> by_cases c2 : max (st + 256 * (p : Int)) fr < min (st + 256 * p + 256) at_
  · rw [d1.1 c1, d2.1 c2]; split
    · rename_i hh; subst hh; omega
    · rename_i hh; rcases Nat.lt_or_gt_of_ne hh with h4 | h4 <;> omega
  · rw [d1.1 c1, d2.2 c2]; split
    · rename_i hh; subst hh; omega
    · rename_i hh; rcases Nat.lt_or_gt_of_ne hh with h4 | h4 <;> omega
  · rw [d1.2 c1, d2.1 c2]; split
    · rename_i hh; subst hh; omega
    · rename_i hh; rcases Nat.lt_or_gt_of_ne hh with h4 | h4 <;> omega
  · rw [d1.2 c1, d2.2 c2]; split
    · rename_i hh; subst hh; omega
    · rfl
theorem pxC_none (st fr : Int) (p : Nat) : pxC st p ⟨fr, fr⟩ = 0 := lenC_none (by dsimp only; omega)
/-- sums that have grown -/
structure GQ (n : Nat) (base cur : List Int) (f : Nat → Int) : Prop where
  len : cur.length = n
  at_ : ∀ p, p < n → cur.getD p 0 = base.getD p 0 + f p
theorem GQ.start {n : Nat} {base : List Int} (h : base.length = n) {f : Nat → Int} (hf : ∀ p, f p = 0) : GQ n base base f := ⟨h, fun p _ => by rw [hf p]; omega⟩
theorem GQ.set {n : Nat} {base cur : List Int} {f g : Nat → Int} (h : GQ n base cur f) {j : Nat} {x : Int} (hj : j < n) (hx : x = cur.getD j 0 + (g j - f j)) (hg : ∀ p, p < n → p ≠ j → g p = f p) : GQ n base (cur.set j x) g := by
  refine ⟨by rw [List.length_set, h.len], fun p hp => ?_⟩
  have h1 := h.at_ p hp
  have hl : p < cur.length := by rw [h.len]; exact hp
  rw [List.getD_eq_getElem?_getD, List.getElem?_set]
  by_cases e : j = p
  · subst e
    rw [if_pos rfl, if_pos hl]
    simp only [Option.getD_some]
    omega
  · rw [if_neg e, ← List.getD_eq_getElem?_getD, hg p hp fun h => e h.symm]; exact h1
theorem GQ.trans {n : Nat} {base mid cur : List Int} {f g k : Nat → Int} (h1 : GQ n base mid f) (h2 : GQ n mid cur g) (hk : ∀ p, p < n → k p = f p + g p) : GQ n base cur k := ⟨h2.len, fun p hp => by rw [h2.at_ p hp, h1.at_ p hp, hk p hp]; omega⟩
def valM (x : Int) : Int := if 0 < (if 4096 < x then 4096 else x) then (if 4096 < x then 4096 else x) else 0
def valT (x : Int) : Int := (valM x * 255 + 2048) / 4096
theorem valM_bound (x : Int) : 0 ≤ valM x ∧ valM x ≤ 4096 := by unfold valM; (repeat' split) <;> omega
theorem takeSnoc20 {l : List SpanT} {i : Nat} (h : i < l.length) : l.take (i + 1) = l.take i ++ [l.getD i dS] := by
  rw [List.take_add_one, List.getElem?_eq_getElem h, List.getD_eq_getElem?_getD, List.getElem?_eq_getElem h]; rfl
def cnv (n : Nat) (X Y H : Int) (pv sv : Value) : List Value := [.int .i64 (n : Int), .int .i64 H, pv, .int .i64 X, .int .i64 Y, .int .i64 (n : Int), .int .i64 H, sv]
def iI (l : List Int) : List Value := l.map (Value.int .i64)
def iU (l : List Int) : List Value := l.map (Value.int .u8)
theorem iI_set {l : List Int} {j : Nat} {x : Int} : (iI l).set j (.int .i64 x) = iI (l.set j x) := by simp [iI, List.map_set]
theorem iI_len {l : List Int} : (iI l).length = l.length := by simp [iI]
theorem a_Value (x : Int) : Ans Try.prog 27 [.int .i64 x] (.int .u8 (valT x)) := by
  have hm := valM_bound x
  have hme : valM x = if 0 < (if 4096 < x then 4096 else x) then (if 4096 < x then 4096 else x) else 0 := rfl
  refine ans_of Try.func27 rfl Try.ntmps27 Try.results27 rfl rfl fun w => ?_
  refine v_seq ?_
  refine v_region ?_
  refine l_val rfl (o_assign rfl) ?_
  refine l_nil ?_
  refine kt_norm ?_
  refine v_seq ?_
  refine v_region ?_
  refine l_val rfl (o_move rfl) ?_
  refine l_val rfl (o_min rfl rfl) ?_
  refine l_val rfl (o_max rfl rfl) ?_
  refine l_val rfl (o_muli rfl rfl ?_) ?_
  · (try rw [← hme]); omega
  refine l_val rfl (o_addi rfl rfl ?_) ?_
  · (try rw [← hme]); omega
  refine l_val rfl (o_quon rfl rfl ?_ ?_) ?_
  · (try rw [← hme]); omega
  · exact wrap_i64 (by (try rw [← hme]); omega)
  refine l_val rfl (o_conv8 rfl ?_) ?_
  · (try rw [← hme]); omega
  refine l_val rfl (o_assign rfl) ?_
  refine l_nil ?_
  refine kt_norm ?_
  refine v_sel [2] [] rfl rfl ?_
  refine v_ret ?_
  refine ⟨[_], .cons (.tmp rfl) (ResAll.nil), ?_⟩
  rfl
set_option maxHeartbeats 1000000 in
theorem a_gather (w : World) (vs sv pv : Value) (bC n : Nat) (X Y H : Int) (l : List SpanT) (sums : List Int) (hn : 1 ≤ n ∧ n ≤ 256) (hX : -1048576 ≤ X ∧ X ≤ 1048576) (hll : l.length ≤ 1000000) (hsl : sums.length = n) (hsb : ∀ p, p < n → -1099511627776 ≤ sums.getD p 0 ∧ sums.getD p 0 ≤ 1099511627776) (hV : RowV vs l.length)
    (hok : ∀ k h, lk [(1000, Hp.own sv 3 1 n (iI sums)), (1001, Hp.box bC 65 [.int .i64 (n : Int), .int .i64 H, pv, .int .i64 X, .int .i64 Y, .int .i64 (n : Int), .int .i64 H, sv])] k = some h → h.ok w) (hi0 : ∀ k k' h h' b, lk [(1000, Hp.own sv 3 1 n (iI sums)), (1001, Hp.box bC 65 [.int .i64 (n : Int), .int .i64 H, pv, .int .i64 X, .int .i64 Y, .int .i64 (n : Int), .int .i64 H, sv])] k = some h → lk [(1000, Hp.own sv 3 1 n (iI sums)), (1001, Hp.box bC 65 [.int .i64 (n : Int), .int .i64 H, pv, .int .i64 X, .int .i64 Y, .int .i64 (n : Int), .int .i64 H, sv])] k' = some h' → h.has b → h'.has b → k = k') (hr : ∀ w', Chg (Blks [(1000, Hp.own sv 3 1 n (iI sums)), (1001, Hp.box bC 65 [.int .i64 (n : Int), .int .i64 H, pv, .int .i64 X, .int .i64 Y, .int .i64 (n : Int), .int .i64 H, sv])]) w w' → RowAt w' vs 2 l.length (l.flatMap eS)) :
    Calls Try.prog 31 #[.pointer (some ⟨bC, 0, none⟩), vs] w fun e w' => (∃ y, e = .returned y) ∧ ∃ cur : List Int, GQ n sums cur (fun p => sumF (pxC (X * 256) p) l) ∧ News [(1000, Hp.own sv 3 1 n (iI sums)), (1001, Hp.box bC 65 [.int .i64 (n : Int), .int .i64 H, pv, .int .i64 X, .int .i64 Y, .int .i64 (n : Int), .int .i64 H, sv])] [(1000, Hp.own sv 3 1 n (iI cur)), (1001, Hp.box bC 65 [.int .i64 (n : Int), .int .i64 H, pv, .int .i64 X, .int .i64 Y, .int .i64 (n : Int), .int .i64 H, sv])] w w' := by
  have hVs : RowV sv n := rowV_own (hok 1000 _ rfl)
  have hcl := clipT_len (X * 256) (X * 256 + (n : Int) * 256) l
  refine calls_multi (args := [.pointer (some ⟨bC, 0, none⟩), vs]) [(1000, Hp.own sv 3 1 n (iI sums)), (1001, Hp.box bC 65 [.int .i64 (n : Int), .int .i64 H, pv, .int .i64 X, .int .i64 Y, .int .i64 (n : Int), .int .i64 H, sv])] (fun cur => GQ n sums cur (fun p => sumF (pxC (X * 256) p) l)) (fun cur => [(1000, Hp.own sv 3 1 n (iI cur)), (1001, Hp.box bC 65 [.int .i64 (n : Int), .int .i64 H, pv, .int .i64 X, .int .i64 Y, .int .i64 (n : Int), .int .i64 H, sv])]) Try.func31 rfl Try.ntmps31 Try.results31 hok hi0 ?_
  refine v_seq ?_
  refine v_region ?_
  refine l_val rfl (o_move rfl) ?_
  refine l_val rfl (o_nilCheck rfl) ?_
  refine l_val rfl (o_fld rfl) ?_
  refine l_val rfl (o_fld rfl) ?_
  refine l_val rfl (o_load1 (key := 1001) rfl rfl rfl) ?_
  refine l_val rfl (o_muli rfl rfl ?_) ?_
  · omega
  refine l_val rfl (o_assign rfl) ?_
  refine l_nil ?_
  refine kt_norm ?_
  refine v_sel [0, 1, 4] [1000, 1001] rfl rfl ?_
  refine v_seq ?_
  refine v_region ?_
  refine l_val rfl (o_move rfl) ?_
  refine l_val rfl (o_move rfl) ?_
  refine l_val rfl (o_move rfl) ?_
  refine l_val rfl (o_move rfl) ?_
  refine l_val rfl (o_nilCheck rfl) ?_
  refine l_val rfl (o_fld rfl) ?_
  refine l_val rfl (o_fld rfl) ?_
  refine l_val rfl (o_load1 (key := 1001) rfl rfl rfl) ?_
  refine l_val rfl (o_muli rfl rfl ?_) ?_
  · omega
  refine l_val rfl (o_addi rfl rfl ?_) ?_
  · omega
  refine l_gown (ks := []) (caps := #[]) (vs := [_, _, _]) rfl rfl (ent_of Try.func35 rfl rfl) rfl (fun w' hg hh => a_Clip w' vs l (X * 256) (X * 256 + (n : Int) * 256) hll hV (hr w' hg)) fun yc hyc => ?_
  refine l_val rfl (o_len rfl hyc) ?_
  refine l_val rfl (o_move rfl) ?_
  refine l_nil ?_
  refine kt_norm ?_
  refine v_sel [0, 4, 26, 27, 28] [26, 1000, 1001] rfl rfl ?_
  refine v_block ?_
  refine v_loopS (α := Nat × List Int) (fun ⟨i, cur⟩ => [(28, .int .i64 (i : Int))]) (fun ⟨i, cur⟩ => [(1000, Hp.own sv 3 1 n (iI cur))])  (fun ⟨i, cur⟩ => i ≤ (clipT (X * 256) (X * 256 + (n : Int) * 256) l).length ∧ GQ n sums cur (fun p => sumF (pxC (X * 256) p) ((clipT (X * 256) (X * 256 + (n : Int) * 256) l).take i))) (fun ⟨i, cur⟩ => (clipT (X * 256) (X * 256 + (n : Int) * 256) l).length - i) (0, sums) [0, 4, 26, 27] [26, 1001] ⟨Nat.zero_le _, GQ.start hsl fun p => rfl⟩  (And.intro rfl (True.intro)) rfl (And.intro rfl (True.intro)) rfl ?_
  rintro ⟨i, cur⟩ ⟨hi, hO⟩
  refine v_seq ?_
  refine v_region ?_
  refine l_split rfl (o_lss rfl rfl) (fun q1 => ?_) (fun q1 => ?_)
  · have hil : i < (clipT (X * 256) (X * 256 + (n : Int) * 256) l).length := by omega
    obtain ⟨hc1, hc2, hc3, -⟩ := clipT_bound (sp_mem hil)
    have htk : (clipT (X * 256) (X * 256 + (n : Int) * 256) l).take (i + 1) = (clipT (X * 256) (X * 256 + (n : Int) * 256) l).take i ++ [((clipT (X * 256) (X * 256 + (n : Int) * 256) l).getD i dS)] := takeSnoc20 hil
    refine l_nil ?_
    refine kt_norm ?_
    refine v_seq ?_
    refine v_condT rfl ?_
    refine v_skip ?_
    refine kt_norm ?_
    refine v_seq ?_
    refine v_block ?_
    refine v_seq ?_
    refine v_region ?_
    refine l_val rfl (o_idx (i) rfl hyc rfl (by first | rfl | omega) (by omega)) ?_
    refine l_val rfl (o_loadRE (c' := [_, _]) rfl (row_own (key := 26) rfl) (el_flat eS_len dS (clipT (X * 256) (X * 256 + (n : Int) * 256) l) (i) (by omega)) rfl) ?_
    refine l_new rfl o_alloc fun b6 => ?_
    refine l_store rfl (o_storeW (key := 6) (xs := [_, _]) rfl rfl rfl rfl rfl rfl rfl) ?_
    refine l_nil ?_
    refine kt_norm ?_
    refine v_seq ?_
    refine v_region ?_
    refine l_val rfl (o_fld rfl) ?_
    refine l_val rfl (o_load1 (key := 6) rfl rfl rfl) ?_
    refine l_val rfl (o_assign rfl) ?_
    refine l_nil ?_
    refine kt_norm ?_
    refine v_block ?_
    refine v_loopS (α := Int × List Int) (fun ⟨at_, cur2⟩ => [(7, .int .i64 at_)]) (fun ⟨at_, cur2⟩ => [(1000, Hp.own sv 3 1 n (iI cur2))])  (fun ⟨at_, cur2⟩ => ((clipT (X * 256) (X * 256 + (n : Int) * 256) l).getD i dS).fr ≤ at_ ∧ at_ ≤ ((clipT (X * 256) (X * 256 + (n : Int) * 256) l).getD i dS).to ∧ GQ n cur cur2 (fun p => pxC (X * 256) p ⟨((clipT (X * 256) (X * 256 + (n : Int) * 256) l).getD i dS).fr, at_⟩)) (fun ⟨at_, cur2⟩ => (((clipT (X * 256) (X * 256 + (n : Int) * 256) l).getD i dS).to - at_).toNat) (((clipT (X * 256) (X * 256 + (n : Int) * 256) l).getD i dS).fr, cur) [28, 0, 4, 26, 27, 6] [6, 26, 1001] ⟨Int.le_refl _, by omega, GQ.start hO.len fun p => pxC_none _ _ p⟩  (And.intro rfl (True.intro)) rfl (And.intro rfl (True.intro)) rfl ?_
    rintro ⟨at_, cur2⟩ ⟨hat1, hat2, hI⟩
    refine v_seq ?_
    refine v_seq ?_
    refine v_region ?_
    refine l_val rfl (o_move rfl) ?_
    refine l_val rfl (o_fld rfl) ?_
    refine l_val rfl (o_load1 (key := 6) rfl rfl rfl) ?_
    refine l_split rfl (o_lss rfl rfl) (fun q2 => ?_) (fun q2 => ?_)
    · skip
      refine l_nil ?_
      refine kt_norm ?_
      refine v_condT rfl ?_
      refine v_skip ?_
      refine kt_norm ?_
      refine v_block ?_
      refine v_seq ?_
      refine v_region ?_
      have hpx : at_ < X * 256 + (n : Int) * 256 := by omega
      refine l_val rfl (o_move rfl) ?_
      refine l_val rfl (o_move rfl) ?_
      refine l_val rfl (o_subi rfl rfl ?_) ?_
      · omega
      refine l_val rfl (o_quon rfl rfl ?_ ?_) ?_
      · omega
      · exact wrap_i64 (by omega)
      refine l_val rfl (o_assign rfl) ?_
      refine l_nil ?_
      refine kt_norm ?_
      refine v_sel [7, 28, 0, 4, 26, 27, 6, 8] [6, 26, 1000, 1001] rfl rfl ?_
      refine v_seq ?_
      refine v_region ?_
      refine l_val rfl (o_fld rfl) ?_
      refine l_val rfl (o_load1 (key := 6) rfl rfl rfl) ?_
      refine l_val rfl (o_move rfl) ?_
      refine l_val rfl (o_move rfl) ?_
      refine l_val rfl (o_addi rfl rfl ?_) ?_
      · omega
      refine l_val rfl (o_muli rfl rfl ?_) ?_
      · omega
      refine l_val rfl (o_addi rfl rfl ?_) ?_
      · omega
      refine l_val rfl (o_min rfl rfl) ?_
      refine l_val rfl (o_assign rfl) ?_
      refine l_nil ?_
      refine kt_norm ?_
      refine v_sel [7, 28, 0, 4, 26, 27, 6, 8, 9] [6, 26, 1000, 1001] rfl rfl ?_
      refine v_seq ?_
      refine v_region ?_
      have hcu := hI.at_ (((at_ - X * 256) / 256).toNat) (by omega)
      have hba := hO.at_ (((at_ - X * 256) / 256).toNat) (by omega)
      have hb0 := hsb (((at_ - X * 256) / 256).toNat) (by omega)
      have hb1 := sumC_bound (X * 256 + 256 * ((((at_ - X * 256) / 256).toNat) : Nat)) ((clipT (X * 256) (X * 256 + (n : Int) * 256) l).take i)
      have hb2 := lenC_bound (X * 256 + 256 * ((((at_ - X * 256) / 256).toNat) : Nat)) (X * 256 + 256 * ((((at_ - X * 256) / 256).toNat) : Nat) + 256) ⟨((clipT (X * 256) (X * 256 + (n : Int) * 256) l).getD i dS).fr, at_⟩
      have hb3 := List.length_take (i := i) (l := (clipT (X * 256) (X * 256 + (n : Int) * 256) l))
      have hbe : (pxC (X * 256) (((at_ - X * 256) / 256).toNat) ⟨((clipT (X * 256) (X * 256 + (n : Int) * 256) l).getD i dS).fr, at_⟩) = lenC (X * 256 + 256 * ((((at_ - X * 256) / 256).toNat) : Nat)) (X * 256 + 256 * ((((at_ - X * 256) / 256).toNat) : Nat) + 256) ⟨((clipT (X * 256) (X * 256 + (n : Int) * 256) l).getD i dS).fr, at_⟩ := rfl
      have hbf : sumF (pxC (X * 256) (((at_ - X * 256) / 256).toNat)) ((clipT (X * 256) (X * 256 + (n : Int) * 256) l).take i) = sumF (lenC (X * 256 + 256 * ((((at_ - X * 256) / 256).toNat) : Nat)) (X * 256 + 256 * ((((at_ - X * 256) / 256).toNat) : Nat) + 256)) ((clipT (X * 256) (X * 256 + (n : Int) * 256) l).take i) := rfl
      obtain ⟨e, he⟩ : ∃ e : Int, e = if X * 256 + (((at_ - X * 256) / 256) + 1) * 256 < ((clipT (X * 256) (X * 256 + (n : Int) * 256) l).getD i dS).to then X * 256 + (((at_ - X * 256) / 256) + 1) * 256 else ((clipT (X * 256) (X * 256 + (n : Int) * 256) l).getD i dS).to := ⟨_, rfl⟩
      have hes : at_ < e ∧ e ≤ ((clipT (X * 256) (X * 256 + (n : Int) * 256) l).getD i dS).to ∧ e - at_ ≤ 256 := by split at he <;> omega
      refine l_val rfl (o_move rfl) ?_
      refine l_val rfl (o_nilCheck rfl) ?_
      refine l_val rfl (o_fld rfl) ?_
      refine l_val rfl (o_load1 (key := 1001) rfl rfl rfl) ?_
      refine l_val rfl (o_move rfl) ?_
      refine l_val rfl (o_idx ((((at_ - X * 256) / 256).toNat)) rfl hVs rfl (by omega) (by omega)) ?_
      refine l_val rfl (o_loadR1 rfl (row_own (key := 1000) rfl) (el_int (l := cur2) (i := (((at_ - X * 256) / 256).toNat)) (by have := hI.len; omega))) ?_
      refine l_val rfl (o_move rfl) ?_
      refine l_val rfl (o_move rfl) ?_
      refine l_val rfl (o_subi rfl rfl ?_) ?_
      · omega
      refine l_val rfl (o_addi rfl rfl ?_) ?_
      · omega
      refine l_val rfl (o_idx ((((at_ - X * 256) / 256).toNat)) rfl hVs rfl (by omega) (by omega)) ?_
      refine l_store rfl (o_storeR1 (key := 1000) (j := (((at_ - X * 256) / 256).toNat)) rfl rfl rfl rfl rfl (by omega) (by rw [iI_len]; have := hI.len; omega)) ?_
      refine l_nil ?_
      refine kt_norm ?_
      refine v_sel [28, 0, 4, 26, 27, 6, 9] [6, 26, 1000, 1001] rfl rfl ?_
      refine v_region ?_
      refine l_val rfl (o_move rfl) ?_
      refine l_val rfl (o_assign rfl) ?_
      refine l_nil ?_
      refine kb_norm ?_
      refine kt_norm ?_
      refine ⟨(e, cur2.set (((at_ - X * 256) / 256).toNat) (cur2.getD (((at_ - X * 256) / 256).toNat) 0 + (e - at_))), ⟨by omega, by omega, hI.set (by omega) (by have := pxC_step (st := X * 256) (fr := ((clipT (X * 256) (X * 256 + (n : Int) * 256) l).getD i dS).fr) (at_ := at_) (to := ((clipT (X * 256) (X * 256 + (n : Int) * 256) l).getD i dS).to) (e := e) (px := (((at_ - X * 256) / 256).toNat)) hc1 hat1 (by omega) (by omega) (by rw [he]; split <;> split <;> omega) (((at_ - X * 256) / 256).toNat); rw [if_pos rfl] at this; omega) (fun p hp hne => by have := pxC_step (st := X * 256) (fr := ((clipT (X * 256) (X * 256 + (n : Int) * 256) l).getD i dS).fr) (at_ := at_) (to := ((clipT (X * 256) (X * 256 + (n : Int) * 256) l).getD i dS).to) (e := e) (px := (((at_ - X * 256) / 256).toNat)) hc1 hat1 (by omega) (by omega) (by rw [he]; split <;> split <;> omega) p; rw [if_neg hne] at this; omega)⟩, (by show (((clipT (X * 256) (X * 256 + (n : Int) * 256) l).getD i dS).to - e).toNat < (((clipT (X * 256) (X * 256 + (n : Int) * 256) l).getD i dS).to - at_).toNat; omega), le_app (And.intro (congrArg (fun q => some (Value.int .i64 q)) he.symm) (True.intro)) [28, 0, 4, 26, 27, 6] rfl (And.intro (congrArg some (own_congr rfl (by rw [iI_set]; congr 2; rw [he]))) (True.intro)) [6, 26, 1001] rfl⟩
    · skip
      refine l_nil ?_
      refine kt_norm ?_
      refine v_condF rfl ?_
      refine v_exit ?_
      refine kt_exit ?_
      refine kt_exit ?_
      refine kb_eq ?_
      refine kb_norm ?_
      refine kt_norm ?_
      refine v_sel [28, 0, 4, 26, 27] [26, 1000, 1001] rfl rfl ?_
      refine v_region ?_
      have hate : at_ = ((clipT (X * 256) (X * 256 + (n : Int) * 256) l).getD i dS).to := by omega
      have hend : ∀ p, pxC (X * 256) p ⟨((clipT (X * 256) (X * 256 + (n : Int) * 256) l).getD i dS).fr, at_⟩ = pxC (X * 256) p ((clipT (X * 256) (X * 256 + (n : Int) * 256) l).getD i dS) := fun p => by rw [hate]
      refine l_val rfl (o_addi rfl rfl ?_) ?_
      · omega
      refine l_val rfl (o_move rfl) ?_
      refine l_nil ?_
      refine kt_norm ?_
      refine ⟨(i + 1, cur2), ⟨hil, hO.trans hI fun p hp => by rw [htk, sumF_append]; have := hend p; simp only [sumF]; omega⟩, (by show (clipT (X * 256) (X * 256 + (n : Int) * 256) l).length - (i + 1) < (clipT (X * 256) (X * 256 + (n : Int) * 256) l).length - i; omega), le_app (And.intro rfl (True.intro)) [0, 4, 26, 27] rfl (And.intro rfl (True.intro)) [26, 1001] rfl⟩
  · skip
    refine l_nil ?_
    refine kt_norm ?_
    refine v_seq ?_
    refine v_condF rfl ?_
    refine v_exit ?_
    refine kt_exit ?_
    refine kt_exit ?_
    refine kb_eq ?_
    refine ⟨[], ResAll.nil, ?_⟩
    exact ⟨cur, ⟨hO.len, fun p hp => by rw [hO.at_ p hp]; rw [List.take_of_length_le (by omega)]; exact congrArg _ (sumC_clip (by omega) (by omega) l)⟩, leL_ok _ (And.intro rfl (And.intro rfl True.intro))⟩
end Go.Proofs.Ytllhohbenniaaaa

/- A row of pixels is flushed; the cover of pieces in a view. Conditions: none. -/
namespace Go.Proofs.Ytllhohbenniaaaa
open Go.Proofs Go.RowKit Go.Shelf

theorem flush_el {sums : List Int} {i : Nat} (h : i < sums.length) : El (iI (List.replicate i 0 ++ sums.drop i)) 1 i [.int .i64 (sums.getD i 0)] := by
  have hl : i < (List.replicate i 0 ++ sums.drop i).length := by simp; omega
  have := el_int hl
  have e : (List.replicate i (0 : Int) ++ sums.drop i).getD i 0 = sums.getD i 0 := by
    rw [List.getD_eq_getElem?_getD, List.getElem?_append_right (by simp), List.length_replicate, List.getElem?_drop, Nat.sub_self, Nat.add_zero, List.getD_eq_getElem?_getD]
  rwa [e] at this
theorem flush_set {sums : List Int} {i : Nat} (h : i < sums.length) : (List.replicate i (0 : Int) ++ sums.drop i).set i 0 = List.replicate (i + 1) 0 ++ sums.drop (i + 1) := by
  rw [List.set_append_right _ _ (by simp), List.length_replicate, Nat.sub_self, List.drop_eq_getElem_cons h, List.set_cons_zero, List.replicate_succ', List.append_assoc]; rfl
theorem iU_snoc {l : List Int} {x : Int} : iU l ++ [.int .u8 x] = iU (l ++ [x]) := by simp [iU]
theorem iU_len {l : List Int} : (iU l).length = l.length := by simp [iU]
theorem take_map_snoc {sums : List Int} {i : Nat} (h : i < sums.length) : (sums.take i).map valT ++ [valT (sums.getD i 0)] = (sums.take (i + 1)).map valT := by
  rw [List.take_add_one, List.map_append, List.getElem?_eq_getElem h, List.getD_eq_getElem?_getD, List.getElem?_eq_getElem h]; rfl
set_option maxHeartbeats 1000000 in
theorem a_flush (w : World) (sv pv : Value) (bC n : Nat) (X Y H : Int) (sums pix : List Int) (hn : 1 ≤ n ∧ n ≤ 256) (hsl : sums.length = n) (hpl : pix.length ≤ 1000000) (hsb : ∀ p, p < n → -1099511627776 ≤ sums.getD p 0 ∧ sums.getD p 0 ≤ 1099511627776)
    (hok : ∀ k h, lk [(1000, Hp.own sv 3 1 n (iI sums)), (1001, Hp.box bC 65 [.int .i64 (n : Int), .int .i64 H, pv, .int .i64 X, .int .i64 Y, .int .i64 (n : Int), .int .i64 H, sv]), (23, Hp.own pv 5 1 (pix.length) (iU pix))] k = some h → h.ok w) (hi0 : ∀ k k' h h' b, lk [(1000, Hp.own sv 3 1 n (iI sums)), (1001, Hp.box bC 65 [.int .i64 (n : Int), .int .i64 H, pv, .int .i64 X, .int .i64 Y, .int .i64 (n : Int), .int .i64 H, sv]), (23, Hp.own pv 5 1 (pix.length) (iU pix))] k = some h → lk [(1000, Hp.own sv 3 1 n (iI sums)), (1001, Hp.box bC 65 [.int .i64 (n : Int), .int .i64 H, pv, .int .i64 X, .int .i64 Y, .int .i64 (n : Int), .int .i64 H, sv]), (23, Hp.own pv 5 1 (pix.length) (iU pix))] k' = some h' → h.has b → h'.has b → k = k') :
    Calls Try.prog 32 #[.pointer (some ⟨bC, 0, none⟩)] w fun e w' => (∃ y, e = .returned y) ∧ ∃ pv2 : Value, RowV pv2 (pix ++ sums.map valT).length ∧ News [(1000, Hp.own sv 3 1 n (iI sums)), (1001, Hp.box bC 65 [.int .i64 (n : Int), .int .i64 H, pv, .int .i64 X, .int .i64 Y, .int .i64 (n : Int), .int .i64 H, sv]), (23, Hp.own pv 5 1 (pix.length) (iU pix))] [(1000, Hp.own sv 3 1 n (iI (List.replicate n 0))), (1001, Hp.box bC 65 [.int .i64 (n : Int), .int .i64 H, pv2, .int .i64 X, .int .i64 Y, .int .i64 (n : Int), .int .i64 H, sv]), (23, Hp.own pv2 5 1 ((pix ++ sums.map valT).length) (iU (pix ++ sums.map valT)))] w w' := by
  have hVs : RowV sv n := rowV_own (hok 1000 _ rfl)
  have hVp : RowV pv pix.length := rowV_own (hok 23 _ rfl)
  have hlz : ∀ i, i ≤ n → (List.replicate i 0 ++ sums.drop i).length = n := fun i hi => by simp; omega
  have hlp : ∀ i, i ≤ n → (pix ++ (sums.take i).map valT).length = pix.length + i := fun i hi => by simp; omega
  have hlq : (pix ++ sums.map valT).length = pix.length + n := by simp; omega
  refine calls_multi (args := [.pointer (some ⟨bC, 0, none⟩)]) [(1000, Hp.own sv 3 1 n (iI sums)), (1001, Hp.box bC 65 [.int .i64 (n : Int), .int .i64 H, pv, .int .i64 X, .int .i64 Y, .int .i64 (n : Int), .int .i64 H, sv]), (23, Hp.own pv 5 1 (pix.length) (iU pix))] (fun pv2 => RowV pv2 (pix ++ sums.map valT).length) (fun pv2 => [(1000, Hp.own sv 3 1 n (iI (List.replicate n 0))), (1001, Hp.box bC 65 [.int .i64 (n : Int), .int .i64 H, pv2, .int .i64 X, .int .i64 Y, .int .i64 (n : Int), .int .i64 H, sv]), (23, Hp.own pv2 5 1 ((pix ++ sums.map valT).length) (iU (pix ++ sums.map valT)))]) Try.func32 rfl Try.ntmps32 Try.results32 hok hi0 ?_
  refine v_seq ?_
  refine v_region ?_
  refine l_val rfl (o_move rfl) ?_
  refine l_val rfl (o_nilCheck rfl) ?_
  refine l_val rfl (o_fld rfl) ?_
  refine l_val rfl (o_load1 (key := 1001) rfl rfl rfl) ?_
  refine l_val rfl (o_len rfl hVs) ?_
  refine l_val rfl (o_move rfl) ?_
  refine l_nil ?_
  refine kt_norm ?_
  refine v_block ?_
  refine v_loopS (α := Nat × Value) (fun ⟨i, pv2⟩ => [(9, .int .i64 (i : Int))]) (fun ⟨i, pv2⟩ => [(1000, Hp.own sv 3 1 n (iI (List.replicate i 0 ++ sums.drop i))), (1001, Hp.box bC 65 [.int .i64 (n : Int), .int .i64 H, pv2, .int .i64 X, .int .i64 Y, .int .i64 (n : Int), .int .i64 H, sv]), (23, Hp.own pv2 5 1 (pix.length + i) (iU (pix ++ (sums.take i).map valT)))])  (fun ⟨i, pv2⟩ => i ≤ n ∧ RowV pv2 (pix.length + i)) (fun ⟨i, pv2⟩ => n - i) (0, pv) [0, 7, 8] [] ⟨Nat.zero_le _, hVp⟩  (And.intro rfl (True.intro)) rfl (And.intro (congrArg some (own_congr rfl (by simp))) (And.intro rfl (And.intro (congrArg some (own_congr rfl (by simp))) (True.intro)))) rfl ?_
  rintro ⟨i, pv2⟩ ⟨hi, hvp⟩
  refine v_seq ?_
  refine v_region ?_
  refine l_split rfl (o_lss rfl rfl) (fun q1 => ?_) (fun q1 => ?_)
  · have hil : i < n := by omega
    have hsi := hsb i hil
    refine l_nil ?_
    refine kt_norm ?_
    refine v_seq ?_
    refine v_condT rfl ?_
    refine v_skip ?_
    refine kt_norm ?_
    refine v_seq ?_
    refine v_block ?_
    refine v_seq ?_
    refine v_region ?_
    refine l_val rfl (o_move rfl) ?_
    refine l_val rfl (o_idx (i) rfl hVs rfl (by first | rfl | omega) (by omega)) ?_
    refine l_val rfl (o_loadR1 rfl (row_own (key := 1000) rfl) (flush_el (i := i) (by omega))) ?_
    refine l_val rfl (o_assign rfl) ?_
    refine l_val rfl (o_assign rfl) ?_
    refine l_nil ?_
    refine kt_norm ?_
    refine v_seq ?_
    refine v_drawW [(23, pix.length + i + 1)] [[], [], [], [], [], [1001], [], [], [], [23, 22], [], [], [], [1001]] mixed ?_ (by kernel_rfl) (by kernel_rfl)
    refine d_val (fun _ => rfl) rfl rfl (fun σ3 => o_move rfl) ?_
    refine d_val (fun _ => rfl) rfl rfl (fun σ3 => o_move rfl) ?_
    refine d_val (fun _ => rfl) rfl rfl (fun σ3 => o_nilCheck rfl) ?_
    refine d_val (fun _ => rfl) rfl rfl (fun σ3 => o_fld rfl) ?_
    refine d_val (fun _ => rfl) rfl rfl (fun σ3 => o_fld rfl) ?_
    refine d_val (fun _ => rfl) rfl rfl (fun σ3 => o_load1 (key := 1001) rfl rfl rfl) ?_
    refine d_val (fun _ => rfl) rfl rfl (fun σ3 => o_move rfl) ?_
    refine d_ans (vs := [_]) (fun _ => rfl) (fun _ => rfl) (a_Value _) ?_
    refine d_bsO (n := 1) (vs := fun _ => [_]) (cs := fun _ => [_]) (fun _ => rfl) (fun _ => rfl) (fun _ => rfl) rfl rfl (fun _ => rfl) (fun _ => rfl) ?_
    refine d_app 23 (n := pix.length + i) (mm := 1) (κ := [22]) (fun _ => rfl) (fun _ => rfl) (fun _ => rfl) (fun _ => rfl) rfl (fun σ3 => .inl ⟨_, _, _, rfl⟩) (fun σ3 => row_own (key := 22) rfl) (by omega) (fun _ h => h) ?_
    refine d_val (fun _ => rfl) rfl rfl (fun σ3 => o_nilCheck rfl) ?_
    refine d_val (fun _ => rfl) rfl rfl (fun σ3 => o_fld rfl) ?_
    refine d_val (fun _ => rfl) rfl rfl (fun σ3 => o_fld rfl) ?_
    refine d_store (fun _ => rfl) rfl rfl (fun σ3 => o_store1 (key := 1001) (rs := [_, _, _, _, _, _, _, _]) rfl rfl (rowV_cells (show RowV (σ3.v 23) (pix.length + i + 1) from σ3.ok 23)) rfl rfl (rowV_one (show RowV (σ3.v 23) (pix.length + i + 1) from σ3.ok 23)) rfl) ?_
    refine d_nil (fun σ3 => ?_)
    refine l_nil ?_
    refine kt_norm ?_
    refine v_sel [9, 0, 7, 8, 2] [23, 1000, 1001] rfl rfl ?_
    refine v_region ?_
    refine l_val rfl (o_move rfl) ?_
    refine l_val rfl (o_nilCheck rfl) ?_
    refine l_val rfl (o_fld rfl) ?_
    refine l_val rfl (o_load1 (key := 1001) rfl rfl rfl) ?_
    refine l_val rfl (o_move rfl) ?_
    refine l_val rfl (o_idx (i) rfl hVs rfl (by first | rfl | omega) (by omega)) ?_
    refine l_store rfl (o_storeR1 (key := 1000) (j := i) rfl rfl rfl rfl rfl (by omega) (by rw [iI_len, hlz i hi]; omega)) ?_
    refine l_nil ?_
    refine kb_norm ?_
    refine kt_norm ?_
    refine v_sel [9, 0, 7, 8] [23, 1000, 1001] rfl rfl ?_
    refine v_region ?_
    refine l_val rfl (o_addi rfl rfl ?_) ?_
    · omega
    refine l_val rfl (o_move rfl) ?_
    refine l_nil ?_
    refine kt_norm ?_
    refine ⟨(i + 1, σ3.v 23), ⟨hil, (show RowV (σ3.v 23) (pix.length + i + 1) from σ3.ok 23)⟩, (by show n - (i + 1) < n - i; omega), le_app (And.intro rfl (True.intro)) [0, 7, 8] rfl (And.intro (congrArg some (own_congr rfl (by rw [iI_set, flush_set (by omega)]))) (And.intro rfl (And.intro (congrArg some (own_congr rfl (by rw [iU_snoc, List.append_assoc, take_map_snoc (by omega)]))) (True.intro)))) [] rfl⟩
  · skip
    refine l_nil ?_
    refine kt_norm ?_
    refine v_seq ?_
    refine v_condF rfl ?_
    refine v_exit ?_
    refine kt_exit ?_
    refine kt_exit ?_
    refine kb_eq ?_
    refine ⟨[], ResAll.nil, ?_⟩
    obtain rfl : i = n := by omega
    exact ⟨pv2, by rw [hlq]; exact hvp, leL_ok _ (And.intro (congrArg some (own_congr rfl (by rw [List.drop_of_length_le (by omega), List.append_nil]))) (And.intro rfl (And.intro (congrArg some (own_congr hlq.symm (by rw [List.take_of_length_le (by omega)]))) True.intro)))⟩
/-! #### the table of a view -/
theorem insS_perm (e : EdgeT) (o : List EdgeT) : (o ++ [e]).Perm (insS e o) := by
  unfold insS
  have h := (List.takeWhile_append_dropWhile (p := fun x : EdgeT => decide (x.fr ≤ e.fr)) (l := o))
  refine List.Perm.trans ?_ List.perm_middle.symm
  rw [h]
  exact List.perm_append_singleton e o
theorem foldl_perm : ∀ (l o : List EdgeT), (o ++ l).Perm (l.foldl (fun o e => insS e o) o)
  | [], o => by simp
  | e :: l, o => by
    have ih := foldl_perm l (insS e o)
    rw [List.foldl_cons]
    refine List.Perm.trans ?_ ih
    have h := List.Perm.append_right l (insS_perm e o)
    rwa [List.append_assoc] at h
theorem stSort_perm (l : List EdgeT) : l.Perm (stSort l) := by have := foldl_perm l []; simpa [stSort] using this
/-- a table that can be swept -/
structure TOk (T : List EdgeT) : Prop where
  len : T.length ≤ 320
  srt : Srt T
  cross : ∀ e ∈ T, ∀ r, e.fr ≤ r → r < e.to → CrossOk r e
theorem tOk_tab {X Y W H : Int} {ps : List (List PtT)} (hb : Bnd ps) : TOk (tabT X Y W H ps) := by
  refine ⟨tabT_len hb, ?_, ?_⟩
  · unfold tabT; split
    · exact (stSort_ok _ _ rfl).1
    · exact List.Pairwise.nil
  · unfold tabT; split
    · intro e he r h1 h2
      obtain ⟨e0, h3, rfl, h4⟩ := viewEs_mem ((stSort_perm _).mem_iff.2 he)
      have ho := edgesAll_ok hb e0 h3
      rw [cutE_fr] at h1
      rw [cutE_to] at h2
      exact crossOk_cut (crossOk_of ho.1 ho.2 (by split at h1 <;> omega) (by split at h2 <;> omega))
    · intro e he; cases he
theorem live_mem {r : Int} {l : List EdgeT} {e : EdgeT} : e ∈ liveT r l ↔ e ∈ l ∧ e.fr ≤ r ∧ r < e.to := by
  unfold liveT
  rw [List.mem_filter]
  simp only [Bool.not_eq_eq_eq_not, Bool.not_true, Bool.or_eq_false_iff, decide_eq_false_iff_not]
  constructor
  · rintro ⟨h1, h2, h3⟩; exact ⟨h1, by omega, by omega⟩
  · rintro ⟨h1, h2, h3⟩; exact ⟨h1, by omega, by omega⟩
theorem live_live (r : Int) (l : List EdgeT) : liveT r (liveT r l) = liveT r l := by
  unfold liveT; rw [List.filter_filter]; simp
theorem live_prev {r : Int} {l : List EdgeT} (h : ∀ e ∈ l, e.fr ≤ r - 1) : liveT r (liveT (r - 1) l) = liveT r l := by
  unfold liveT
  rw [List.filter_filter]
  refine List.filter_congr fun e he => ?_
  have := h e he
  rw [Bool.eq_iff_iff]
  simp only [Bool.and_eq_true, Bool.not_eq_eq_eq_not, Bool.not_true, Bool.or_eq_false_iff, decide_eq_false_iff_not]
  omega
theorem live_none {r : Int} {l : List EdgeT} (h : ∀ e ∈ l, r < e.fr) : liveT r l = [] := by
  unfold liveT
  rw [List.filter_eq_nil_iff]
  intro e he
  have := h e he
  simp [this]
theorem srt_drop {T : List EdgeT} (h : Srt T) {m : Nat} (hm : m < T.length) : ∀ e ∈ T.drop m, (T.getD m dE).fr ≤ e.fr := by
  intro e he
  have hd : T.drop m = T[m] :: T.drop (m + 1) := List.drop_eq_getElem_cons hm
  have hs : (T.drop m).Pairwise fun x y => x.fr ≤ y.fr := List.Pairwise.sublist (List.drop_sublist m T) h
  rw [hd] at he hs
  have e0 : T.getD m dE = T[m] := by rw [List.getD_eq_getElem?_getD, List.getElem?_eq_getElem hm]; rfl
  rw [e0]
  rcases List.mem_cons.1 he with rfl | h2
  · exact Int.le_refl _
  · exact (List.pairwise_cons.1 hs).1 e h2
theorem live_all {T : List EdgeT} {r : Int} {m : Nat} (h : Srt T) (hm : m ≤ T.length) (hn : m < T.length → ¬ (T.getD m dE).fr ≤ r) : liveT r (T.take m) = liveT r T := by
  conv => rhs; rw [← List.take_append_drop m T]
  rw [live_append]
  have : liveT r (T.drop m) = [] := by
    rcases Nat.lt_or_ge m T.length with h1 | h1
    · refine live_none fun e he => ?_
      have h2 := srt_drop h h1 e he
      have h3 := hn h1
      omega
    · rw [List.drop_of_length_le h1]; rfl
  rw [this, List.append_nil]
/-! #### what is measured -/
def measT (T : List EdgeT) (X : Int) (p : Nat) (r : Int) : Int := sumF (pxC (X * 256) p) (rowS (crs r (liveT r T)))
def rowSum (T : List EdgeT) (X : Int) (p : Nat) (r0 : Int) : Nat → Int
  | 0 => 0
  | k + 1 => rowSum T X p r0 k + measT T X p (r0 + k)
def pixRow (T : List EdgeT) (X : Int) (n : Nat) (r0 : Int) : List Int := (List.range n).map fun p => valT (rowSum T X p r0 16)
def pixT (T : List EdgeT) (X Y : Int) (n : Nat) : Nat → List Int
  | 0 => []
  | k + 1 => pixT T X Y n k ++ pixRow T X n (16 * (Y + k))
theorem pixT_len (T : List EdgeT) (X Y : Int) (n : Nat) : ∀ k, (pixT T X Y n k).length = k * n
  | 0 => by simp [pixT]
  | k + 1 => by rw [pixT, List.length_append, pixT_len T X Y n k, pixRow, List.length_map, List.length_range, Nat.succ_mul]
theorem measT_bound {T : List EdgeT} (h : T.length ≤ 320) (X : Int) (p : Nat) (r : Int) : 0 ≤ measT T X p r ∧ measT T X p r ≤ 81920 := by
  unfold measT
  have h1 := sumC_bound (X * 256 + 256 * p) (rowS (crs r (liveT r T)))
  have h2 := rowS_len (crs r (liveT r T))
  rw [crs_len] at h2
  have h3 : (liveT r T).length ≤ T.length := List.length_filter_le _ _
  have e : sumF (pxC (X * 256) p) (rowS (crs r (liveT r T))) = sumF (lenC (X * 256 + 256 * p) (X * 256 + 256 * p + 256)) (rowS (crs r (liveT r T))) := rfl
  omega
theorem rowSum_bound {T : List EdgeT} (h : T.length ≤ 320) (X : Int) (p : Nat) (r0 : Int) : ∀ k, 0 ≤ rowSum T X p r0 k ∧ rowSum T X p r0 k ≤ 81920 * k
  | 0 => ⟨Int.le_refl _, by simp [rowSum]⟩
  | k + 1 => by
    have ih := rowSum_bound h X p r0 k
    have h1 := measT_bound h X p (r0 + k)
    simp only [rowSum]
    omega
/-- the sweep, ahead of its q-th row -/
structure OQ (T : List EdgeT) (X R : Int) (n q m : Nat) (wt : List EdgeT) (sums : List Int) : Prop where
  ml : m ≤ T.length
  wt : wt = liveT (R + q - 1) (T.take m)
  fr : ∀ e ∈ T.take m, e.fr ≤ R + q - 1
  sl : sums.length = n
  sm : ∀ p, p < n → sums.getD p 0 = rowSum T X p (R + q - (q % 16 : Nat)) (q % 16)
theorem OQ.bound {T : List EdgeT} {X R : Int} {n q m : Nat} {wt : List EdgeT} {sums : List Int} (h : OQ T X R n q m wt sums) (ht : T.length ≤ 320) : ∀ p, p < n → -1099511627776 ≤ sums.getD p 0 ∧ sums.getD p 0 ≤ 1099511627776 := fun p hp => by
  rw [h.sm p hp]
  have := rowSum_bound ht X p (R + q - (q % 16 : Nat)) (q % 16)
  omega
/-- edges are taken up to row r -/
structure IQ (T : List EdgeT) (r : Int) (m : Nat) (wt : List EdgeT) : Prop where
  ml : m ≤ T.length
  fr : ∀ e ∈ T.take m, e.fr ≤ r
  lv : liveT r wt = liveT r (T.take m)
  wl : wt.length ≤ m
theorem OQ.inner {T : List EdgeT} {X R : Int} {n q m : Nat} {wt : List EdgeT} {sums : List Int} (h : OQ T X R n q m wt sums) : IQ T (R + q) m wt := by
  refine ⟨h.ml, fun e he => by have := h.fr e he; omega, ?_, ?_⟩
  · rw [h.wt]; exact live_prev h.fr
  · rw [h.wt]
    have h1 : (liveT (R + q - 1) (T.take m)).length ≤ (T.take m).length := List.length_filter_le _ _
    have h2 := List.length_take (i := m) (l := T)
    omega
theorem IQ.step {T : List EdgeT} {r : Int} {m : Nat} {wt : List EdgeT} (h : IQ T r m wt) (hm : m < T.length) (hf : (T.getD m dE).fr ≤ r) : IQ T r (m + 1) (wt ++ [T.getD m dE]) := by
  have e : T.take (m + 1) = T.take m ++ [T.getD m dE] := by
    rw [List.take_add_one, List.getElem?_eq_getElem hm, List.getD_eq_getElem?_getD, List.getElem?_eq_getElem hm]; rfl
  refine ⟨hm, fun x hx => ?_, ?_, by rw [List.length_append]; have := h.wl; simp; omega⟩
  · rw [e] at hx
    rcases List.mem_append.1 hx with hx | hx
    · exact h.fr x hx
    · rw [List.mem_singleton.1 hx]; exact hf
  · rw [e, live_append, live_append, h.lv]
theorem IQ.fin {T : List EdgeT} {r : Int} {m : Nat} {wt : List EdgeT} (h : IQ T r m wt) (hs : Srt T) (hn : m < T.length → ¬ (T.getD m dE).fr ≤ r) : liveT r wt = liveT r T := by rw [h.lv]; exact live_all hs h.ml hn
theorem OQ.next {T : List EdgeT} {X R : Int} {n q m m2 : Nat} {wt wt2 : List EdgeT} {sums cur : List Int} (h : OQ T X R n q m wt sums) (hi : IQ T (R + q) m2 wt2) (hl : liveT (R + q) wt2 = liveT (R + q) T) (hg : GQ n sums cur (fun p => sumF (pxC (X * 256) p) (rowS (crs (R + q) (liveT (R + q) (liveT (R + q) wt2)))))) :
    (∀ p, p < n → cur.getD p 0 = rowSum T X p (R + q - (q % 16 : Nat)) (q % 16 + 1)) ∧ (¬ q % 16 = 15 → OQ T X R n (q + 1) m2 (liveT (R + q) wt2) cur) ∧ (q % 16 = 15 → OQ T X R n (q + 1) m2 (liveT (R + q) wt2) (List.replicate n 0)) := by
  have hc : ∀ p, p < n → cur.getD p 0 = rowSum T X p (R + q - (q % 16 : Nat)) (q % 16 + 1) := fun p hp => by
    rw [hg.at_ p hp, h.sm p hp, live_live, hl]
    simp only [rowSum, measT]
    rw [show R + (q : Int) - ((q % 16 : Nat) : Int) + ((q % 16 : Nat) : Int) = R + q by omega]
  have e : R + ((q + 1 : Nat) : Int) - 1 = R + q := by omega
  refine ⟨hc, fun hq => ⟨hi.ml, by rw [e, hi.lv], by rw [e]; exact hi.fr, hg.len, fun p hp => ?_⟩, fun hq => ⟨hi.ml, by rw [e, hi.lv], by rw [e]; exact hi.fr, by simp, fun p hp => ?_⟩⟩
  · rw [hc p hp, show (q + 1) % 16 = q % 16 + 1 by omega, show R + ((q + 1 : Nat) : Int) - ((q % 16 + 1 : Nat) : Int) = R + q - ((q % 16 : Nat) : Int) by omega]
  · rw [show (q + 1) % 16 = 0 by omega, rowSum]
    rw [List.getD_eq_getElem?_getD, List.getElem?_replicate]
    split <;> rfl
theorem pix_next {T : List EdgeT} {X Y : Int} {n q : Nat} {cur : List Int} (hl : cur.length = n) (hq : q % 16 = 15) (h : ∀ p, p < n → cur.getD p 0 = rowSum T X p (16 * Y + q - (q % 16 : Nat)) (q % 16 + 1)) : pixT T X Y n (q / 16) ++ cur.map valT = pixT T X Y n ((q + 1) / 16) := by
  rw [show (q + 1) / 16 = q / 16 + 1 by omega, pixT]
  congr 1
  apply List.ext_getElem
  · simp [pixRow, hl]
  · intro i h1 h2
    have hi : i < n := by simpa [hl] using h1
    simp only [pixRow, List.getElem_map, List.getElem_range]
    have := h i hi
    rw [List.getD_eq_getElem?_getD, List.getElem?_eq_getElem (by omega)] at this
    rw [hq] at this
    rw [show 16 * Y + (q : Int) - ((15 : Nat) : Int) = 16 * (Y + ((q / 16 : Nat) : Int)) by omega] at this
    exact congrArg valT this
theorem row_safe {m olds : List (Nat × Hp)} {oks : List Nat} {key : Nat} {v : Value} {E esz n : Nat} {xs : List Value} {w w2 : World} (ho : sel oks m = some olds) (hok : ∀ k h, lk m k = some h → h.ok w) (hi : ∀ k k' h h' b, lk m k = some h → lk m k' = some h' → h.has b → h'.has b → k = k') (hk : lk m key = some (Hp.own v E esz n xs)) (hne : oks.contains key = false) (hc : Chg (Blks olds) w w2) : RowAt w2 v esz n xs :=
  rowAt_own (Hp.keep (h := Hp.own v E esz n xs) (hok key _ hk) fun b hb => hc.block b (Hp.lt (hok key _ hk) hb) fun ⟨k, h, h1, h2⟩ => by
    have e := hi key k _ h b hk (sel_ok oks olds ho k h h1) hb h2
    subst e
    have := sel_key oks olds ho key h h1
    simp at hne; exact hne this)
end Go.Proofs.Ytllhohbenniaaaa

/- The cover of pieces in a view. Conditions: none. -/
namespace Go.Proofs.Ytllhohbenniaaaa
open Go.Proofs Go.RowKit Go.Shelf

/-- a slice's capacity is no less than its length -/
def Capd (v : Value) : Prop := ∀ a n c, v = .slice a n c → n ≤ c
theorem capd_own {w : World} {v : Value} {E esz n : Nat} {xs : List Value} (h : (Hp.own v E esz n xs).ok w) : Capd v := fun a n' c e => by
  rcases h.1.2 with ⟨rfl, rfl⟩ | ⟨g, cap, cur, rfl, h0, hg, hnc, hcm, hcs, htake⟩
  · cases e; exact Nat.le_refl _
  · cases e; exact hnc
theorem capd_from {v : Value} {esz lo : Nat} (h : Capd v) : Capd (subFrom v esz lo) := fun a n c e => by
  unfold subFrom at e
  split at e
  · rename_i a' n' c'
    have := h a' n' c' rfl
    cases e; omega
  · exact h a n c e
theorem rowAt_drop {w : World} {v : Value} {esz n lo : Nat} {xs : List Value} (h : RowAt w v esz n xs) (hv : RowV v n) (hc : Capd v) (hle : lo ≤ n) : RowAt w (subFrom v esz lo) esz (n - lo) (xs.drop (lo * esz)) := by
  refine ⟨by rw [List.length_drop, h.len, Nat.sub_mul], fun j u hu => ?_, fun u hu => h.one u (List.mem_of_mem_drop hu)⟩
  rw [List.getElem?_drop] at hu
  have h1 := h.at_ _ u hu
  have hj : lo * esz + j < xs.length := (List.getElem?_eq_some_iff.1 hu).1
  rw [h.len] at hj
  have hlt : lo < n := by
    rcases Nat.lt_or_ge lo n with h | h
    · exact h
    · have := Nat.mul_le_mul_right esz h; omega
  rcases hv with ⟨b, o, c, rfl⟩ | ⟨rfl, rfl⟩ | ⟨a, c, rfl, rfl⟩
  · have h2 := hc _ _ _ rfl
    simp only [subFrom, if_neg (show ¬ c = lo by omega), Option.map_some, addAt, blkOf, offOf] at h1 ⊢
    rw [Nat.add_assoc]; exact h1
  · omega
  · omega
set_option maxHeartbeats 2000000 in
theorem a_cover (w : World) (v : Value) (pvs : List Value) (ps : List (List PtT)) (X Y : Int) (n h : Nat) (hb : Bnd ps) (hvp : PcsV v pvs ps) (hat : PcsAt w v pvs ps) (hvw : ViewOk X Y (n : Int) (h : Int)) :
    Calls Try.prog 8 #[v, .agg #[.int .i64 X, .int .i64 Y, .int .i64 (n : Int), .int .i64 (h : Int)]] w fun e w' => ∃ x : Value, e = .returned (.tuple #[.agg #[.int .i64 (n : Int), .int .i64 (h : Int), x], .int .i64 0]) ∧ Below w.heap.size w w' ∧ (Hp.own x 5 1 (pixT (tabT X Y (n : Int) (h : Int) ps) X Y n h).length (iU (pixT (tabT X Y (n : Int) (h : Int) ps) X Y n h))).ok w' ∧ ∀ b, x.ownBlock = some b → w.heap.size ≤ b := by
  have vd := (viewOk_def X Y (n : Int) (h : Int)).1 hvw
  refine calls_said (args := [v, .agg #[.int .i64 X, .int .i64 Y, .int .i64 (n : Int), .int .i64 (h : Int)]]) (fun x => .tuple #[.agg #[.int .i64 (n : Int), .int .i64 (h : Int), x], .int .i64 0]) (fun x w' => (Hp.own x 5 1 (pixT (tabT X Y (n : Int) (h : Int) ps) X Y n h).length (iU (pixT (tabT X Y (n : Int) (h : Int) ps) X Y n h))).ok w') (fun x b => x.ownBlock = some b) Try.func8 rfl Try.ntmps8 Try.results8 rfl ?_
  refine v_seq ?_
  refine v_region ?_
  refine l_new rfl (o_box (cs := [_, _, _, _]) rfl rfl) fun b3 => ?_
  refine l_new rfl o_alloc fun b4 => ?_
  refine l_val rfl (o_assign rfl) ?_
  refine l_nil ?_
  refine kt_norm ?_
  refine v_seq ?_
  refine v_seq ?_
  refine v_region ?_
  refine l_val rfl (o_loadW (key := 3) rfl rfl rfl) ?_
  refine l_ans (vs := [_]) rfl rfl ((show Ans Try.prog _ _ (.int .i64 0) by have := a_Check X Y (n : Int) (h : Int); rwa [if_pos hvw] at this)) ?_
  refine l_val rfl (o_assign rfl) ?_
  refine l_nil ?_
  refine kt_norm ?_
  refine v_seq ?_
  refine v_region ?_
  refine l_val rfl (o_move rfl) ?_
  refine l_split rfl (o_neq rfl rfl) (fun q1 => absurd q1 (by omega)) (fun q1 => ?_)
  refine l_nil ?_
  refine kt_norm ?_
  refine v_condF rfl ?_
  refine v_skip ?_
  refine kt_norm ?_
  refine v_sel [0, 3, 4] [3, 4] rfl rfl ?_
  refine v_seq ?_
  refine v_drawW [] [[], [3], [], [3], [], [3], [], [3], [], [], [], []] mixed ?_ (by kernel_rfl) (by kernel_rfl)
  refine d_val (fun _ => rfl) rfl rfl (fun σ4 => o_fld rfl) ?_
  refine d_val (fun _ => rfl) rfl rfl (fun σ4 => o_load1 (key := 3) rfl rfl rfl) ?_
  refine d_val (fun _ => rfl) rfl rfl (fun σ4 => o_fld rfl) ?_
  refine d_val (fun _ => rfl) rfl rfl (fun σ4 => o_load1 (key := 3) rfl rfl rfl) ?_
  refine d_val (fun _ => rfl) rfl rfl (fun σ4 => o_build (vs := [_, _]) (cs := [_, _, _]) rfl rfl) ?_
  refine d_val (fun _ => rfl) rfl rfl (fun σ4 => o_loadW (key := 3) rfl rfl rfl) ?_
  refine d_val (fun _ => rfl) rfl rfl (fun σ4 => o_fld rfl) ?_
  refine d_val (fun _ => rfl) rfl rfl (fun σ4 => o_load1 (key := 3) rfl rfl rfl) ?_
  refine d_mkO (n := n) (fun _ => rfl) (fun _ => rfl) (fun _ => rfl) rfl rfl (by omega) rfl ?_
  refine d_val (fun _ => rfl) rfl rfl (fun σ4 => o_build (vs := [_, _, _]) (cs := [_, _, _, _, _, _, _, _]) rfl rfl) ?_
  refine d_new (fun _ => rfl) rfl rfl (fun _ => o_box (cs := [_, _, _, _, _, _, _, _]) rfl rfl) ?_
  refine d_val (fun _ => rfl) rfl rfl (fun σ4 => o_assign rfl) ?_
  refine d_nil (fun σ4 => ?_)
  refine l_nil ?_
  refine kt_norm ?_
  refine v_sel [0, 3, 4, 7] [3, 4, 25, 27] rfl rfl ?_
  refine v_seq ?_
  refine v_region ?_
  refine l_val rfl (o_move rfl) ?_
  refine l_val rfl (o_loadW (key := 3) rfl rfl rfl) ?_
  refine l_gown (ks := []) (caps := #[]) (vs := [_, _]) rfl rfl (ent_of Try.func29 rfl rfl) rfl (fun w' hg hh => a_TableT w' v pvs ps X Y (n : Int) (h : Int) hb hvp (hat.keep hg)) fun tb htb => ?_
  refine l_freeze 30 [3, 4, 25, 27] rfl rfl rfl ?_
  have hTok : TOk (tabT X Y (n : Int) (h : Int) ps) := tOk_tab hb
  obtain ⟨T, hT⟩ : ∃ T, (tabT X Y (n : Int) (h : Int) ps) = T := ⟨_, rfl⟩
  rw [hT] at hTok htb ⊢
  have hTl := hTok.len
  refine l_val rfl (o_assign rfl) ?_
  refine l_nil ?_
  refine kt_norm ?_
  refine v_seq ?_
  refine v_region ?_
  refine l_val rfl (o_assign rfl) ?_
  refine l_nil ?_
  refine kt_norm ?_
  refine v_seq ?_
  refine v_seq ?_
  refine v_region ?_
  refine l_val rfl (o_fld rfl) ?_
  refine l_val rfl (o_load1 (key := 3) rfl rfl rfl) ?_
  refine l_val rfl (o_muli rfl rfl ?_) ?_
  · omega
  refine l_val rfl (o_assign rfl) ?_
  refine l_nil ?_
  refine kt_norm ?_
  refine v_sel [3, 4, 7, 8, 9, 10] [3, 4, 25, 27] rfl rfl ?_
  refine v_block ?_
  refine v_renH 25 1000 [3, 4, 27] rfl rfl rfl ?_
  refine v_renH 27 1001 [3, 4, 1000] rfl rfl rfl ?_
  refine v_ghost 23 5 1 ?_
  refine v_ghost 65 68 7 ?_
  refine v_loopS (α := Nat × Nat × Value × Value × List EdgeT × List Int × Value) (fun ⟨q, m, tv, wv, wt, sums, pv⟩ => [(10, .int .i64 (16 * Y + (q : Int))), (8, tv), (9, wv)]) (fun ⟨q, m, tv, wv, wt, sums, pv⟩ => [(1000, Hp.own (.slice (some ⟨σ4.b 25, 0, none⟩) n n) 3 1 n (iI sums)), (1001, Hp.box (σ4.b 27) 65 [.int .i64 (n : Int), .int .i64 (h : Int), pv, .int .i64 X, .int .i64 Y, .int .i64 (n : Int), .int .i64 (h : Int), (.slice (some ⟨σ4.b 25, 0, none⟩) n n)]), (23, Hp.own pv 5 1 (pixT T X Y n (q / 16)).length (iU (pixT T X Y n (q / 16)))), (65, Hp.own wv 68 7 wt.length (wt.flatMap eE))])  (fun ⟨q, m, tv, wv, wt, sums, pv⟩ => q ≤ 16 * h ∧ OQ T X (16 * Y) n q m wt sums ∧ RowV wv wt.length ∧ RowV tv (T.length - m) ∧ (∀ w', Chg (fun _ => False) w w' ∧ (Hp.own tb 68 7 T.length (T.flatMap eE)).ok w' → RowAt w' tv 7 (T.length - m) ((T.drop m).flatMap eE) ∧ Capd tv) ∧ RowV pv (pixT T X Y n (q / 16)).length) (fun ⟨q, m, tv, wv, wt, sums, pv⟩ => 16 * h - q) (0, 0, tb, .slice none 0 0, [], List.replicate n 0, .slice none 0 0) [3, 4, 7] [3, 4] ⟨Nat.zero_le _, ⟨Nat.zero_le _, rfl, fun e he => (by cases he), by simp, fun p hp => by rw [List.getD_eq_getElem?_getD, List.getElem?_replicate]; split <;> rfl⟩, .nil0, htb, fun w' hg => ⟨rowAt_own hg.2, capd_own hg.2⟩, .nil0⟩  (And.intro (congrArg (fun z => some (Value.int .i64 z)) (by omega)) (And.intro rfl (And.intro rfl (True.intro)))) rfl (And.intro (congrArg some (own_congr rfl (by simp [iI]))) (And.intro rfl (And.intro rfl (And.intro rfl (True.intro))))) rfl ?_
  rintro ⟨q, m, tv, wv, wt, sums, pv⟩ ⟨hq, hO, hwv, htv, htr, hpv⟩
  refine v_seq ?_
  refine v_seq ?_
  refine v_region ?_
  refine l_val rfl (o_move rfl) ?_
  refine l_val rfl (o_fld rfl) ?_
  refine l_val rfl (o_load1 (key := 3) rfl rfl rfl) ?_
  refine l_val rfl (o_fld rfl) ?_
  refine l_val rfl (o_load1 (key := 3) rfl rfl rfl) ?_
  refine l_val rfl (o_addi rfl rfl ?_) ?_
  · omega
  refine l_val rfl (o_muli rfl rfl ?_) ?_
  · omega
  refine l_split rfl (o_lss rfl rfl) (fun h87 => ?_) (fun h87 => ?_)
  · have hqh : q < 16 * h := by omega
    have hpl := pixT_len T X Y n (q / 16)
    have hpm : (q / 16) * n ≤ 256 * 256 := Nat.mul_le_mul (by omega) (by omega)
    refine l_nil ?_
    refine kt_norm ?_
    refine v_sel [10, 8, 9, 3, 4, 7, 41] [3, 4, 23, 65, 1000, 1001] rfl rfl ?_
    refine v_condT rfl ?_
    refine v_skip ?_
    refine kt_norm ?_
    refine v_seq ?_
    refine v_block ?_
    refine v_seq ?_
    refine v_block ?_
    refine v_loopS (α := Nat × Value × Value × List EdgeT) (fun ⟨m2, tv2, wv2, wt2⟩ => [(8, tv2), (9, wv2)]) (fun ⟨m2, tv2, wv2, wt2⟩ => [(65, Hp.own wv2 68 7 wt2.length (wt2.flatMap eE))])  (fun ⟨m2, tv2, wv2, wt2⟩ => IQ T (16 * Y + (q : Int)) m2 wt2 ∧ RowV wv2 wt2.length ∧ RowV tv2 (T.length - m2) ∧ (∀ w', Chg (fun _ => False) w w' ∧ (Hp.own tb 68 7 T.length (T.flatMap eE)).ok w' → RowAt w' tv2 7 (T.length - m2) ((T.drop m2).flatMap eE) ∧ Capd tv2)) (fun ⟨m2, tv2, wv2, wt2⟩ => T.length - m2) (m, tv, wv, wt) [10, 3, 4, 7] [3, 4, 23, 1000, 1001] ⟨hO.inner, hwv, htv, htr⟩  (And.intro rfl (And.intro rfl (True.intro))) rfl (And.intro rfl (True.intro)) rfl ?_
    rintro ⟨m2, tv2, wv2, wt2⟩ ⟨hI, hwv2, htv2, htr2⟩
    refine v_seq ?_
    refine v_seq ?_
    refine v_region ?_
    have hml2 := hI.ml
    have hwl2 := hI.wl
    refine l_val rfl (o_move rfl) ?_
    refine l_val rfl (o_len rfl htv2) ?_
    refine l_split rfl (o_gtr rfl rfl) (fun h102 => ?_) (fun h102 => ?_)
    · skip
      refine l_val rfl (o_move rfl) ?_
      refine l_val rfl (o_move rfl) ?_
      refine l_val rfl (o_idx (0) rfl htv2 rfl (by first | rfl | omega) (by omega)) ?_
      refine l_val rfl (o_fld rfl) ?_
      refine l_val rfl (o_loadRF (f := 5) rfl (row_imm (fun w' hg => (htr2 w' hg).1)) (el_flat eE_len dE (T.drop m2) (0) (by rw [List.length_drop]; omega)) rfl) ?_
      refine l_val rfl (o_move rfl) ?_
      refine l_split rfl (o_leq rfl rfl) (fun h109 => ?_) (fun h109 => ?_)
      · have hm2 : m2 < T.length := by omega
        have hE0 : ((T.drop m2).getD 0 dE) = T.getD m2 dE := by rw [List.getD_eq_getElem?_getD, List.getElem?_drop, Nat.add_zero, List.getD_eq_getElem?_getD]
        rw [hE0] at h109
        refine l_val rfl (o_pickT rfl rfl) ?_
        refine l_nil ?_
        refine kt_norm ?_
        refine v_condT rfl ?_
        refine v_skip ?_
        refine kt_norm ?_
        refine v_block ?_
        refine v_drawW [(60, wt2.length + 1)] [[], [], [], [], [], [65, 59], [], [], [], []] mixed ?_ (by kernel_rfl) (by kernel_rfl)
        refine d_val (fun _ => rfl) rfl rfl (fun σ11 => o_move rfl) ?_
        refine d_val (fun _ => rfl) rfl rfl (fun σ11 => o_move rfl) ?_
        refine d_val (fun _ => rfl) rfl rfl (fun σ11 => o_idx (0) rfl htv2 rfl (by first | rfl | omega) (by omega)) ?_
        refine d_val (fun _ => rfl) rfl rfl (fun σ11 => o_loadRE (c' := [_, _, _, _, _, _, _]) rfl (row_imm (fun w' hg => (htr2 w' hg).1)) (el_flat eE_len dE (T.drop m2) (0) (by rw [List.length_drop]; omega)) rfl) ?_
        refine d_bsO (n := 1) (vs := fun _ => [_]) (cs := fun _ => [_, _, _, _, _, _, _]) (fun _ => rfl) (fun _ => rfl) (fun _ => rfl) rfl rfl (fun _ => rfl) (fun _ => rfl) ?_
        refine d_app 65 (n := wt2.length) (mm := 1) (κ := [59]) (fun _ => rfl) (fun _ => rfl) (fun _ => rfl) (fun _ => rfl) rfl (fun σ11 => .inl ⟨_, _, _, rfl⟩) (fun σ11 => row_own (key := 59) rfl) (by omega) (fun _ h => h) ?_
        refine d_val (fun _ => rfl) rfl rfl (fun σ11 => o_move rfl) ?_
        refine d_val (fun _ => rfl) rfl rfl (fun _ => o_sliceFrom (lo := 1) rfl htv2 rfl rfl (by omega)) ?_
        refine d_val (fun _ => rfl) rfl rfl (fun σ11 => o_assign rfl) ?_
        refine d_val (fun _ => rfl) rfl rfl (fun σ11 => o_assign rfl) ?_
        refine d_nil (fun σ11 => ?_)
        refine l_nil ?_
        refine kb_norm ?_
        refine kt_norm ?_
        refine ⟨(m2 + 1, _, σ11.v 60, wt2 ++ [T.getD m2 dE]), ⟨hI.step hm2 h109, by rw [List.length_append]; exact (show RowV (σ11.v 60) (wt2.length + 1) from σ11.ok 60), (rowV_from htv2 (by omega)).to (by omega), fun w' hg => ⟨by have h1 := rowAt_drop (lo := 1) (htr2 w' hg).1 htv2 (htr2 w' hg).2 (by omega); rw [flat_drop eE_len, List.drop_drop] at h1; exact (show T.length - m2 - 1 = T.length - (m2 + 1) by omega) ▸ h1, capd_from (htr2 w' hg).2⟩⟩, (by show T.length - (m2 + 1) < T.length - m2; omega), le_app (And.intro rfl (And.intro rfl (True.intro))) [10, 3, 4, 7] rfl (And.intro (congrArg some (own_congr (by rw [List.length_append]; rfl) (by rw [← hE0, List.flatMap_append]; simp [eE]))) (True.intro)) [3, 4, 23, 1000, 1001] rfl⟩
      · skip
        refine l_val rfl (o_pickT rfl rfl) ?_
        refine l_nil ?_
        refine kt_norm ?_
        refine v_condF rfl ?_
        refine v_exit ?_
        refine kt_exit ?_
        refine kt_exit ?_
        refine kb_eq ?_
        refine kt_norm ?_
        refine v_seq ?_
        refine v_region ?_
        have hml2 := hI.ml
        have hwl2 := hI.wl
        have hE1 : ((T.drop m2).getD 0 dE) = T.getD m2 dE := by rw [List.getD_eq_getElem?_getD, List.getElem?_drop, Nat.add_zero, List.getD_eq_getElem?_getD]
        have hLT : liveT (16 * Y + (q : Int)) wt2 = liveT (16 * Y + (q : Int)) T := hI.fin hTok.srt (fun hm2 hle => by rw [← hE1] at hle; omega)
        have hll3 : (liveT (16 * Y + (q : Int)) wt2).length ≤ wt2.length := List.length_filter_le _ _
        have hsl3 : (rowS (crs (16 * Y + (q : Int)) (liveT (16 * Y + (q : Int)) (liveT (16 * Y + (q : Int)) wt2)))).length ≤ (liveT (16 * Y + (q : Int)) wt2).length := by have h1 := rowS_len (crs (16 * Y + (q : Int)) (liveT (16 * Y + (q : Int)) (liveT (16 * Y + (q : Int)) wt2))); rw [crs_len] at h1; have h2 : (liveT (16 * Y + (q : Int)) (liveT (16 * Y + (q : Int)) wt2)).length ≤ (liveT (16 * Y + (q : Int)) wt2).length := List.length_filter_le _ _; omega
        refine l_val rfl (o_move rfl) ?_
        refine l_val rfl (o_move rfl) ?_
        refine l_gown (ks := [65]) (caps := #[]) (vs := [_, _]) rfl rfl (ent_of Try.func30 rfl rfl) rfl (fun w' hg hh => a_Live w' wv2 wt2 (16 * Y + (q : Int)) (by omega) hwv2 (rowAt_own (hh 65 (by simp) _ rfl))) fun y65 hy65 => ?_
        refine l_val rfl (o_assign rfl) ?_
        refine l_nil ?_
        refine kt_norm ?_
        refine v_sel [8, 9, 10, 3, 4, 7, 48, 49, 50, 51, 52, 53] [3, 4, 23, 65, 1000, 1001] rfl rfl ?_
        refine v_seq ?_
        refine v_region ?_
        refine l_val rfl (o_move rfl) ?_
        refine l_val rfl (o_move rfl) ?_
        refine l_val rfl (o_move rfl) ?_
        refine l_gown (ks := [65]) (caps := #[]) (vs := [_, _]) rfl rfl (ent_of Try.func22 rfl rfl) rfl (fun w' hg hh => a_Spans w' y65 (liveT (16 * Y + (q : Int)) wt2) (16 * Y + (q : Int)) (by omega) hy65 (rowAt_own (hh 65 (by simp) _ rfl)) (fun e he => hTok.cross e (live_mem.1 (hLT ▸ live_live (16 * Y + (q : Int)) wt2 ▸ he)).1 _ (live_mem.1 he).2.1 (live_mem.1 he).2.2)) fun y69 hy69 => ?_
        refine l_gmulti (fun cur => GQ n sums cur (fun p => sumF (pxC (X * 256) p) (rowS (crs (16 * Y + (q : Int)) (liveT (16 * Y + (q : Int)) (liveT (16 * Y + (q : Int)) wt2)))))) (fun cur => [(1000, Hp.own (.slice (some ⟨σ4.b 25, 0, none⟩) n n) 3 1 n (iI cur)), (1001, Hp.box (σ4.b 27) 65 [.int .i64 (n : Int), .int .i64 (h : Int), pv, .int .i64 X, .int .i64 Y, .int .i64 (n : Int), .int .i64 (h : Int), (.slice (some ⟨σ4.b 25, 0, none⟩) n n)])]) [1000, 1001] [3, 4, 23, 65, 69] (caps := #[]) (vs := [_, _]) rfl rfl (ent_of Try.func31 rfl rfl) rfl rfl rfl rfl (fun w' hg hok hi hgb => a_gather w' y69 (.slice (some ⟨σ4.b 25, 0, none⟩) n n) pv (σ4.b 27) n X Y (h : Int) (rowS (crs (16 * Y + (q : Int)) (liveT (16 * Y + (q : Int)) (liveT (16 * Y + (q : Int)) wt2)))) sums (by omega) (by omega) (by omega) hO.sl (hO.bound hTl) hy69 (fun k h0 hh => hok k h0 (sel_ok [1000, 1001] _ rfl k h0 hh)) (fun k k' h0 h0' b h1 h2 => hi k k' h0 h0' b (sel_ok [1000, 1001] _ rfl k h0 h1) (sel_ok [1000, 1001] _ rfl k' h0' h2)) (fun w2 hc => row_safe (oks := [1000, 1001]) (key := 69) rfl hok hi rfl rfl hc)) (fun cur y70 hG => ?_)
        obtain ⟨hcs, hon, hof⟩ := hO.next hI hLT hG
        refine l_nil ?_
        refine kt_norm ?_
        refine v_seq ?_
        refine v_region ?_
        refine l_val rfl (o_move rfl) ?_
        refine l_val rfl (o_and15 rfl rfl) ?_
        refine l_split rfl (o_eql rfl rfl) (fun h142 => ?_) (fun h142 => ?_)
        · skip
          refine l_nil ?_
          refine kt_norm ?_
          refine v_sel [8, 9, 10, 3, 4, 7, 48, 49, 50, 51, 52, 53, 73] [3, 4, 23, 65, 1000, 1001] rfl rfl ?_
          refine v_condT rfl ?_
          refine v_region ?_
          refine l_val rfl (o_move rfl) ?_
          refine l_gmulti (fun pv2 => RowV pv2 ((pixT T X Y n (q / 16)) ++ cur.map valT).length) (fun pv2 => [(1000, Hp.own (.slice (some ⟨σ4.b 25, 0, none⟩) n n) 3 1 n (iI (List.replicate n 0))), (1001, Hp.box (σ4.b 27) 65 [.int .i64 (n : Int), .int .i64 (h : Int), pv2, .int .i64 X, .int .i64 Y, .int .i64 (n : Int), .int .i64 (h : Int), (.slice (some ⟨σ4.b 25, 0, none⟩) n n)]), (23, Hp.own pv2 5 1 (((pixT T X Y n (q / 16)) ++ cur.map valT)).length (iU ((pixT T X Y n (q / 16)) ++ cur.map valT)))]) [1000, 1001, 23] [3, 4, 65] (caps := #[]) (vs := [_]) rfl rfl (ent_of Try.func32 rfl rfl) rfl rfl rfl rfl (fun w' hg hok hi hgb => a_flush w' (.slice (some ⟨σ4.b 25, 0, none⟩) n n) pv (σ4.b 27) n X Y (h : Int) cur (pixT T X Y n (q / 16)) (by omega) hG.len (by omega) (fun p hp => by rw [hcs p hp]; have := rowSum_bound hTl X p (16 * Y + q - (q % 16 : Nat)) (q % 16 + 1); omega) (fun k h0 hh => hok k h0 (sel_ok [1000, 1001, 23] _ rfl k h0 hh)) (fun k k' h0 h0' b h1 h2 => hi k k' h0 h0' b (sel_ok [1000, 1001, 23] _ rfl k h0 h1) (sel_ok [1000, 1001, 23] _ rfl k' h0' h2))) (fun pv2 y75 hpv2 => ?_)
          have hpn := pix_next hG.len (by omega) hcs
          refine l_nil ?_
          refine kb_norm ?_
          refine kt_norm ?_
          refine v_region ?_
          refine l_val rfl (o_move rfl) ?_
          refine l_val rfl (o_addi rfl rfl ?_) ?_
          · omega
          refine l_val rfl (o_assign rfl) ?_
          refine l_nil ?_
          refine kt_norm ?_
          refine ⟨(q + 1, m2, tv2, y65, liveT (16 * Y + (q : Int)) wt2, List.replicate n 0, pv2), ⟨by omega, hof (by omega), hy65, htv2, htr2, by rw [← hpn]; exact hpv2⟩, (by show 16 * h - (q + 1) < 16 * h - q; omega), le_app (And.intro (congrArg (fun z => some (Value.int .i64 z)) (by omega)) (And.intro rfl (And.intro rfl (True.intro)))) [3, 4, 7] rfl (And.intro rfl (And.intro rfl (And.intro (congrArg some (own_congr (by rw [hpn]) (by rw [hpn]))) (And.intro rfl (True.intro))))) [3, 4] rfl⟩
        · skip
          refine l_nil ?_
          refine kt_norm ?_
          refine v_sel [8, 9, 10, 3, 4, 7, 48, 49, 50, 51, 52, 53, 73] [3, 4, 23, 65, 1000, 1001] rfl rfl ?_
          refine v_condF rfl ?_
          refine v_skip ?_
          refine kb_norm ?_
          refine kt_norm ?_
          refine v_region ?_
          refine l_val rfl (o_move rfl) ?_
          refine l_val rfl (o_addi rfl rfl ?_) ?_
          · omega
          refine l_val rfl (o_assign rfl) ?_
          refine l_nil ?_
          refine kt_norm ?_
          refine ⟨(q + 1, m2, tv2, y65, liveT (16 * Y + (q : Int)) wt2, cur, pv), ⟨by omega, hon (by omega), hy65, htv2, htr2, by rw [show (q + 1) / 16 = q / 16 by omega]; exact hpv⟩, (by show 16 * h - (q + 1) < 16 * h - q; omega), le_app (And.intro (congrArg (fun z => some (Value.int .i64 z)) (by omega)) (And.intro rfl (And.intro rfl (True.intro)))) [3, 4, 7] rfl (And.intro rfl (And.intro rfl (And.intro (congrArg some (own_congr (by rw [show (q + 1) / 16 = q / 16 by omega]) (by rw [show (q + 1) / 16 = q / 16 by omega]))) (And.intro rfl (True.intro))))) [3, 4] rfl⟩
    · skip
      refine l_val rfl (o_move rfl) ?_
      refine l_no rfl ?_
      refine l_no rfl ?_
      refine l_no rfl ?_
      refine l_no rfl ?_
      refine l_no rfl ?_
      refine l_no rfl ?_
      refine l_val rfl (o_pickF rfl rfl) ?_
      refine l_nil ?_
      refine kt_norm ?_
      refine v_condF rfl ?_
      refine v_exit ?_
      refine kt_exit ?_
      refine kt_exit ?_
      refine kb_eq ?_
      refine kt_norm ?_
      refine v_seq ?_
      refine v_region ?_
      have hml2 := hI.ml
      have hwl2 := hI.wl
      have hE1 : ((T.drop m2).getD 0 dE) = T.getD m2 dE := by rw [List.getD_eq_getElem?_getD, List.getElem?_drop, Nat.add_zero, List.getD_eq_getElem?_getD]
      have hLT : liveT (16 * Y + (q : Int)) wt2 = liveT (16 * Y + (q : Int)) T := hI.fin hTok.srt (fun hm2 hle => by rw [← hE1] at hle; omega)
      have hll3 : (liveT (16 * Y + (q : Int)) wt2).length ≤ wt2.length := List.length_filter_le _ _
      have hsl3 : (rowS (crs (16 * Y + (q : Int)) (liveT (16 * Y + (q : Int)) (liveT (16 * Y + (q : Int)) wt2)))).length ≤ (liveT (16 * Y + (q : Int)) wt2).length := by have h1 := rowS_len (crs (16 * Y + (q : Int)) (liveT (16 * Y + (q : Int)) (liveT (16 * Y + (q : Int)) wt2))); rw [crs_len] at h1; have h2 : (liveT (16 * Y + (q : Int)) (liveT (16 * Y + (q : Int)) wt2)).length ≤ (liveT (16 * Y + (q : Int)) wt2).length := List.length_filter_le _ _; omega
      refine l_val rfl (o_move rfl) ?_
      refine l_val rfl (o_move rfl) ?_
      refine l_gown (ks := [65]) (caps := #[]) (vs := [_, _]) rfl rfl (ent_of Try.func30 rfl rfl) rfl (fun w' hg hh => a_Live w' wv2 wt2 (16 * Y + (q : Int)) (by omega) hwv2 (rowAt_own (hh 65 (by simp) _ rfl))) fun y65 hy65 => ?_
      refine l_val rfl (o_assign rfl) ?_
      refine l_nil ?_
      refine kt_norm ?_
      refine v_sel [8, 9, 10, 3, 4, 7, 48, 49, 50, 51, 52, 53] [3, 4, 23, 65, 1000, 1001] rfl rfl ?_
      refine v_seq ?_
      refine v_region ?_
      refine l_val rfl (o_move rfl) ?_
      refine l_val rfl (o_move rfl) ?_
      refine l_val rfl (o_move rfl) ?_
      refine l_gown (ks := [65]) (caps := #[]) (vs := [_, _]) rfl rfl (ent_of Try.func22 rfl rfl) rfl (fun w' hg hh => a_Spans w' y65 (liveT (16 * Y + (q : Int)) wt2) (16 * Y + (q : Int)) (by omega) hy65 (rowAt_own (hh 65 (by simp) _ rfl)) (fun e he => hTok.cross e (live_mem.1 (hLT ▸ live_live (16 * Y + (q : Int)) wt2 ▸ he)).1 _ (live_mem.1 he).2.1 (live_mem.1 he).2.2)) fun y69 hy69 => ?_
      refine l_gmulti (fun cur => GQ n sums cur (fun p => sumF (pxC (X * 256) p) (rowS (crs (16 * Y + (q : Int)) (liveT (16 * Y + (q : Int)) (liveT (16 * Y + (q : Int)) wt2)))))) (fun cur => [(1000, Hp.own (.slice (some ⟨σ4.b 25, 0, none⟩) n n) 3 1 n (iI cur)), (1001, Hp.box (σ4.b 27) 65 [.int .i64 (n : Int), .int .i64 (h : Int), pv, .int .i64 X, .int .i64 Y, .int .i64 (n : Int), .int .i64 (h : Int), (.slice (some ⟨σ4.b 25, 0, none⟩) n n)])]) [1000, 1001] [3, 4, 23, 65, 69] (caps := #[]) (vs := [_, _]) rfl rfl (ent_of Try.func31 rfl rfl) rfl rfl rfl rfl (fun w' hg hok hi hgb => a_gather w' y69 (.slice (some ⟨σ4.b 25, 0, none⟩) n n) pv (σ4.b 27) n X Y (h : Int) (rowS (crs (16 * Y + (q : Int)) (liveT (16 * Y + (q : Int)) (liveT (16 * Y + (q : Int)) wt2)))) sums (by omega) (by omega) (by omega) hO.sl (hO.bound hTl) hy69 (fun k h0 hh => hok k h0 (sel_ok [1000, 1001] _ rfl k h0 hh)) (fun k k' h0 h0' b h1 h2 => hi k k' h0 h0' b (sel_ok [1000, 1001] _ rfl k h0 h1) (sel_ok [1000, 1001] _ rfl k' h0' h2)) (fun w2 hc => row_safe (oks := [1000, 1001]) (key := 69) rfl hok hi rfl rfl hc)) (fun cur y70 hG => ?_)
      obtain ⟨hcs, hon, hof⟩ := hO.next hI hLT hG
      refine l_nil ?_
      refine kt_norm ?_
      refine v_seq ?_
      refine v_region ?_
      refine l_val rfl (o_move rfl) ?_
      refine l_val rfl (o_and15 rfl rfl) ?_
      refine l_split rfl (o_eql rfl rfl) (fun h142 => ?_) (fun h142 => ?_)
      · skip
        refine l_nil ?_
        refine kt_norm ?_
        refine v_sel [8, 9, 10, 3, 4, 7, 48, 49, 50, 51, 52, 53, 73] [3, 4, 23, 65, 1000, 1001] rfl rfl ?_
        refine v_condT rfl ?_
        refine v_region ?_
        refine l_val rfl (o_move rfl) ?_
        refine l_gmulti (fun pv2 => RowV pv2 ((pixT T X Y n (q / 16)) ++ cur.map valT).length) (fun pv2 => [(1000, Hp.own (.slice (some ⟨σ4.b 25, 0, none⟩) n n) 3 1 n (iI (List.replicate n 0))), (1001, Hp.box (σ4.b 27) 65 [.int .i64 (n : Int), .int .i64 (h : Int), pv2, .int .i64 X, .int .i64 Y, .int .i64 (n : Int), .int .i64 (h : Int), (.slice (some ⟨σ4.b 25, 0, none⟩) n n)]), (23, Hp.own pv2 5 1 (((pixT T X Y n (q / 16)) ++ cur.map valT)).length (iU ((pixT T X Y n (q / 16)) ++ cur.map valT)))]) [1000, 1001, 23] [3, 4, 65] (caps := #[]) (vs := [_]) rfl rfl (ent_of Try.func32 rfl rfl) rfl rfl rfl rfl (fun w' hg hok hi hgb => a_flush w' (.slice (some ⟨σ4.b 25, 0, none⟩) n n) pv (σ4.b 27) n X Y (h : Int) cur (pixT T X Y n (q / 16)) (by omega) hG.len (by omega) (fun p hp => by rw [hcs p hp]; have := rowSum_bound hTl X p (16 * Y + q - (q % 16 : Nat)) (q % 16 + 1); omega) (fun k h0 hh => hok k h0 (sel_ok [1000, 1001, 23] _ rfl k h0 hh)) (fun k k' h0 h0' b h1 h2 => hi k k' h0 h0' b (sel_ok [1000, 1001, 23] _ rfl k h0 h1) (sel_ok [1000, 1001, 23] _ rfl k' h0' h2))) (fun pv2 y75 hpv2 => ?_)
        have hpn := pix_next hG.len (by omega) hcs
        refine l_nil ?_
        refine kb_norm ?_
        refine kt_norm ?_
        refine v_region ?_
        refine l_val rfl (o_move rfl) ?_
        refine l_val rfl (o_addi rfl rfl ?_) ?_
        · omega
        refine l_val rfl (o_assign rfl) ?_
        refine l_nil ?_
        refine kt_norm ?_
        refine ⟨(q + 1, m2, tv2, y65, liveT (16 * Y + (q : Int)) wt2, List.replicate n 0, pv2), ⟨by omega, hof (by omega), hy65, htv2, htr2, by rw [← hpn]; exact hpv2⟩, (by show 16 * h - (q + 1) < 16 * h - q; omega), le_app (And.intro (congrArg (fun z => some (Value.int .i64 z)) (by omega)) (And.intro rfl (And.intro rfl (True.intro)))) [3, 4, 7] rfl (And.intro rfl (And.intro rfl (And.intro (congrArg some (own_congr (by rw [hpn]) (by rw [hpn]))) (And.intro rfl (True.intro))))) [3, 4] rfl⟩
      · skip
        refine l_nil ?_
        refine kt_norm ?_
        refine v_sel [8, 9, 10, 3, 4, 7, 48, 49, 50, 51, 52, 53, 73] [3, 4, 23, 65, 1000, 1001] rfl rfl ?_
        refine v_condF rfl ?_
        refine v_skip ?_
        refine kb_norm ?_
        refine kt_norm ?_
        refine v_region ?_
        refine l_val rfl (o_move rfl) ?_
        refine l_val rfl (o_addi rfl rfl ?_) ?_
        · omega
        refine l_val rfl (o_assign rfl) ?_
        refine l_nil ?_
        refine kt_norm ?_
        refine ⟨(q + 1, m2, tv2, y65, liveT (16 * Y + (q : Int)) wt2, cur, pv), ⟨by omega, hon (by omega), hy65, htv2, htr2, by rw [show (q + 1) / 16 = q / 16 by omega]; exact hpv⟩, (by show 16 * h - (q + 1) < 16 * h - q; omega), le_app (And.intro (congrArg (fun z => some (Value.int .i64 z)) (by omega)) (And.intro rfl (And.intro rfl (True.intro)))) [3, 4, 7] rfl (And.intro rfl (And.intro rfl (And.intro (congrArg some (own_congr (by rw [show (q + 1) / 16 = q / 16 by omega]) (by rw [show (q + 1) / 16 = q / 16 by omega]))) (And.intro rfl (True.intro))))) [3, 4] rfl⟩
  · skip
    refine l_nil ?_
    refine kt_norm ?_
    refine v_sel [10, 8, 9, 3, 4, 7, 41] [3, 4, 23, 65, 1000, 1001] rfl rfl ?_
    refine v_condF rfl ?_
    refine v_exit ?_
    refine kt_exit ?_
    refine kt_exit ?_
    refine kb_eq ?_
    refine kt_norm ?_
    refine v_seq ?_
    refine v_region ?_
    obtain rfl : q = 16 * h := by omega
    have e16 : 16 * h / 16 = h := by omega
    rw [e16] at hpv
    obtain ⟨ap, cp, rfl⟩ := hpv.sl
    refine l_val rfl (o_move rfl) ?_
    refine l_val rfl (o_nilCheck rfl) ?_
    refine l_val rfl (o_fld rfl) ?_
    refine l_val rfl (o_loadP (key := 1001) (rs := [_, _, _]) rfl rfl rfl rfl) ?_
    refine l_store rfl (o_storeW (key := 4) (xs := [_, _, _]) rfl rfl rfl rfl rfl rfl rfl) ?_
    refine l_val rfl (o_assign rfl) ?_
    refine l_nil ?_
    refine kt_norm ?_
    refine v_sel [4, 5] [4, 23, 65, 1000, 1001] rfl rfl ?_
    refine v_ret ?_
    refine ⟨[_, _], .cons (.cellW (key := 4) rfl rfl rfl) (.cons (.tmp rfl) (ResAll.nil)), ?_⟩
    refine ⟨.slice ap _ cp, rfl, fun w' ho => ⟨?_, fun b hb => ((ho.mo 23 _ rfl).2 b hb).elim id False.elim⟩⟩
    have h1 := (ho.mo 23 _ rfl).1
    rw [e16] at h1
    exact h1
end Go.Proofs.Ytllhohbenniaaaa

/- One pixel of a cover; what is measured, and its value. Conditions: none. -/
namespace Go.Proofs.Ytllhohbenniaaaa
open Go.Proofs Go.RowKit Go.Shelf

theorem l_gownF {C : Cx} {K : Exit → St → Prop} {ops : Array Oper} {rest : List Oper} {l : List (Nat × Value)} {m : List (Nat × Hp)} {g : World → Prop} {gb : Nat → Prop} {dd : List Nat} {i : Nat} {ty : TypeId} {pos : String} {aft : Array Edge} {gd : Option (Nat × Bool)} {ks : List Nat} {E : TypeId} {n esz : Nat} {xs : List Value}
    {f : Nat} {cal : Operand} {as_ : Array Operand} {ts : Array TypeId} {vs : List Value} (F : Value → Value) (hw : wantS C (mk l m g gb dd) ops ⟨some i, .call { callee := .value cal, args := as_, argTypes := ts }, ty, pos, aft, gd⟩ = some true) {caps : Array Value} (hcal : ev C (mk l m g gb dd) cal = some (.func (.func f) #[] caps)) (hent : ∀ args w, (callFunc f args).run C.P w = .ok (.enter f args) w) (hargs : evs C (mk l m g gb dd) as_.toList = some vs)
    (hc : ∀ w, g w → Held (mk l m g gb dd) ks w → Calls C.P f (vs.toArray ++ caps) w fun e w' => ∃ y, e = .returned (F y) ∧ Below w.heap.size w w' ∧ OwnAt w.heap.size w' y E esz n xs)
    (next : ∀ y, RowV y n → VL C ops rest K (mk ((i, F y) :: l) ((i, .own y E esz n xs) :: m) g gb dd)) : VL C ops (⟨some i, .call { callee := .value cal, args := as_, argTypes := ts }, ty, pos, aft, gd⟩ :: rest) K (mk l m g gb dd) :=
  vl_step hw fun a w hr => call_step (R := fun u w' => ∃ y, u = F y ∧ Below w.heap.size w w' ∧ OwnAt w.heap.size w' y E esz n xs) hr hcal hent hargs ((hc w hr.gh (held_of hr ks)).mono fun e w' ⟨y, h1, h2⟩ => ⟨F y, h1, y, rfl, h2⟩) fun u w' ⟨y, h0, h1, h2⟩ =>
    ⟨mk ((i, F y) :: l) ((i, .own y E esz n xs) :: m) g gb dd, by subst h0; rw [← mk_put]; exact rep_put (rep_newOwn hr h1 h2.1 (fun b hb => h2.2 b hb) i) (some i) _, next y h2.rowV⟩
theorem el_u8 {l : List Int} {i : Nat} (h : i < l.length) : El (iU l) 1 i [.int .u8 (l.getD i 0)] := ⟨rfl, fun f hf => by
  obtain rfl : f = 0 := by omega
  rw [Nat.mul_one, Nat.add_zero, iU, List.getElem?_map, List.getElem?_eq_getElem h, List.getD_eq_getElem?_getD, List.getElem?_eq_getElem h]; rfl⟩
/-- a pixel of an image; nought where there is none -/
def atT (n h : Nat) (pix : List Int) (x y : Int) : Int := if (0 ≤ x ∧ x < n) ∧ (0 ≤ y ∧ y < h) then pix.getD (y * n + x).toNat 0 else 0
theorem at_ix {n h : Nat} {x y : Int} (h1 : 0 ≤ x ∧ x < n) (h2 : 0 ≤ y ∧ y < h) : 0 ≤ y * n ∧ 0 ≤ y * n + x ∧ y * n + x < ((n * h : Nat) : Int) ∧ y * n ≤ ((n * h : Nat) : Int) := by
  have e1 : 0 ≤ y * (n : Int) := Int.mul_nonneg h2.1 (by omega)
  have e2 : y * (n : Int) ≤ ((h : Int) - 1) * n := Int.mul_le_mul_of_nonneg_right (by omega) (by omega)
  have e3 : ((h : Int) - 1) * n = ((n * h : Nat) : Int) - n := by rw [Int.sub_mul, Int.one_mul, Int.natCast_mul, Int.mul_comm]
  omega
/-- bounds of the statements on covers -/
def BndQ (pc : List PtT) : Prop := pc.length ≤ 10 ∧ ∀ m, m < pc.length → NearT (pc.getD m dP)
instance (pc : List PtT) : Decidable (BndQ pc) := by unfold BndQ; infer_instance
def Bn21 (ps : List (List PtT)) : Prop := ps.length ≤ 12 ∧ ∀ i, i < ps.length → BndQ (ps.getD i [])
instance (ps : List (List PtT)) : Decidable (Bn21 ps) := by unfold Bn21; infer_instance
theorem Bn21.bnd {ps : List (List PtT)} (h : Bn21 ps) : Bnd ps := ⟨by have := h.1; omega, fun i hi => ⟨by have := (h.2 i hi).1; omega, (h.2 i hi).2⟩⟩
theorem a_within (x n : Int) : Ans Try.prog 33 [.int .i64 x, .int .i64 n] (.bool (decide (0 ≤ x ∧ x < n))) := by
  refine ans_of Try.func33 rfl Try.ntmps33 Try.results33 rfl rfl fun w => ?_
  refine v_seq ?_
  refine v_region ?_
  refine l_val rfl (o_assign rfl) ?_
  refine l_nil ?_
  refine kt_norm ?_
  refine v_seq ?_
  refine v_region ?_
  refine l_val rfl (o_move rfl) ?_
  refine l_split rfl (o_leq rfl rfl) (fun q1 => ?_) (fun q1 => ?_)
  · first
    | (exfalso; omega; done)
    | (
        refine l_val rfl (o_move rfl) ?_
        refine l_val rfl (o_move rfl) ?_
        refine l_val rfl (o_move rfl) ?_
        refine l_split rfl (o_lss rfl rfl) (fun q2 => ?_) (fun q2 => ?_)
        · first
          | (exfalso; omega; done)
          | (
              refine l_val rfl (o_pickT rfl rfl) ?_
              refine l_val rfl (o_assign rfl) ?_
              refine l_nil ?_
              refine kt_norm ?_
              refine v_sel [4] [] rfl rfl ?_
              refine v_ret ?_
              refine ⟨[_], .cons (.tmp rfl) (ResAll.nil), ?_⟩
              exact congrArg Value.bool (by first | exact (decide_eq_true (by omega)).symm | exact (decide_eq_false (by omega)).symm))
        · first
          | (exfalso; omega; done)
          | (
              refine l_val rfl (o_pickT rfl rfl) ?_
              refine l_val rfl (o_assign rfl) ?_
              refine l_nil ?_
              refine kt_norm ?_
              refine v_sel [4] [] rfl rfl ?_
              refine v_ret ?_
              refine ⟨[_], .cons (.tmp rfl) (ResAll.nil), ?_⟩
              exact congrArg Value.bool (by first | exact (decide_eq_true (by omega)).symm | exact (decide_eq_false (by omega)).symm)))
  · first
    | (exfalso; omega; done)
    | (
        refine l_val rfl (o_move rfl) ?_
        refine l_no rfl ?_
        refine l_no rfl ?_
        refine l_no rfl ?_
        refine l_val rfl (o_pickF rfl rfl) ?_
        refine l_val rfl (o_assign rfl) ?_
        refine l_nil ?_
        refine kt_norm ?_
        refine v_sel [4] [] rfl rfl ?_
        refine v_ret ?_
        refine ⟨[_], .cons (.tmp rfl) (ResAll.nil), ?_⟩
        exact congrArg Value.bool (by first | exact (decide_eq_true (by omega)).symm | exact (decide_eq_false (by omega)).symm))
theorem a_AtC (w : World) (pv : Value) (n h : Nat) (pix : List Int) (x y : Int) (hnh : n * h ≤ 65536) (hl : pix.length = n * h) (hV : RowV pv pix.length) (hrow : RowAt w pv 1 pix.length (iU pix)) :
    Calls Try.prog 13 #[.agg #[.int .i64 (n : Int), .int .i64 (h : Int), pv], .int .i64 x, .int .i64 y] w fun e w' => e = .returned (.int .u8 (atT n h pix x y)) ∧ Below w.heap.size w w' := by
  have hr : ∀ w', Chg (fun _ => False) w w' → RowAt w' pv 1 pix.length (iU pix) := fun w' h => hrow.chg h (fun h => h)
  have hnn : (n : Int) ≤ 65536 ∨ h = 0 := by rcases Nat.eq_zero_or_pos h with e | e; exact .inr e; left; have := Nat.mul_le_mul_left n e; omega
  obtain ⟨ap, cp, rfl⟩ := hV.sl
  refine calls_of (args := [.agg #[.int .i64 (n : Int), .int .i64 (h : Int), .slice ap pix.length cp], .int .i64 x, .int .i64 y]) Try.func13 rfl Try.ntmps13 Try.results13 rfl ?_
  refine v_seq ?_
  refine v_region ?_
  refine l_new rfl (o_box (cs := [_, _, _]) rfl rfl) fun b3 => ?_
  refine l_val rfl (o_assign rfl) ?_
  refine l_nil ?_
  refine kt_norm ?_
  refine v_seq ?_
  refine v_seq ?_
  refine v_region ?_
  skip
  refine l_val rfl (o_move rfl) ?_
  refine l_val rfl (o_fld rfl) ?_
  refine l_val rfl (o_load1 (key := 3) rfl rfl rfl) ?_
  refine l_ans (vs := [_, _]) rfl rfl (a_within _ _) ?_
  refine lz_bool (fun hwx => ?_) (fun hwx => ?_)
  · skip
    refine l_val rfl (o_not rfl rfl) ?_
    refine l_val rfl (o_move rfl) ?_
    refine l_val rfl (o_move rfl) ?_
    refine l_val rfl (o_fld rfl) ?_
    refine l_val rfl (o_load1 (key := 3) rfl rfl rfl) ?_
    refine l_ans (vs := [_, _]) rfl rfl (a_within _ _) ?_
    refine lz_bool (fun hwy => ?_) (fun hwy => ?_)
    · skip
      refine l_val rfl (o_not rfl rfl) ?_
      refine l_val rfl (o_pickF rfl rfl) ?_
      refine l_nil ?_
      refine kt_norm ?_
      refine v_sel [1, 2, 3, 18] [3] rfl rfl ?_
      refine v_condF rfl ?_
      refine v_skip ?_
      refine kt_norm ?_
      refine v_seq ?_
      refine v_region ?_
      have hix := at_ix hwx hwy
      refine l_val rfl (o_fld rfl) ?_
      refine l_val rfl (o_load1 (key := 3) rfl rfl rfl) ?_
      refine l_val rfl (o_move rfl) ?_
      refine l_val rfl (o_fld rfl) ?_
      refine l_val rfl (o_load1 (key := 3) rfl rfl rfl) ?_
      refine l_val rfl (o_muli rfl rfl ?_) ?_
      · omega
      refine l_val rfl (o_move rfl) ?_
      refine l_val rfl (o_addi rfl rfl ?_) ?_
      · omega
      refine l_val rfl (o_idx ((y * n + x).toNat) rfl hV rfl (by omega) (by omega)) ?_
      refine l_val rfl (o_loadR1 rfl (row_imm hr) (el_u8 (l := pix) (i := (y * n + x).toNat) (by omega))) ?_
      refine l_val rfl (o_assign rfl) ?_
      refine l_nil ?_
      refine kt_norm ?_
      refine v_sel [6] [] rfl rfl ?_
      refine v_ret ?_
      refine ⟨[_], .cons (.tmp rfl) (ResAll.nil), ?_⟩
      first
        | exact congrArg (Value.int .u8) (if_pos ⟨hwx, hwy⟩).symm
        | exact congrArg (Value.int .u8) (if_neg (fun hc => hwx hc.1)).symm
        | exact congrArg (Value.int .u8) (if_neg (fun hc => hwy hc.2)).symm
    · skip
      refine l_val rfl (o_not rfl rfl) ?_
      refine l_val rfl (o_pickF rfl rfl) ?_
      refine l_nil ?_
      refine kt_norm ?_
      refine v_sel [1, 2, 3, 18] [3] rfl rfl ?_
      refine v_condT rfl ?_
      refine v_seq ?_
      refine v_region ?_
      refine l_val rfl (o_assign rfl) ?_
      refine l_nil ?_
      refine kt_norm ?_
      refine v_ret ?_
      refine kt_ret ?_
      refine ⟨[_], .cons (.tmp rfl) (ResAll.nil), ?_⟩
      first
        | exact congrArg (Value.int .u8) (if_pos ⟨hwx, hwy⟩).symm
        | exact congrArg (Value.int .u8) (if_neg (fun hc => hwx hc.1)).symm
        | exact congrArg (Value.int .u8) (if_neg (fun hc => hwy hc.2)).symm
  · skip
    refine l_val rfl (o_not rfl rfl) ?_
    refine l_val rfl (o_move rfl) ?_
    refine l_no rfl ?_
    refine l_no rfl ?_
    refine l_no rfl ?_
    refine l_no rfl ?_
    refine l_no rfl ?_
    refine l_val rfl (o_pickT rfl rfl) ?_
    refine l_nil ?_
    refine kt_norm ?_
    refine v_sel [1, 2, 3, 18] [3] rfl rfl ?_
    refine v_condT rfl ?_
    refine v_seq ?_
    refine v_region ?_
    refine l_val rfl (o_assign rfl) ?_
    refine l_nil ?_
    refine kt_norm ?_
    refine v_ret ?_
    refine kt_ret ?_
    refine ⟨[_], .cons (.tmp rfl) (ResAll.nil), ?_⟩
    first
      | exact congrArg (Value.int .u8) (if_pos ⟨hwx, hwy⟩).symm
      | exact congrArg (Value.int .u8) (if_neg (fun hc => hwx hc.1)).symm
      | exact congrArg (Value.int .u8) (if_neg (fun hc => hwy hc.2)).symm
theorem a_view21 (X Y W H : Int) (hX : -32768 ≤ X ∧ X < 32768) (hY : -32768 ≤ Y ∧ Y < 32768) (hW : 0 ≤ W ∧ W < 256) (hH : 0 ≤ H ∧ H < 256) : Ans Try.prog 9 [.int .i16 X, .int .i16 Y, .int .u8 W, .int .u8 H] (.agg #[.int .i64 X, .int .i64 Y, .int .i64 (1 + W % 12), .int .i64 (1 + H % 8)]) := by
  refine ans_of Try.func9 rfl Try.ntmps9 Try.results9 rfl rfl fun w => ?_
  refine v_seq ?_
  refine v_region ?_
  refine l_new rfl o_alloc fun b8 => ?_
  refine l_nil ?_
  refine kt_norm ?_
  refine v_seq ?_
  refine v_region ?_
  refine l_val rfl (o_move rfl) ?_
  refine l_val rfl (o_convi rfl ?_) ?_
  · omega
  refine l_val rfl (o_move rfl) ?_
  refine l_val rfl (o_convi rfl ?_) ?_
  · omega
  refine l_val rfl (o_move rfl) ?_
  refine l_val rfl (o_convi rfl ?_) ?_
  · omega
  refine l_val rfl (o_remn rfl rfl ?_) ?_
  · omega
  refine l_val rfl (o_addi rfl rfl ?_) ?_
  · omega
  refine l_val rfl (o_move rfl) ?_
  refine l_val rfl (o_convi rfl ?_) ?_
  · omega
  refine l_val rfl (o_remn rfl rfl ?_) ?_
  · omega
  refine l_val rfl (o_addi rfl rfl ?_) ?_
  · omega
  refine l_val rfl (o_build (vs := [_, _, _, _]) (cs := [_, _, _, _]) rfl rfl) ?_
  refine l_store rfl (o_storeW (key := 8) (xs := [_, _, _, _]) rfl rfl rfl rfl rfl rfl rfl) ?_
  refine l_nil ?_
  refine kt_norm ?_
  refine v_sel [8] [8] rfl rfl ?_
  refine v_ret ?_
  refine ⟨[_], .cons (.cellW (key := 8) rfl rfl rfl) (ResAll.nil), ?_⟩
  rfl
theorem a_bounded21 (w : World) (v : Value) (pvs : List Value) (ps : List (List PtT)) (hv : PcsW v pvs ps) (hat : PcsAt w v pvs ps) : Calls Try.prog 6 #[v] w fun e w' => e = .returned (.bool (decide (Bn21 ps))) ∧ Below w.heap.size w w' := by
  have hVp := hv.V
  have hlen := hv.len
  have hrowP : ∀ w', Chg (fun _ => False) w w' → RowAt w' v 1 ps.length pvs := fun w' h => (hat.keep h).row
  refine calls_of (args := [v]) Try.func6 rfl Try.ntmps6 Try.results6 rfl ?_
  refine v_seq ?_
  refine v_region ?_
  refine l_val rfl (o_assign rfl) ?_
  refine l_nil ?_
  refine kt_norm ?_
  refine v_seq ?_
  refine v_seq ?_
  refine v_region ?_
  refine l_val rfl (o_assign rfl) ?_
  refine l_nil ?_
  refine kt_norm ?_
  refine v_block ?_
  refine v_loopS (α := Nat) (fun i => [(3, .int .i64 (i : Int))]) (fun i => [])  (fun i => i ≤ ps.length ∧ ∀ k, k < i → BndQ (ps.getD k [])) (fun i => ps.length - i) 0 [0] [] ⟨by omega, fun k h => by omega⟩  (And.intro rfl (True.intro)) rfl (True.intro) rfl ?_
  rintro i ⟨hi, hB⟩
  refine v_seq ?_
  refine v_seq ?_
  refine v_region ?_
  refine l_val rfl (o_move rfl) ?_
  refine l_val rfl (o_move rfl) ?_
  refine l_val rfl (o_len rfl hVp) ?_
  refine l_split rfl (o_lss rfl rfl) (fun q1 => ?_) (fun q1 => ?_)
  · have hil : i < ps.length := by omega
    obtain ⟨pc, hpc⟩ : ∃ pc, ps.getD i [] = pc := ⟨_, rfl⟩
    have hVq := hv.pV i hil
    have hrowQ : ∀ w', Chg (fun _ => False) w w' → RowAt w' (pvs.getD i undef) 2 (ps.getD i []).length ((ps.getD i []).flatMap eP) := fun w' h => (hat.keep h).pc i hil
    rw [hpc] at hVq hrowQ
    refine l_nil ?_
    refine kt_norm ?_
    refine v_condT rfl ?_
    refine v_skip ?_
    refine kt_norm ?_
    refine v_seq ?_
    refine v_block ?_
    refine v_seq ?_
    refine v_seq ?_
    refine v_region ?_
    refine l_val rfl (o_move rfl) ?_
    refine l_val rfl (o_move rfl) ?_
    refine l_val rfl (o_idx (i) rfl hVp rfl (by first | rfl | omega) (by omega)) ?_
    refine l_val rfl (o_loadR1 rfl (row_imm hrowP) (el_one (by rw [hv.lenv]; exact hil))) ?_
    refine l_val rfl (o_len rfl hVq) ?_
    refine l_split rfl (o_gtr rfl rfl) (fun h16 => ?_) (fun h16 => ?_)
    · skip
      refine l_nil ?_
      refine kt_norm ?_
      refine v_sel [3, 0, 16] [] rfl rfl ?_
      refine v_condT rfl ?_
      refine v_seq ?_
      refine v_region ?_
      refine l_val rfl (o_assign rfl) ?_
      refine l_nil ?_
      refine kt_norm ?_
      refine v_ret ?_
      refine kt_ret ?_
      refine kb_ret ?_
      refine kt_ret ?_
      refine kt_ret ?_
      refine kb_ret ?_
      refine kt_ret ?_
      refine ⟨[_], .cons (.tmp rfl) (ResAll.nil), ?_⟩
      first
        | exact congrArg Value.bool (decide_eq_false fun h => by have := (h.2 i hil).1; rw [hpc] at this; omega).symm
        | exact congrArg Value.bool (decide_eq_false fun h => by have := (h.2 i hil).2 j (by rw [hpc]; exact hjl); rw [hpc] at this; exact absurd this hnr).symm
        | exact congrArg Value.bool (decide_congr ⟨fun h => ⟨by omega, fun k hk => hB k (by omega)⟩, fun h => by have := h.1; omega⟩)
    · skip
      refine l_nil ?_
      refine kt_norm ?_
      refine v_sel [3, 0, 16] [] rfl rfl ?_
      refine v_condF rfl ?_
      refine v_skip ?_
      refine kt_norm ?_
      refine v_seq ?_
      refine v_region ?_
      refine l_val rfl (o_assign rfl) ?_
      refine l_nil ?_
      refine kt_norm ?_
      refine v_block ?_
      refine v_loopS (α := Nat) (fun j => [(4, .int .i64 (j : Int))]) (fun j => [])  (fun j => j ≤ pc.length ∧ ∀ k, k < j → NearT (pc.getD k dP)) (fun j => pc.length - j) 0 [3, 0] [] ⟨by omega, fun k h => by omega⟩  (And.intro rfl (True.intro)) rfl (True.intro) rfl ?_
      rintro j ⟨hj, hN⟩
      refine v_seq ?_
      refine v_seq ?_
      refine v_region ?_
      refine l_val rfl (o_move rfl) ?_
      refine l_val rfl (o_move rfl) ?_
      refine l_val rfl (o_move rfl) ?_
      refine l_val rfl (o_idx (i) rfl hVp rfl (by first | rfl | omega) (by omega)) ?_
      refine l_val rfl (o_loadR1 rfl (row_imm hrowP) (el_one (by rw [hv.lenv]; exact hil))) ?_
      refine l_val rfl (o_len rfl hVq) ?_
      refine l_split rfl (o_lss rfl rfl) (fun q2 => ?_) (fun q2 => ?_)
      · have hjl : j < pc.length := by omega
        refine l_nil ?_
        refine kt_norm ?_
        refine v_sel [4, 3, 0, 23] [] rfl rfl ?_
        refine v_condT rfl ?_
        refine v_skip ?_
        refine kt_norm ?_
        refine v_seq ?_
        refine v_block ?_
        refine v_seq ?_
        refine v_region ?_
        refine l_val rfl (o_move rfl) ?_
        refine l_val rfl (o_move rfl) ?_
        refine l_val rfl (o_idx (i) rfl hVp rfl (by first | rfl | omega) (by omega)) ?_
        refine l_val rfl (o_loadR1 rfl (row_imm hrowP) (el_one (by rw [hv.lenv]; exact hil))) ?_
        refine l_val rfl (o_move rfl) ?_
        refine l_val rfl (o_idx (j) rfl hVq rfl (by first | rfl | omega) (by omega)) ?_
        refine l_val rfl (o_loadRE (c' := [_, _]) rfl (row_imm hrowQ) (el_flat eP_len dP pc (j) (by omega)) rfl) ?_
        refine l_ans (vs := [_]) rfl rfl (a_Near (pc.getD j dP)) ?_
        refine lz_bool (fun hnr => ?_) (fun hnr => ?_)
        · skip
          refine l_val rfl (o_not rfl rfl) ?_
          refine l_nil ?_
          refine kt_norm ?_
          refine v_sel [4, 3, 0, 34] [] rfl rfl ?_
          refine v_condF rfl ?_
          refine v_skip ?_
          refine kb_norm ?_
          refine kt_norm ?_
          refine v_region ?_
          refine l_val rfl (o_move rfl) ?_
          refine l_val rfl (o_addi rfl rfl ?_) ?_
          · omega
          refine l_val rfl (o_assign rfl) ?_
          refine l_nil ?_
          refine kt_norm ?_
          refine ⟨j + 1, ⟨hjl, fun k hk => by rcases Nat.lt_or_eq_of_le (Nat.le_of_lt_succ hk) with h | h; exact hN k h; subst h; assumption⟩, by omega, le_app (And.intro rfl (True.intro)) [3, 0] rfl (True.intro) [] rfl⟩
        · skip
          refine l_val rfl (o_not rfl rfl) ?_
          refine l_nil ?_
          refine kt_norm ?_
          refine v_sel [4, 3, 0, 34] [] rfl rfl ?_
          refine v_condT rfl ?_
          refine v_seq ?_
          refine v_region ?_
          refine l_val rfl (o_assign rfl) ?_
          refine l_nil ?_
          refine kt_norm ?_
          refine v_ret ?_
          refine kb_ret ?_
          refine kt_ret ?_
          refine kt_ret ?_
          refine kb_ret ?_
          refine kb_ret ?_
          refine kt_ret ?_
          refine kt_ret ?_
          refine kb_ret ?_
          refine kt_ret ?_
          refine ⟨[_], .cons (.tmp rfl) (ResAll.nil), ?_⟩
          first
            | exact congrArg Value.bool (decide_eq_false fun h => by have := (h.2 i hil).1; rw [hpc] at this; omega).symm
            | exact congrArg Value.bool (decide_eq_false fun h => by have := (h.2 i hil).2 j (by rw [hpc]; exact hjl); rw [hpc] at this; exact absurd this hnr).symm
            | exact congrArg Value.bool (decide_congr ⟨fun h => ⟨by omega, fun k hk => hB k (by omega)⟩, fun h => by have := h.1; omega⟩)
      · skip
        refine l_nil ?_
        refine kt_norm ?_
        refine v_sel [4, 3, 0, 23] [] rfl rfl ?_
        refine v_condF rfl ?_
        refine v_exit ?_
        refine kt_exit ?_
        refine kt_exit ?_
        refine kb_eq ?_
        refine kb_norm ?_
        refine kt_norm ?_
        refine v_region ?_
        refine l_val rfl (o_move rfl) ?_
        refine l_val rfl (o_addi rfl rfl ?_) ?_
        · omega
        refine l_val rfl (o_assign rfl) ?_
        refine l_nil ?_
        refine kt_norm ?_
        refine ⟨i + 1, ⟨hil, fun k hk => by rcases Nat.lt_or_eq_of_le (Nat.le_of_lt_succ hk) with h | h; exact hB k h; subst h; rw [hpc]; exact ⟨by omega, fun m hm => hN m (by omega)⟩⟩, by omega, le_app (And.intro rfl (True.intro)) [0] rfl (True.intro) [] rfl⟩
  · skip
    refine l_nil ?_
    refine kt_norm ?_
    refine v_condF rfl ?_
    refine v_exit ?_
    refine kt_exit ?_
    refine kt_exit ?_
    refine kb_eq ?_
    refine kt_norm ?_
    refine v_seq ?_
    refine v_region ?_
    refine l_val rfl (o_move rfl) ?_
    refine l_val rfl (o_len rfl hVp) ?_
    refine l_val rfl (o_leq rfl rfl) ?_
    refine l_val rfl (o_assign rfl) ?_
    refine l_nil ?_
    refine kt_norm ?_
    refine v_sel [2] [] rfl rfl ?_
    refine v_ret ?_
    refine ⟨[_], .cons (.tmp rfl) (ResAll.nil), ?_⟩
    first
      | exact congrArg Value.bool (decide_eq_false fun h => by have := (h.2 i hil).1; rw [hpc] at this; omega).symm
      | exact congrArg Value.bool (decide_eq_false fun h => by have := (h.2 i hil).2 j (by rw [hpc]; exact hjl); rw [hpc] at this; exact absurd this hnr).symm
      | exact congrArg Value.bool (decide_congr ⟨fun h => ⟨by omega, fun k hk => hB k (by omega)⟩, fun h => by have := h.1; omega⟩)

def pcC : List PtT := [⟨128, 0⟩, ⟨512, 0⟩, ⟨512, 256⟩, ⟨128, 256⟩]
theorem pcsV_oneC {v p : Value} {pc : List PtT} (h : RowV v 1) (hp : RowV p pc.length) (hs : pc.length ≤ 1000000) (hn : ∀ p ∈ pc, NearT p) : PcsV v [p] [pc] :=
  ⟨h, rfl, (show 1 ≤ 1099511627776 by omega), fun i hi => by match i, hi with | 0, _ => exact hp | n + 1, h => exact absurd h (by show ¬ n + 1 < 1; omega), fun i hi => by match i, hi with | 0, _ => show pc.length ≤ _; omega | n + 1, h => exact absurd h (by show ¬ n + 1 < 1; omega), fun i hi => by match i, hi with | 0, _ => exact hn | n + 1, h => exact absurd h (by show ¬ n + 1 < 1; omega)⟩
theorem nearC : ∀ p ∈ pcC, NearT p := by decide
theorem bndC : Bnd [pcC] := by decide
theorem pixC : pixT (tabT 0 0 3 2 [pcC]) 0 0 3 2 = [128, 255, 0, 0, 0, 0] := by
  have h : tabT 0 0 3 2 [pcC] = [⟨512, 0, 0, 256, 1, 0, 16⟩, ⟨128, 0, 0, 256, -1, 0, 16⟩] := by unfold tabT; rw [if_pos (by decide)]; rfl
  rw [h]; rfl
theorem a_CovC (w : World) (v p : Value) (hV : RowV v 1) (hp : RowV p 4) (h : RowAt w v 1 1 [p]) (h1 : RowAt w p 2 4 (pcC.flatMap eP)) :
    Calls Try.prog 8 #[v, .agg #[.int .i64 0, .int .i64 0, .int .i64 3, .int .i64 2]] w fun e w' => ∃ y, e = .returned (.tuple #[.agg #[.int .i64 3, .int .i64 2, y], .int .i64 0]) ∧ Below w.heap.size w w' ∧ OwnAt w.heap.size w' y 5 1 6 (iU [128, 255, 0, 0, 0, 0]) := by
  have := a_cover w v [p] [pcC] 0 0 3 2 bndC (pcsV_oneC hV hp (by decide) nearC) (pcsAt_one h h1) (by decide)
  rw [show ((3 : Nat) : Int) = 3 from rfl, show ((2 : Nat) : Int) = 2 from rfl, pixC] at this
  exact this
theorem a_shown21  : Ans Try.prog 7 [] (.bool true) := by
  refine ans_of Try.func7 rfl Try.ntmps7 Try.results7 rfl rfl fun w => ?_
  refine v_seq ?_
  refine v_region ?_
  refine l_val rfl (o_assign rfl) ?_
  refine l_nil ?_
  refine kt_norm ?_
  refine v_seq ?_
  refine v_region ?_
  refine l_val rfl (o_build (vs := [_]) (cs := [_, _]) rfl rfl) ?_
  refine l_val rfl (o_build (vs := [_]) (cs := [_, _]) rfl rfl) ?_
  refine l_val rfl (o_build (vs := [_, _]) (cs := [_, _]) rfl rfl) ?_
  refine l_val rfl (o_build (vs := [_, _]) (cs := [_, _]) rfl rfl) ?_
  refine l_buildSlice (vs := [_, _, _, _]) (cs := [_, _, _, _, _, _, _, _]) rfl rfl rfl rfl rfl rfl fun v8 hv8 => ?_
  obtain ⟨a8, c8, rfl⟩ := hv8.sl
  refine l_buildSlice (vs := [_]) (cs := [_]) rfl rfl rfl rfl rfl rfl fun v9 hv9 => ?_
  refine l_val rfl (o_build (vs := [_, _]) (cs := [_, _, _, _]) rfl rfl) ?_
  refine l_gownF (fun y => .tuple #[.agg #[.int .i64 3, .int .i64 2, y], .int .i64 0]) (ks := [9, 8]) (caps := #[]) (vs := [_, _]) rfl rfl (ent_of Try.func8 rfl rfl) rfl (fun w' hg hh => a_CovC w' v9 _ hv9 hv8 (rowAt_own (hh 9 (by simp) _ rfl)) (rowAt_own (hh 8 (by simp) _ rfl))) fun yi hyi => ?_
  obtain ⟨ayi, cyi, rfl⟩ := hyi.sl
  refine l_val rfl (o_move rfl) ?_
  refine l_val rfl (o_extract rfl rfl) ?_
  refine l_val rfl (o_extract rfl rfl) ?_
  refine l_new rfl o_alloc fun b1 => ?_
  refine l_store rfl (o_storeW (key := 1) (xs := [_, _, _]) rfl rfl rfl rfl rfl rfl rfl) ?_
  refine l_val rfl (o_assign rfl) ?_
  refine l_nil ?_
  refine kt_norm ?_
  refine v_sel [1, 2] [1, 8, 9, 11] rfl rfl ?_
  refine v_seq ?_
  refine v_region ?_
  skip
  refine l_val rfl (o_move rfl) ?_
  refine l_val rfl (o_eql rfl rfl) ?_
  refine l_val rfl (o_move rfl) ?_
  refine l_val rfl (o_fld rfl) ?_
  refine l_val rfl (o_load1 (key := 1) rfl rfl rfl) ?_
  refine l_val rfl (o_len rfl hyi) ?_
  refine l_val rfl (o_eql rfl rfl) ?_
  refine l_val rfl (o_pickT rfl rfl) ?_
  refine l_val rfl (o_move rfl) ?_
  refine l_val rfl (o_fld rfl) ?_
  refine l_val rfl (o_load1 (key := 1) rfl rfl rfl) ?_
  refine l_val rfl (o_idx (0) rfl hyi rfl (by first | rfl | omega) (by decide)) ?_
  refine l_val rfl (o_loadR1 rfl (row_own (key := 11) rfl) (el_lit (esz := 1) (i := 0) (c := [_]) rfl rfl)) ?_
  refine l_val rfl (o_eql rfl rfl) ?_
  refine l_val rfl (o_pickT rfl rfl) ?_
  refine l_val rfl (o_move rfl) ?_
  refine l_val rfl (o_fld rfl) ?_
  refine l_val rfl (o_load1 (key := 1) rfl rfl rfl) ?_
  refine l_val rfl (o_idx (1) rfl hyi rfl (by first | rfl | omega) (by decide)) ?_
  refine l_val rfl (o_loadR1 rfl (row_own (key := 11) rfl) (el_lit (esz := 1) (i := 1) (c := [_]) rfl rfl)) ?_
  refine l_val rfl (o_eql rfl rfl) ?_
  refine l_val rfl (o_pickT rfl rfl) ?_
  refine l_val rfl (o_move rfl) ?_
  refine l_val rfl (o_fld rfl) ?_
  refine l_val rfl (o_load1 (key := 1) rfl rfl rfl) ?_
  refine l_val rfl (o_idx (2) rfl hyi rfl (by first | rfl | omega) (by decide)) ?_
  refine l_val rfl (o_loadR1 rfl (row_own (key := 11) rfl) (el_lit (esz := 1) (i := 2) (c := [_]) rfl rfl)) ?_
  refine l_val rfl (o_eql rfl rfl) ?_
  refine l_val rfl (o_pickT rfl rfl) ?_
  refine l_val rfl (o_move rfl) ?_
  refine l_val rfl (o_fld rfl) ?_
  refine l_val rfl (o_load1 (key := 1) rfl rfl rfl) ?_
  refine l_val rfl (o_idx (3) rfl hyi rfl (by first | rfl | omega) (by decide)) ?_
  refine l_val rfl (o_loadR1 rfl (row_own (key := 11) rfl) (el_lit (esz := 1) (i := 3) (c := [_]) rfl rfl)) ?_
  refine l_val rfl (o_eql rfl rfl) ?_
  refine l_val rfl (o_pickT rfl rfl) ?_
  refine l_val rfl (o_move rfl) ?_
  refine l_val rfl (o_loadW (key := 1) rfl rfl rfl) ?_
  refine l_call (ks := [11]) rfl (o_callC (vs := [_, _, _]) (r := .int .u8 255) (ent_of Try.func13 rfl rfl) rfl (fun w' hg hh => (show atT 3 2 [128, 255, 0, 0, 0, 0] 1 0 = 255 by decide) ▸ a_AtC w' (.slice ayi 6 cyi) 3 2 [128, 255, 0, 0, 0, 0] 1 0 (by omega) rfl hyi (rowAt_own (hh 11 (by simp) _ rfl)))) ?_
  refine l_val rfl (o_eql rfl rfl) ?_
  refine l_val rfl (o_pickT rfl rfl) ?_
  refine l_val rfl (o_move rfl) ?_
  refine l_val rfl (o_loadW (key := 1) rfl rfl rfl) ?_
  refine l_call (ks := [11]) rfl (o_callC (vs := [_, _, _]) (r := .int .u8 0) (ent_of Try.func13 rfl rfl) rfl (fun w' hg hh => (show atT 3 2 [128, 255, 0, 0, 0, 0] 3 0 = 0 by decide) ▸ a_AtC w' (.slice ayi 6 cyi) 3 2 [128, 255, 0, 0, 0, 0] 3 0 (by omega) rfl hyi (rowAt_own (hh 11 (by simp) _ rfl)))) ?_
  refine l_val rfl (o_eql rfl rfl) ?_
  refine l_val rfl (o_pickT rfl rfl) ?_
  refine l_val rfl (o_move rfl) ?_
  refine l_ans (vs := [_]) rfl rfl (a_Value _) ?_
  refine l_val rfl (o_eql rfl rfl) ?_
  refine l_val rfl (o_pickT rfl rfl) ?_
  refine l_val rfl (o_assign rfl) ?_
  refine l_nil ?_
  refine kt_norm ?_
  refine v_sel [0] [1, 8, 9, 11] rfl rfl ?_
  refine v_ret ?_
  refine ⟨[_], .cons (.tmp rfl) (ResAll.nil), ?_⟩
  rfl


theorem valM2 (x : Int) : (if 4096 < (if x < 0 then 0 else x) then 4096 else if x < 0 then 0 else x) = valM x := by
  unfold valM; (repeat' split) <;> omega

end Go.Proofs.Ytllhohbenniaaaa

/- What is measured, and its value, are as the document has them. Conditions: none. -/
namespace Go.Proofs.Ytllhohbenniaaaa
open Go.Proofs Go.RowKit Go.Shelf


end Go.Proofs.Ytllhohbenniaaaa

/- A pixel is what the spans of its rows measure, whatever the view. Conditions: none. -/
namespace Go.Proofs.Ytllhohbenniaaaa
open Go.Proofs Go.RowKit Go.Shelf

theorem wf_u8 {a : Int} (h : (Lit.int .u8 a).wf = true) : 0 ≤ a ∧ a < 256 := by
  simp only [Lit.wf, Bool.and_eq_true, decide_eq_true_eq] at h
  have e1 : IntKind.u8.min = 0 := by decide
  have e2 : IntKind.u8.max = 255 := by decide
  omega
/-- what the spans of the 16 rows of a pixel measure of it -/
def covK (ps : List (List PtT)) (c y : Int) : Nat → Int
  | 0 => 0
  | k + 1 => covK ps c y k + sumF (lenC (256 * c) (256 * c + 256)) (rowS (crs (16 * y + k) (liveT (16 * y + k) (edgesAll ps))))
def covA (ps : List (List PtT)) (c y : Int) : Int := covK ps c y 16
theorem live_cut_yes {f t r : Int} {e : EdgeT} (hf : f ≤ r) (ht : r < t) (h : e.fr ≤ r ∧ r < e.to) : (cutE f t e).fr ≤ r ∧ r < (cutE f t e).to := by
  rw [cutE_fr, cutE_to]; constructor <;> split <;> omega
theorem live_view {f t r : Int} (hf : f ≤ r) (ht : r < t) : ∀ l : List EdgeT, crs r (liveT r (viewEs f t l)) = crs r (liveT r l)
  | [] => rfl
  | e :: l => by
    have ih := live_view hf ht l
    have e1 : viewEs f t (e :: l) = (if (cutE f t e).fr < (cutE f t e).to then [cutE f t e] else []) ++ viewEs f t l := by
      have h1 : e :: l = [e] ++ l := rfl
      unfold viewEs
      rw [h1, List.map_append, List.filter_append]
      congr 1
      by_cases hc : (cutE f t e).fr < (cutE f t e).to <;> simp [hc]
    have e2 : liveT r (e :: l) = liveT r [e] ++ liveT r l := live_append r [e] l
    have c1 : ∀ a b : List EdgeT, crs r (a ++ b) = crs r a ++ crs r b := fun a b => by simp [crs]
    rw [e1, live_append, e2, c1, c1, ih]
    congr 1
    by_cases hl : e.fr ≤ r ∧ r < e.to
    · have h2 := live_cut_yes hf ht hl
      rw [if_pos (by omega), live_one_yes h2, live_one_yes hl]; rfl
    · rw [live_one_no hl]
      split
      · rename_i hc
        rw [live_one_no (e := cutE f t e)]
        rw [cutE_fr, cutE_to] at *
        intro ⟨h3, h4⟩
        apply hl
        constructor
        · split at h3 <;> omega
        · split at h4 <;> omega
      · rfl
theorem row_tab {X Y W H r : Int} {ps : List (List PtT)} (hv : ViewOk X Y W H) (h1 : 16 * Y ≤ r) (h2 : r < 16 * (Y + H)) : rowS (crs r (liveT r (tabT X Y W H ps))) = rowS (crs r (liveT r (edgesAll ps))) := by
  unfold tabT
  rw [if_pos hv, ← live_view h1 h2 (edgesAll ps)]
  exact (rowS_perm (List.Perm.map _ (List.Perm.filter _ (stSort_perm _)))).symm
theorem cov_row {X Y : Int} {n h : Nat} {ps : List (List PtT)} (hv : ViewOk X Y (n : Int) (h : Int)) {j : Nat} (hj : j < h) (p : Nat) : ∀ k, k ≤ 16 → rowSum (tabT X Y (n : Int) (h : Int) ps) X p (16 * (Y + j)) k = covK ps (X + p) (Y + j) k
  | 0, _ => rfl
  | k + 1, hk => by
    rw [rowSum, covK, cov_row hv hj p k (by omega)]
    congr 1
    unfold measT
    rw [row_tab hv (by omega) (by omega)]
    unfold pxC
    rw [show X * 256 + 256 * (p : Int) = 256 * (X + p) by omega]
theorem pixT_get {T : List EdgeT} {X Y : Int} {n : Nat} : ∀ (h j i : Nat), i < n → j < h → (pixT T X Y n h).getD (j * n + i) 0 = valT (rowSum T X i (16 * (Y + j)) 16)
  | 0, j, i, _, hj => absurd hj (by omega)
  | h + 1, j, i, hi, hj => by
    have hl := pixT_len T X Y n h
    rw [pixT, List.getD_eq_getElem?_getD, List.getElem?_append]
    by_cases e : j = h
    · subst e
      rw [if_neg (by omega), hl, show j * n + i - j * n = i by omega]
      simp [pixRow, hi]
    · have h1 : (j + 1) * n ≤ h * n := Nat.mul_le_mul_right n (by omega)
      rw [Nat.succ_mul] at h1
      rw [if_pos (by omega), ← List.getD_eq_getElem?_getD]
      exact pixT_get h j i hi (by omega)
theorem atT_img {X Y x y : Int} {n h : Nat} {ps : List (List PtT)} (hv : ViewOk X Y (n : Int) (h : Int)) (hx : X ≤ x ∧ x < X + n) (hy : Y ≤ y ∧ y < Y + h) : atT n h (pixT (tabT X Y (n : Int) (h : Int) ps) X Y n h) (x - X) (y - Y) = valT (covA ps x y) := by
  obtain ⟨i, hi⟩ : ∃ i : Nat, (i : Int) = x - X := ⟨(x - X).toNat, by omega⟩
  obtain ⟨j, hj⟩ : ∃ j : Nat, (j : Int) = y - Y := ⟨(y - Y).toNat, by omega⟩
  unfold atT
  rw [if_pos (by omega), ← hi, ← hj, show (((j : Int) * n + i).toNat) = j * n + i by rw [← Int.natCast_mul]; omega, pixT_get h j i (by omega) (by omega), cov_row hv (by omega) i 16 (Nat.le_refl _)]
  unfold covA
  rw [show X + (i : Int) = x by omega, show Y + (j : Int) = y by omega]
theorem pix_len2 {T : List EdgeT} {X Y : Int} {n h : Nat} : (pixT T X Y n h).length = n * h := by rw [pixT_len, Nat.mul_comm]
theorem nh_le {n h : Nat} (h1 : n ≤ 256) (h2 : h ≤ 256) : n * h ≤ 65536 := Nat.le_trans (Nat.mul_le_mul h1 h2) (by decide)

end Go.Proofs.Ytllhohbenniaaaa

/- Pieces and a view that are shifted alike have one cover. Conditions: none. -/
namespace Go.Proofs.Ytllhohbenniaaaa
open Go.Proofs Go.RowKit Go.Shelf

theorem lenC_sh (d lo hi : Int) (s : SpanT) : lenC (lo + d) (hi + d) (shS d s) = lenC lo hi s := by
  have e1 := lenC_def (lo + d) (hi + d) (shS d s)
  have e2 := lenC_def lo hi s
  have f1 : (shS d s).fr = s.fr + d := rfl
  have f2 : (shS d s).to = s.to + d := rfl
  rw [f1, f2] at e1
  by_cases hc : max lo s.fr < min hi s.to
  · have h3 := e1.1 (by omega); have h4 := e2.1 hc; omega
  · have h3 := e1.2 (by omega); have h4 := e2.2 hc; omega
theorem covK_shift (dx dy c y : Int) (ps : List (List PtT)) : ∀ k, covK (shPs (256 * dx) (256 * dy) ps) (c + dx) (y + dy) k = covK ps c y k
  | 0 => rfl
  | k + 1 => by
    rw [covK, covK, covK_shift dx dy c y ps k]
    congr 1
    rw [show 16 * (y + dy) + (k : Int) = 16 * y + k + 16 * dy by omega, row_shift, sumF_map]
    refine sumF_congr _ fun s _ => ?_
    rw [show 256 * (c + dx) = 256 * c + 256 * dx by omega, show 256 * c + 256 * dx + 256 = 256 * c + 256 + 256 * dx by omega]
    exact lenC_sh _ _ _ _
/-- a cover, pixel by pixel -/
def covPix (ps : List (List PtT)) (X Y : Int) (n : Nat) : Nat → List Int
  | 0 => []
  | k + 1 => covPix ps X Y n k ++ (List.range n).map fun p : Nat => valT (covA ps (X + p) (Y + k))
theorem pixT_cov {X Y : Int} {n h : Nat} {ps : List (List PtT)} (hv : ViewOk X Y (n : Int) (h : Int)) : ∀ k, k ≤ h → pixT (tabT X Y (n : Int) (h : Int) ps) X Y n k = covPix ps X Y n k
  | 0, _ => rfl
  | k + 1, hk => by
    have h1 : pixRow (tabT X Y (n : Int) (h : Int) ps) X n (16 * (Y + (k : Int))) = (List.range n).map fun p : Nat => valT (covA ps (X + p) (Y + k)) := by
      unfold pixRow
      refine List.map_congr_left fun p _ => ?_
      unfold covA
      rw [← cov_row hv (show k < h by omega) p 16 (Nat.le_refl _)]
    rw [pixT, covPix, pixT_cov hv k (by omega), h1]
theorem covPix_shift (dx dy X Y : Int) (n : Nat) (ps : List (List PtT)) : ∀ k, covPix (shPs (256 * dx) (256 * dy) ps) (X + dx) (Y + dy) n k = covPix ps X Y n k
  | 0 => rfl
  | k + 1 => by
    rw [covPix, covPix, covPix_shift dx dy X Y n ps k]
    congr 1
    refine List.map_congr_left fun p _ => ?_
    rw [show X + dx + (p : Int) = X + p + dx by omega, show Y + dy + (k : Int) = Y + k + dy by omega]
    unfold covA
    rw [covK_shift]
theorem pix_shift {dx dy X Y : Int} {n h : Nat} {ps : List (List PtT)} (hv : ViewOk X Y (n : Int) (h : Int)) (hv2 : ViewOk (X + dx) (Y + dy) (n : Int) (h : Int)) : pixT (tabT X Y (n : Int) (h : Int) ps) X Y n h = pixT (tabT (X + dx) (Y + dy) (n : Int) (h : Int) (shPs (256 * dx) (256 * dy) ps)) (X + dx) (Y + dy) n h := by
  rw [pixT_cov hv h (Nat.le_refl _), pixT_cov hv2 h (Nat.le_refl _), covPix_shift]
theorem fill_one {v : Value} {n : Nat} (h : RowV v n) : fillL [(0, 1)] [.slice none 0 0] [(0, v)] = some [v] := by
  obtain ⟨a, c, rfl⟩ := h.sl; rfl
theorem all_one {v : Value} {n : Nat} (h : RowV v n) : [v].all (·.oneCell') = true := by
  obtain ⟨a, c, rfl⟩ := h.sl; rfl
theorem a_EqualU (w : World) (v u : Value) (p : List Int) (hn : p.length ≤ 1000000) (hV : RowV v p.length) (hrow : RowAt w v 1 p.length (iU p)) (hU : RowV u p.length) (hrow2 : RowAt w u 1 p.length (iU p)) :
    Calls Try.prog 34 #[v, u] w fun e w' => e = .returned (.bool true) ∧ Below w.heap.size w w' := by
  have hr : ∀ w', Chg (fun _ => False) w w' → RowAt w' v 1 p.length (iU p) := fun w' h => hrow.chg h (fun h => h)
  have hr2 : ∀ w', Chg (fun _ => False) w w' → RowAt w' u 1 p.length (iU p) := fun w' h => hrow2.chg h (fun h => h)
  refine calls_of (args := [v, u]) Try.func34 rfl Try.ntmps34 Try.results34 rfl ?_
  refine v_seq ?_
  refine v_region ?_
  refine l_val rfl (o_assign rfl) ?_
  refine l_nil ?_
  refine kt_norm ?_
  refine v_seq ?_
  refine v_seq ?_
  refine v_region ?_
  refine l_val rfl (o_move rfl) ?_
  refine l_val rfl (o_len rfl hV) ?_
  refine l_val rfl (o_move rfl) ?_
  refine l_val rfl (o_len rfl hU) ?_
  refine l_split rfl (o_neq rfl rfl) (fun q1 => absurd q1 (by omega)) (fun q1 => ?_)
  refine l_nil ?_
  refine kt_norm ?_
  refine v_condF rfl ?_
  refine v_skip ?_
  refine kt_norm ?_
  refine v_sel [0, 1] [] rfl rfl ?_
  refine v_seq ?_
  refine v_seq ?_
  refine v_region ?_
  refine l_val rfl (o_move rfl) ?_
  refine l_val rfl (o_len rfl hV) ?_
  refine l_val rfl (o_move rfl) ?_
  refine l_nil ?_
  refine kt_norm ?_
  refine v_block ?_
  refine v_loopS (α := Nat) (fun i => [(13, .int .i64 (i : Int))]) (fun i => [])  (fun i => i ≤ p.length) (fun i => p.length - i) 0 [0, 1, 12] [] (Nat.zero_le _)  (And.intro rfl (True.intro)) rfl (True.intro) rfl ?_
  rintro i hi
  refine v_seq ?_
  refine v_region ?_
  refine l_split rfl (o_lss rfl rfl) (fun q2 => ?_) (fun q2 => ?_)
  · skip
    refine l_nil ?_
    refine kt_norm ?_
    refine v_seq ?_
    refine v_condT rfl ?_
    refine v_skip ?_
    refine kt_norm ?_
    refine v_seq ?_
    refine v_block ?_
    refine v_seq ?_
    refine v_region ?_
    refine l_val rfl (o_move rfl) ?_
    refine l_val rfl (o_assign rfl) ?_
    refine l_nil ?_
    refine kt_norm ?_
    refine v_seq ?_
    refine v_drawZ [[], [], [], [], [], [], [], [], []] mixed ?_ (by kernel_rfl) (by kernel_rfl)
    refine d_val (fun _ => rfl) rfl rfl (fun _ => o_move rfl) ?_
    refine d_val (fun _ => rfl) rfl rfl (fun _ => o_move rfl) ?_
    refine d_val (fun _ => rfl) rfl rfl (fun _ => o_idx (i) rfl hV rfl (by first | rfl | omega) (by omega)) ?_
    refine d_val (fun _ => rfl) rfl rfl (fun _ => o_loadR1 rfl (row_imm hr) (el_u8 (l := p) (i := i) (by omega))) ?_
    refine d_val (fun _ => rfl) rfl rfl (fun _ => o_move rfl) ?_
    refine d_val (fun _ => rfl) rfl rfl (fun _ => o_move rfl) ?_
    refine d_val (fun _ => rfl) rfl rfl (fun _ => o_idx (i) rfl hU rfl (by first | rfl | omega) (by omega)) ?_
    refine d_val (fun _ => rfl) rfl rfl (fun _ => o_loadR1 rfl (row_imm hr2) (el_u8 (l := p) (i := i) (by omega))) ?_
    refine d_neq (fun _ => rfl) (fun _ => rfl) (fun _ => rfl) (fun q3 => absurd q3 (by omega)) (fun q3 => ?_)
    refine d_nil (fun σ => ?_)
    refine l_nil ?_
    refine kt_norm ?_
    refine v_sel [13, 0, 1, 12, 24] [] rfl rfl ?_
    refine v_condF rfl ?_
    refine v_skip ?_
    refine kb_norm ?_
    refine kt_norm ?_
    refine v_region ?_
    refine l_val rfl (o_addi rfl rfl ?_) ?_
    · omega
    refine l_val rfl (o_move rfl) ?_
    refine l_nil ?_
    refine kt_norm ?_
    refine ⟨i + 1, by omega, by omega, le_app (And.intro rfl (True.intro)) [0, 1, 12] rfl (True.intro) [] rfl⟩
  · skip
    refine l_nil ?_
    refine kt_norm ?_
    refine v_seq ?_
    refine v_condF rfl ?_
    refine v_exit ?_
    refine kt_exit ?_
    refine kt_exit ?_
    refine kb_eq ?_
    refine kt_norm ?_
    refine v_seq ?_
    refine v_region ?_
    refine l_val rfl (o_assign rfl) ?_
    refine l_nil ?_
    refine kt_norm ?_
    refine v_ret ?_
    refine ⟨[_], .cons (.tmp rfl) (ResAll.nil), ?_⟩
    rfl
theorem a_SameC (w : World) (v u : Value) (n h : Nat) (p q : List Int) (he : p = q) (hn : p.length ≤ 1000000) (hV : RowV v p.length) (hrow : RowAt w v 1 p.length (iU p)) (hU : RowV u q.length) (hrow2 : RowAt w u 1 q.length (iU q)) :
    Calls Try.prog 16 #[.agg #[.int .i64 (n : Int), .int .i64 (h : Int), v], .agg #[.int .i64 (n : Int), .int .i64 (h : Int), u]] w fun e w' => e = .returned (.bool true) ∧ Below w.heap.size w w' := by
  subst he
  have hr : ∀ w', Chg (fun _ => False) w w' → RowAt w' v 1 p.length (iU p) := fun w' h => hrow.chg h (fun h => h)
  have hr2 : ∀ w', Chg (fun _ => False) w w' → RowAt w' u 1 p.length (iU p) := fun w' h => hrow2.chg h (fun h => h)
  obtain ⟨a1, c1, rfl⟩ := hV.sl
  obtain ⟨a2, c2, rfl⟩ := hU.sl
  refine calls_of (args := [.agg #[.int .i64 (n : Int), .int .i64 (h : Int), .slice a1 p.length c1], .agg #[.int .i64 (n : Int), .int .i64 (h : Int), .slice a2 p.length c2]]) Try.func16 rfl Try.ntmps16 Try.results16 rfl ?_
  refine v_seq ?_
  refine v_region ?_
  refine l_new rfl (o_box (cs := [_, _, _]) rfl rfl) fun b2 => ?_
  refine l_new rfl (o_box (cs := [_, _, _]) rfl rfl) fun b3 => ?_
  refine l_val rfl (o_assign rfl) ?_
  refine l_nil ?_
  refine kt_norm ?_
  refine v_seq ?_
  refine v_region ?_
  refine l_val rfl (o_fld rfl) ?_
  refine l_val rfl (o_load1 (key := 2) rfl rfl rfl) ?_
  refine l_val rfl (o_fld rfl) ?_
  refine l_val rfl (o_load1 (key := 3) rfl rfl rfl) ?_
  refine l_split rfl (o_eql rfl rfl) (fun q1 => ?_) (fun q1 => absurd (show _ by omega) q1)
  refine l_val rfl (o_move rfl) ?_
  refine l_val rfl (o_fld rfl) ?_
  refine l_val rfl (o_load1 (key := 2) rfl rfl rfl) ?_
  refine l_val rfl (o_fld rfl) ?_
  refine l_val rfl (o_load1 (key := 3) rfl rfl rfl) ?_
  refine l_split rfl (o_eql rfl rfl) (fun q2 => ?_) (fun q2 => absurd (show _ by omega) q2)
  refine l_val rfl (o_pickT rfl rfl) ?_
  refine l_val rfl (o_move rfl) ?_
  refine l_val rfl (o_fld rfl) ?_
  refine l_val rfl (o_load1 (key := 2) rfl rfl rfl) ?_
  refine l_val rfl (o_fld rfl) ?_
  refine l_val rfl (o_load1 (key := 3) rfl rfl rfl) ?_
  refine l_call (ks := []) rfl (o_callC (vs := [_, _]) (r := .bool true) (ent_of Try.func34 rfl rfl) rfl (fun w' hg hh => a_EqualU w' (.slice a1 p.length c1) (.slice a2 p.length c2) p hn hV (hr w' hg) hU (hr2 w' hg))) ?_
  refine l_val rfl (o_pickT rfl rfl) ?_
  refine l_val rfl (o_assign rfl) ?_
  refine l_nil ?_
  refine kt_norm ?_
  refine v_sel [4] [] rfl rfl ?_
  refine v_ret ?_
  refine ⟨[_], .cons (.tmp rfl) (ResAll.nil), ?_⟩
  rfl



end Go.Proofs.Ytllhohbenniaaaa

/- Covers of boxes. Conditions: none. -/
namespace Go.Proofs.Ytllhohbenniaaaa
open Go.Proofs Go.RowKit Go.Shelf

/-! #### boxes -/
def boxP (p q : PtT) : List PtT := [p, ⟨q.x, p.y⟩, q, ⟨p.x, q.y⟩]
def oneE (a b : PtT) : List EdgeT := if (edgeOf a b).fr < (edgeOf a b).to then [edgeOf a b] else []
theorem edges_box (p q : PtT) : edgesAll [boxP p q] = oneE p ⟨q.x, p.y⟩ ++ (oneE ⟨q.x, p.y⟩ q ++ (oneE q ⟨p.x, q.y⟩ ++ oneE ⟨p.x, q.y⟩ p)) := by
  have e : ∀ a b c d : PtT, edgesAll [[a, b, c, d]] = oneE a b ++ (oneE b c ++ (oneE c d ++ oneE d a)) := fun a b c d => by
    simp [edgesAll, edgesOf, edgesTo, edgesAt, oneE, List.range_succ]
  exact e _ _ _ _
theorem oneE_flat {a b : PtT} (h : a.y = b.y) : oneE a b = [] := by
  unfold oneE
  rw [edgeOf_ge (by omega)]
  exact if_neg (by dsimp only; rw [h]; omega)
theorem oneE_up (x ya yb r : Int) : crs r (liveT r (oneE ⟨x, ya⟩ ⟨x, yb⟩)) = if min ya yb ≤ 16 * r + 8 ∧ 16 * r + 8 < max ya yb then [(x, if yb < ya then -1 else 1)] else [] := by
  have r1 := rowOf_def ya
  have r2 := rowOf_def yb
  unfold oneE
  by_cases h : yb < ya
  · rw [edgeOf_lt h, if_pos h]
    dsimp only
    by_cases hl : rowOf yb ≤ r ∧ r < rowOf ya
    · rw [if_pos (by omega), if_pos (by omega), live_one_yes hl]
      simp [crs, atE]
    · rw [if_neg (show ¬ (min ya yb ≤ 16 * r + 8 ∧ 16 * r + 8 < max ya yb) by omega)]
      split
      · rw [live_one_no hl]; rfl
      · rfl
  · rw [edgeOf_ge h, if_neg h]
    dsimp only
    by_cases hl : rowOf ya ≤ r ∧ r < rowOf yb
    · rw [if_pos (by omega), if_pos (by omega), live_one_yes hl]
      simp [crs, atE]
    · rw [if_neg (show ¬ (min ya yb ≤ 16 * r + 8 ∧ 16 * r + 8 < max ya yb) by omega)]
      split
      · rw [live_one_no hl]; rfl
      · rfl
theorem crs_app (r : Int) (a b : List EdgeT) : crs r (a ++ b) = crs r a ++ crs r b := by simp [crs]
theorem crs_box (p q : PtT) (r : Int) : crs r (liveT r (edgesAll [boxP p q])) = if min p.y q.y ≤ 16 * r + 8 ∧ 16 * r + 8 < max p.y q.y then [(q.x, if q.y < p.y then -1 else 1), (p.x, -(if q.y < p.y then -1 else 1))] else [] := by
  rw [edges_box, oneE_flat (a := p) (b := ⟨q.x, p.y⟩) rfl, oneE_flat (a := q) (b := ⟨p.x, q.y⟩) rfl, List.nil_append, List.nil_append, live_append, crs_app]
  have h1 := oneE_up q.x p.y q.y r
  have h2 := oneE_up p.x q.y p.y r
  rw [show (⟨q.x, q.y⟩ : PtT) = q from rfl] at h1
  rw [show (⟨p.x, p.y⟩ : PtT) = p from rfl] at h2
  rw [h1, h2]
  have hc2 : (min q.y p.y ≤ 16 * r + 8 ∧ 16 * r + 8 < max q.y p.y) ↔ (min p.y q.y ≤ 16 * r + 8 ∧ 16 * r + 8 < max p.y q.y) := by omega
  by_cases hc : min p.y q.y ≤ 16 * r + 8 ∧ 16 * r + 8 < max p.y q.y
  · rw [if_pos hc, if_pos hc, if_pos (hc2.2 hc)]
    by_cases hq : q.y < p.y
    · rw [if_pos hq, if_neg (show ¬ p.y < q.y by omega)]; rfl
    · rw [if_neg hq, if_pos (show p.y < q.y by omega)]; rfl
  · rw [if_neg hc, if_neg hc, if_neg (fun h => hc (hc2.1 h))]; rfl
theorem rowS_two {a b u : Int} (hu : u = 1 ∨ u = -1) : rowS [(a, u), (b, -u)] = if a < b then [⟨a, b⟩] else if b < a then [⟨b, a⟩] else [] := by
  rcases Int.lt_trichotomy a b with h | h | h
  · rw [if_pos h]
    have hk : keysOf [(a, u), (b, -u)] = [a, b] := by
      show insU b (insU a []) = _
      simp [insU, h]
    have s1 : sumAt [(a, u), (b, -u)] a = u := by simp [sumAt, sumF]; omega
    have s2 : sumAt [(a, u), (b, -u)] b = -u := by simp [sumAt, sumF]; omega
    have e : rowS [(a, u), (b, -u)] = (stepR [(a, u), (b, -u)] (stepR [(a, u), (b, -u)] (0, 0, []) a) b).2.2 := by
      unfold rowS rowTo; rw [hk]; rfl
    rw [e, stepR0 (s := (0, 0, [])) rfl, s1, stepR1 (by simp; omega) (by rw [s2]; simp; omega)]
    rfl
  · subst h
    rw [if_neg (by omega), if_neg (by omega)]
    have hk : keysOf [(a, u), (a, -u)] = [a] := by
      show insU a (insU a []) = _
      simp [insU]
    have e : rowS [(a, u), (a, -u)] = (stepR [(a, u), (a, -u)] (0, 0, []) a).2.2 := by
      unfold rowS rowTo; rw [hk]; rfl
    rw [e, stepR0 (s := (0, 0, [])) rfl]
  · rw [if_neg (by omega), if_pos h]
    have hk : keysOf [(a, u), (b, -u)] = [b, a] := by
      show insU b (insU a []) = _
      simp [insU, show ¬ a < b by omega, show ¬ a = b by omega]
    have s1 : sumAt [(a, u), (b, -u)] a = u := by simp [sumAt, sumF]; omega
    have s2 : sumAt [(a, u), (b, -u)] b = -u := by simp [sumAt, sumF]; omega
    have e : rowS [(a, u), (b, -u)] = (stepR [(a, u), (b, -u)] (stepR [(a, u), (b, -u)] (0, 0, []) b) a).2.2 := by
      unfold rowS rowTo; rw [hk]; rfl
    rw [e, stepR0 (s := (0, 0, [])) rfl, s2, stepR1 (by simp; omega) (by rw [s1]; simp; omega)]
    rfl
theorem rowS_nil : rowS [] = [] := rfl
/-- how much of a pixel's width a box has -/
def bxW (p q : PtT) (lo : Int) : Int := max 0 (min (max p.x q.x) (lo + 256) - max (min p.x q.x) lo)
theorem meas_box (p q : PtT) (r lo : Int) : sumF (lenC lo (lo + 256)) (rowS (crs r (liveT r (edgesAll [boxP p q])))) = if min p.y q.y ≤ 16 * r + 8 ∧ 16 * r + 8 < max p.y q.y then bxW p q lo else 0 := by
  rw [crs_box]
  by_cases hc : min p.y q.y ≤ 16 * r + 8 ∧ 16 * r + 8 < max p.y q.y
  · rw [if_pos hc, if_pos hc, rowS_two (by split <;> omega)]
    unfold bxW
    by_cases h1 : q.x < p.x
    · rw [if_pos h1]
      have d := lenC_def lo (lo + 256) ⟨q.x, p.x⟩
      dsimp only at d
      simp only [sumF]
      by_cases h2 : max lo q.x < min (lo + 256) p.x
      · have := d.1 h2; omega
      · have := d.2 h2; omega
    · rw [if_neg h1]
      by_cases h3 : p.x < q.x
      · rw [if_pos h3]
        have d := lenC_def lo (lo + 256) ⟨p.x, q.x⟩
        dsimp only at d
        simp only [sumF]
        by_cases h2 : max lo p.x < min (lo + 256) q.x
        · have := d.1 h2; omega
        · have := d.2 h2; omega
      · rw [if_neg h3]
        simp only [sumF]
        omega
  · rw [if_neg hc, if_neg hc, rowS_nil]; rfl
/-- of the rows of a pixel, those that a box has -/
def bxN (p q : PtT) (y : Int) : Nat → Int
  | 0 => 0
  | k + 1 => bxN p q y k + if min p.y q.y ≤ 256 * y + 16 * k + 8 ∧ 256 * y + 16 * k + 8 < max p.y q.y then 1 else 0
theorem bxN_bound (p q : PtT) (y : Int) : ∀ k, 0 ≤ bxN p q y k ∧ bxN p q y k ≤ k
  | 0 => ⟨Int.le_refl _, Int.le_refl _⟩
  | k + 1 => by have := bxN_bound p q y k; rw [bxN]; split <;> omega
theorem bxN_yes {p q : PtT} {y : Int} {k : Nat} (h : min p.y q.y ≤ 256 * y + 16 * k + 8 ∧ 256 * y + 16 * k + 8 < max p.y q.y) : bxN p q y (k + 1) = bxN p q y k + 1 := by rw [bxN, if_pos h]
theorem bxN_no {p q : PtT} {y : Int} {k : Nat} (h : ¬ (min p.y q.y ≤ 256 * y + 16 * k + 8 ∧ 256 * y + 16 * k + 8 < max p.y q.y)) : bxN p q y (k + 1) = bxN p q y k := by rw [bxN, if_neg h, Int.add_zero]
theorem bxW_bound (p q : PtT) (lo : Int) : 0 ≤ bxW p q lo ∧ bxW p q lo ≤ 256 := by unfold bxW; omega
theorem covK_box (p q : PtT) (c y : Int) : ∀ k, covK [boxP p q] c y k = bxN p q y k * bxW p q (256 * c)
  | 0 => by simp [covK, bxN]
  | k + 1 => by
    rw [covK, bxN, covK_box p q c y k, meas_box, Int.add_mul]
    congr 1
    rw [show 16 * (16 * y + (k : Int)) + 8 = 256 * y + 16 * k + 8 by omega]
    split <;> simp
theorem cov_box (p q : PtT) (c y : Int) : covA [boxP p q] c y = bxN p q y 16 * bxW p q (256 * c) := covK_box p q c y 16
theorem bxN_all {p q : PtT} {y : Int} : ∀ {k : Nat}, k ≤ 16 → (min p.y q.y ≤ 256 * y ∧ 256 * y + 256 ≤ max p.y q.y) → bxN p q y k = k
  | 0, _, _ => rfl
  | k + 1, hk, h => by rw [bxN_yes (by omega), bxN_all (by omega) h]; omega
theorem bxN_none {p q : PtT} {y : Int} : ∀ {k : Nat}, k ≤ 16 → 256 * y + 256 ≤ min p.y q.y → bxN p q y k = 0
  | 0, _, _ => rfl
  | k + 1, hk, h => by rw [bxN_no (by omega), bxN_none (by omega) h]

theorem o_assignE {C : Cx} {s : St} {d : Option Nat} {x : Operand} {ty : TypeId} {pos : String} {aft : Array Edge} {gd : Option (Nat × Bool)} {k : IntKind} {q q' : Int} (h : ev C s x = some (.int k q)) (e : q = q') : OpV C s ⟨d, .assign x, ty, pos, aft, gd⟩ [] (.int k q') := by subst e; exact o_assign h
theorem atT_img' {X Y : Int} {n h i j : Nat} {ps : List (List PtT)} (hv : ViewOk X Y (n : Int) (h : Int)) (hi : i < n) (hj : j < h) : atT n h (pixT (tabT X Y (n : Int) (h : Int) ps) X Y n h) (i : Int) (j : Int) = valT (covA ps (X + i) (Y + j)) := by
  have := atT_img (ps := ps) hv (x := X + i) (y := Y + j) (by omega) (by omega)
  rwa [show X + (i : Int) - X = i by omega, show Y + (j : Int) - Y = j by omega] at this
theorem box_near {p q : PtT} (hp : NearT p) (hq : NearT q) : ∀ x ∈ boxP p q, NearT x := by
  intro x hx
  unfold NearT at *
  simp only [boxP, List.mem_cons, List.not_mem_nil, or_false] at hx
  rcases hx with rfl | rfl | rfl | rfl <;> first | omega | (dsimp only; omega)
theorem box_bnd {p q : PtT} (hp : NearT p) (hq : NearT q) : Bnd [boxP p q] :=
  ⟨by simp, fun i hi => by
    obtain rfl : i = 0 := by simpa using hi
    refine ⟨by simp [boxP], fun m hm => ?_⟩
    have : ([boxP p q].getD 0 []).getD m dP ∈ boxP p q := by
      show (boxP p q).getD m dP ∈ _
      rw [List.getD_eq_getElem?_getD, List.getElem?_eq_getElem (show m < (boxP p q).length from hm)]; exact List.getElem_mem _
    exact box_near hp hq _ this⟩
theorem valT_full : valT 4096 = 255 := by decide
theorem valT_none : valT 0 = 0 := by decide
theorem a_CovB (w : World) (v u : Value) (p q : PtT) (X Y : Int) (n h : Nat) (hp : NearT p) (hq : NearT q) (hvw : ViewOk X Y (n : Int) (h : Int)) (hV : RowV v 1) (hU : RowV u 4) (hr : RowAt w v 1 1 [u]) (h1 : RowAt w u 2 4 [.int .i64 p.x, .int .i64 p.y, .int .i64 q.x, .int .i64 p.y, .int .i64 q.x, .int .i64 q.y, .int .i64 p.x, .int .i64 q.y]) :
    Calls Try.prog 8 #[v, .agg #[.int .i64 X, .int .i64 Y, .int .i64 (n : Int), .int .i64 (h : Int)]] w fun e w' => ∃ y, e = .returned (.tuple #[.agg #[.int .i64 (n : Int), .int .i64 (h : Int), y], .int .i64 0]) ∧ Below w.heap.size w w' ∧ OwnAt w.heap.size w' y 5 1 (pixT (tabT X Y (n : Int) (h : Int) [boxP p q]) X Y n h).length (iU (pixT (tabT X Y (n : Int) (h : Int) [boxP p q]) X Y n h)) :=
  a_cover w v [u] [boxP p q] X Y n h (box_bnd hp hq) (pcsV_oneC hV (pc := boxP p q) hU (by simp [boxP]) (box_near hp hq)) (pcsAt_one hr h1) hvw

end Go.Proofs.Ytllhohbenniaaaa

/- A pixel that a piece covers whole has all; one that it does not touch has none. Conditions: none. -/
namespace Go.Proofs.Ytllhohbenniaaaa
open Go.Proofs Go.RowKit Go.Shelf

theorem box_in {p q : PtT} {c y : Int} (h1 : p.x ≤ 256 * c) (h2 : 256 * c + 256 ≤ q.x) (h3 : p.y ≤ 256 * y) (h4 : 256 * y + 256 ≤ q.y) : covA [boxP p q] c y = 4096 := by
  rw [cov_box, bxN_all (Nat.le_refl _) (by omega)]
  have : bxW p q (256 * c) = 256 := by unfold bxW; omega
  rw [this]; rfl
theorem box_outx {p q : PtT} {c y : Int} (h1 : 256 * c + 256 ≤ p.x) (h2 : p.x ≤ q.x) : covA [boxP p q] c y = 0 := by
  have : bxW p q (256 * c) = 0 := by unfold bxW; omega
  rw [cov_box, this, Int.mul_zero]
theorem box_outy {p q : PtT} {c y : Int} (h1 : 256 * y + 256 ≤ p.y) (h2 : p.y ≤ q.y) : covA [boxP p q] c y = 0 := by
  rw [cov_box, bxN_none (Nat.le_refl _) (by omega), Int.zero_mul]

end Go.Proofs.Ytllhohbenniaaaa
