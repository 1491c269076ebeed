import Derived.Test.YtaijclimdfchfaaE21
import Derived.Test.YtaijclimdfchfaaKP
import Derived.Shelf.SlIterI.Sorted
import Derived.Shelf.SortM.Plain
import Derived.Shelf.SortM.SortNone
import Derived.Ground.GgzProg
import Derived.Ground.SlgmProg
import Derived.Maps.Views
/- The crossings of a row: how its winding turns at each place; the places, rising. Conditions: none. -/
namespace Go.Proofs.Ytaijclimdfchfaa
open Go.Proofs Go.RowKit Go.Shelf

/-! ### crossings and spans: plain law -/
structure SpanT where
  fr : Int
  to : Int
def eS (s : SpanT) : List Value := [.int .i64 s.fr, .int .i64 s.to]
def dS : SpanT := ⟨0, 0⟩
theorem eS_len (s : SpanT) : (eS s).length = 2 := rfl
def sumF {α : Type} (f : α → Int) : List α → Int
  | [] => 0
  | x :: r => f x + sumF f r
theorem sumF_append {α : Type} (f : α → Int) : ∀ l k : List α, sumF f (l ++ k) = sumF f l + sumF f k
  | [], k => by simp [sumF]
  | x :: r, k => by simp only [List.cons_append, sumF, sumF_append f r k]; omega
theorem sumF_add {α : Type} (f g : α → Int) : ∀ l : List α, sumF (fun x => f x + g x) l = sumF f l + sumF g l
  | [] => rfl
  | x :: r => by simp only [sumF, sumF_add f g r]; omega
theorem sumF_congr {α : Type} {f g : α → Int} : ∀ l : List α, (∀ x ∈ l, f x = g x) → sumF f l = sumF g l
  | [], _ => rfl
  | x :: r, h => by simp only [sumF]; rw [h x List.mem_cons_self, sumF_congr r fun y hy => h y (List.mem_cons_of_mem _ hy)]
theorem sumF_zero {α : Type} : ∀ l : List α, sumF (fun _ => 0) l = 0
  | [] => rfl
  | x :: r => by simp only [sumF, sumF_zero r]; rfl
theorem sumF_map {α β : Type} (f : β → Int) (h : α → β) : ∀ l : List α, sumF f (l.map h) = sumF (fun x => f (h x)) l
  | [] => rfl
  | x :: r => by simp only [List.map_cons, sumF, sumF_map f h r]
theorem sumF_bound {α : Type} {f : α → Int} : ∀ l : List α, (∀ x ∈ l, -1 ≤ f x ∧ f x ≤ 1) → -(l.length : Int) ≤ sumF f l ∧ sumF f l ≤ l.length
  | [], _ => by simp [sumF]
  | x :: r, h => by
    have h1 := h x List.mem_cons_self
    have h2 := sumF_bound r fun y hy => h y (List.mem_cons_of_mem _ hy)
    simp only [sumF, List.length_cons]
    omega
theorem sumF_swap {α β : Type} (f : α → β → Int) : ∀ (l : List α) (k : List β), sumF (fun x => sumF (f x) k) l = sumF (fun y => sumF (fun x => f x y) l) k
  | [], k => by simp only [sumF]; rw [sumF_zero]
  | x :: r, k => by simp only [sumF]; rw [sumF_swap f r k, ← sumF_add]
theorem sumF_perm {α : Type} {f : α → Int} {l k : List α} (h : l.Perm k) : sumF f l = sumF f k := by
  induction h with
  | nil => rfl
  | cons x _ ih => simp only [sumF, ih]
  | swap x y l => simp only [sumF]; omega
  | trans _ _ h1 h2 => rw [h1, h2]
/-- how a row's winding turns at x; up to x -/
def sumAt (cs : List (Int × Int)) (x : Int) : Int := sumF (fun c => if c.1 = x then c.2 else 0) cs
def sumTo (cs : List (Int × Int)) (x : Int) : Int := sumF (fun c => if c.1 ≤ x then c.2 else 0) cs
def insU (x : Int) : List Int → List Int
  | [] => [x]
  | y :: r => if y < x then y :: insU x r else if y = x then y :: r else x :: y :: r
/-- the places, rising, each once -/
def keysOf (cs : List (Int × Int)) : List Int := cs.foldl (fun l c => insU c.1 l) []
def Inc (l : List Int) : Prop := l.Pairwise (· < ·)
theorem keysOf_snoc (cs : List (Int × Int)) (c : Int × Int) : keysOf (cs ++ [c]) = insU c.1 (keysOf cs) := by simp [keysOf, List.foldl_append]
theorem insU_mem {x y : Int} : ∀ l : List Int, y ∈ insU x l ↔ y = x ∨ y ∈ l
  | [] => by simp [insU]
  | z :: r => by
    unfold insU
    split
    · rw [List.mem_cons, insU_mem r, List.mem_cons]
      constructor
      · rintro (h | h | h)
        · exact .inr (.inl h)
        · exact .inl h
        · exact .inr (.inr h)
      · rintro (h | h | h)
        · exact .inr (.inl h)
        · exact .inl h
        · exact .inr (.inr h)
    · split
      · rename_i h; subst h; simp
      · simp
theorem insU_inc {x : Int} : ∀ l : List Int, Inc l → Inc (insU x l)
  | [], _ => List.pairwise_singleton _ _
  | z :: r, h => by
    have hz := List.pairwise_cons.1 h
    unfold insU
    split
    · rename_i hlt
      refine List.pairwise_cons.2 ⟨fun y hy => ?_, insU_inc r hz.2⟩
      rcases (insU_mem r).1 hy with rfl | hy
      · exact hlt
      · exact hz.1 y hy
    · split
      · exact h
      · rename_i h1 h2
        refine List.pairwise_cons.2 ⟨fun y hy => ?_, h⟩
        rcases List.mem_cons.1 hy with rfl | hy
        · omega
        · have := hz.1 y hy; omega
theorem insU_at {x : Int} : ∀ (l : List Int) (at_ : Nat), at_ ≤ l.length → (∀ j, j < at_ → l.getD j 0 < x) → (at_ < l.length → ¬ l.getD at_ 0 < x) → insU x l = if at_ < l.length ∧ l.getD at_ 0 = x then l else l.take at_ ++ x :: l.drop at_
  | [], at_, h1, _, _ => by
    obtain rfl : at_ = 0 := by simpa using h1
    rfl
  | y :: r, 0, _, _, h3 => by
    have h := h3 (by simp)
    simp only [List.getD_cons_zero] at h
    simp only [insU, if_neg h, List.getD_cons_zero, List.length_cons, Nat.zero_lt_succ, true_and, List.take_zero, List.drop_zero, List.nil_append]
  | y :: r, at_ + 1, h1, h2, h3 => by
    have h0 := h2 0 (by omega)
    simp only [List.getD_cons_zero] at h0
    have ih := insU_at r at_ (by simpa using h1) (fun j hj => by simpa using h2 (j + 1) (by omega)) (fun hj => by simpa using h3 (by simpa using hj))
    simp only [insU, if_pos h0, ih, List.getD_cons_succ, List.length_cons, Nat.add_lt_add_iff_right, List.take_succ_cons, List.drop_succ_cons]
    split <;> rfl
theorem keysOf_ok : ∀ (n : Nat) (cs : List (Int × Int)), cs.length = n → Inc (keysOf cs) ∧ ∀ x, x ∈ keysOf cs ↔ ∃ c ∈ cs, c.1 = x
  | 0, cs, h => by
    obtain rfl : cs = [] := List.length_eq_zero_iff.1 h
    exact ⟨List.Pairwise.nil, fun x => by simp [keysOf]⟩
  | n + 1, cs, h => by
    have hne : cs ≠ [] := by intro e; subst e; simp at h
    have e := List.dropLast_concat_getLast hne
    obtain ⟨l0, c, rfl⟩ : ∃ l0 c, cs = l0 ++ [c] := ⟨_, _, e.symm⟩
    have ih := keysOf_ok n l0 (by simpa using h)
    rw [keysOf_snoc]
    refine ⟨insU_inc _ ih.1, fun x => ?_⟩
    rw [insU_mem, ih.2]
    constructor
    · rintro (rfl | ⟨c', h1, h2⟩)
      · exact ⟨c, by simp, rfl⟩
      · exact ⟨c', by simp [h1], h2⟩
    · rintro ⟨c', h1, h2⟩
      rcases List.mem_append.1 h1 with h1 | h1
      · exact .inr ⟨c', h1, h2⟩
      · rw [List.mem_singleton.1 h1] at h2; exact .inl h2.symm
theorem keysOf_inc (cs : List (Int × Int)) : Inc (keysOf cs) := (keysOf_ok _ cs rfl).1
theorem keysOf_mem {cs : List (Int × Int)} {x : Int} : x ∈ keysOf cs ↔ ∃ c ∈ cs, c.1 = x := (keysOf_ok _ cs rfl).2 x
theorem inc_unique : ∀ (l l' : List Int), Inc l → Inc l' → (∀ x, x ∈ l ↔ x ∈ l') → l = l'
  | [], [], _, _, _ => rfl
  | [], y :: r, _, _, h => by have := (h y).2 List.mem_cons_self; simp at this
  | x :: l, [], _, _, h => by have := (h x).1 List.mem_cons_self; simp at this
  | x :: l, y :: r, h1, h2, h => by
    have a1 := List.pairwise_cons.1 h1
    have a2 := List.pairwise_cons.1 h2
    have e : x = y := by
      rcases List.mem_cons.1 ((h x).1 List.mem_cons_self) with e | hx
      · exact e
      · rcases List.mem_cons.1 ((h y).2 List.mem_cons_self) with e | hy
        · exact e.symm
        · have := a2.1 x hx; have := a1.1 y hy; omega
    subst e
    rw [inc_unique l r a1.2 a2.2 fun z => ?_]
    have hz := h z
    simp only [List.mem_cons] at hz
    constructor
    · intro hm
      rcases hz.1 (.inr hm) with e | h'
      · subst e; have := a1.1 z hm; omega
      · exact h'
    · intro hm
      rcases hz.2 (.inr hm) with e | h'
      · subst e; have := a2.1 z hm; omega
      · exact h'
theorem keysOf_len (cs : List (Int × Int)) : (keysOf cs).length ≤ cs.length := by
  have key : ∀ (n : Nat) (cs : List (Int × Int)), cs.length = n → (keysOf cs).length ≤ n := fun n => by
    induction n with
    | zero => intro cs h; obtain rfl : cs = [] := List.length_eq_zero_iff.1 h; exact Nat.le_refl _
    | succ n ih =>
      intro cs h
      have hne : cs ≠ [] := by intro e; subst e; simp at h
      have e := List.dropLast_concat_getLast hne
      obtain ⟨l0, c, rfl⟩ : ∃ l0 c, cs = l0 ++ [c] := ⟨_, _, e.symm⟩
      have h1 := ih l0 (by simpa using h)
      rw [keysOf_snoc]
      have h2 : ∀ (x : Int) (l : List Int), (insU x l).length ≤ l.length + 1 := fun x l => by
        induction l with
        | nil => exact Nat.le_refl _
        | cons y r ih => unfold insU; split <;> (try split) <;> simp <;> omega
      have := h2 c.1 (keysOf l0)
      omega
  exact key _ cs rfl
/-! #### the spans of a row -/
abbrev RowS := Int × Int × List SpanT
def stepR (cs : List (Int × Int)) (s : RowS) (x : Int) : RowS := (s.1 + sumAt cs x, if s.1 = 0 then x else s.2.1, if s.1 = 0 then s.2.2 else if s.1 + sumAt cs x = 0 then s.2.2 ++ [⟨s.2.1, x⟩] else s.2.2)
theorem stepR0 {cs : List (Int × Int)} {s : RowS} {x : Int} (h : s.1 = 0) : stepR cs s x = (s.1 + sumAt cs x, x, s.2.2) := by unfold stepR; rw [if_pos h, if_pos h]
theorem stepR1 {cs : List (Int × Int)} {s : RowS} {x : Int} (h : ¬ s.1 = 0) (h2 : s.1 + sumAt cs x = 0) : stepR cs s x = (s.1 + sumAt cs x, s.2.1, s.2.2 ++ [⟨s.2.1, x⟩]) := by unfold stepR; rw [if_neg h, if_neg h, if_pos h2]
theorem stepR2 {cs : List (Int × Int)} {s : RowS} {x : Int} (h : ¬ s.1 = 0) (h2 : ¬ s.1 + sumAt cs x = 0) : stepR cs s x = (s.1 + sumAt cs x, s.2.1, s.2.2) := by unfold stepR; rw [if_neg h, if_neg h, if_neg h2]
theorem stepR_from {cs : List (Int × Int)} {s : RowS} {x : Int} (h : ¬ s.1 = 0) : (stepR cs s x).2.1 = s.2.1 := if_neg h
def rowTo (cs : List (Int × Int)) (k : Nat) : RowS := ((keysOf cs).take k).foldl (stepR cs) (0, 0, [])
def rowS (cs : List (Int × Int)) : List SpanT := (rowTo cs (keysOf cs).length).2.2
theorem rowTo_succ {cs : List (Int × Int)} {k : Nat} (h : k < (keysOf cs).length) : rowTo cs (k + 1) = stepR cs (rowTo cs k) ((keysOf cs).getD k 0) := by
  unfold rowTo
  rw [List.take_add_one, List.getElem?_eq_getElem h, List.foldl_append, List.getD_eq_getElem?_getD, List.getElem?_eq_getElem h]
  rfl
theorem inc_lt {l : List Int} (h : Inc l) {i j : Nat} (hij : i < j) (hj : j < l.length) : l.getD i 0 < l.getD j 0 := by
  have := List.pairwise_iff_getElem.1 h i j (by omega) hj hij
  rwa [List.getD_eq_getElem?_getD, List.getD_eq_getElem?_getD, List.getElem?_eq_getElem hj, List.getElem?_eq_getElem (show i < l.length by omega)]
theorem sum_pick : ∀ (l : List Int) (c : Int × Int), Inc l → sumF (fun y => if c.1 = y then c.2 else 0) l = if c.1 ∈ l then c.2 else 0
  | [], c, _ => by simp [sumF]
  | y :: r, c, h => by
    have hy := List.pairwise_cons.1 h
    simp only [sumF]
    rw [sum_pick r c hy.2]
    by_cases e : c.1 = y
    · have hn : c.1 ∉ r := fun hm => by have := hy.1 _ hm; omega
      rw [if_pos e, if_neg hn, if_pos (by rw [e]; exact List.mem_cons_self), Int.add_zero]
    · rw [if_neg e, Int.zero_add]
      by_cases hm : c.1 ∈ r
      · rw [if_pos hm, if_pos (List.mem_cons_of_mem _ hm)]
      · rw [if_neg hm, if_neg (fun h => by rcases List.mem_cons.1 h with h | h; exact e h; exact hm h)]
theorem inc_take {l : List Int} (h : Inc l) (k : Nat) : Inc (l.take k) := List.Pairwise.sublist (List.take_sublist k l) h
theorem mem_take_iff {l : List Int} (h : Inc l) {k : Nat} (hk : k < l.length) {x : Int} (hx : x ∈ l) : x ∈ l.take (k + 1) ↔ x ≤ l.getD k 0 := by
  obtain ⟨j, hj, rfl⟩ := List.getElem_of_mem hx
  have ej : l[j] = l.getD j 0 := by rw [List.getD_eq_getElem?_getD, List.getElem?_eq_getElem hj]; rfl
  constructor
  · intro hm
    obtain ⟨i, hi, e⟩ := List.getElem_of_mem hm
    rw [List.getElem_take] at e
    have hi' : i ≤ k := by simp at hi; omega
    rw [← e]
    have ei : l[i]'(by omega) = l.getD i 0 := by rw [List.getD_eq_getElem?_getD, List.getElem?_eq_getElem (show i < l.length by omega)]; rfl
    rw [ei]
    rcases Nat.lt_or_eq_of_le hi' with h' | h'
    · exact Int.le_of_lt (inc_lt h h' hk)
    · rw [h']; exact Int.le_refl _
  · intro hle
    have hjk : j ≤ k := by
      rcases Nat.lt_or_ge k j with h' | h'
      · have := inc_lt h h' hj; rw [ej] at hle; omega
      · exact h'
    have h1 : j < (l.take (k + 1)).length := by rw [List.length_take]; omega
    have := List.getElem_mem h1
    rwa [List.getElem_take] at this
/-- the winding behind the k-th place -/
theorem rowTo_w (cs : List (Int × Int)) : ∀ k, k ≤ (keysOf cs).length → (rowTo cs k).1 = sumF (fun y => sumAt cs y) ((keysOf cs).take k)
  | 0, _ => rfl
  | k + 1, h => by
    rw [rowTo_succ (by omega)]
    show (rowTo cs k).1 + sumAt cs _ = _
    rw [rowTo_w cs k (by omega), List.take_add_one, List.getElem?_eq_getElem (show k < _ by omega), sumF_append, List.getD_eq_getElem?_getD, List.getElem?_eq_getElem (show k < _ by omega)]
    simp [sumF]
theorem sum_keys (cs : List (Int × Int)) {l : List Int} (hl : Inc l) : sumF (fun y => sumAt cs y) l = sumF (fun c => if c.1 ∈ l then c.2 else 0) cs := by
  unfold sumAt
  rw [sumF_swap (fun (y : Int) (c : Int × Int) => if c.1 = y then c.2 else 0)]
  exact sumF_congr cs fun c _ => sum_pick l c hl
theorem rowTo_sumTo {cs : List (Int × Int)} {k : Nat} (h : k < (keysOf cs).length) : (rowTo cs (k + 1)).1 = sumTo cs ((keysOf cs).getD k 0) := by
  rw [rowTo_w cs (k + 1) (by omega), sum_keys cs (inc_take (keysOf_inc cs) _)]
  refine sumF_congr cs fun c hc => ?_
  have hm : c.1 ∈ keysOf cs := keysOf_mem.2 ⟨c, hc, rfl⟩
  have := mem_take_iff (keysOf_inc cs) h hm
  by_cases hle : c.1 ≤ (keysOf cs).getD k 0
  · rw [if_pos hle, if_pos (this.2 hle)]
  · rw [if_neg hle, if_neg (fun h' => hle (this.1 h'))]
theorem rowTo_end (cs : List (Int × Int)) : (rowTo cs (keysOf cs).length).1 = sumF (fun c => c.2) cs := by
  rw [rowTo_w cs _ (Nat.le_refl _), List.take_length, sum_keys cs (keysOf_inc cs)]
  exact sumF_congr cs fun c hc => if_pos (keysOf_mem.2 ⟨c, hc, rfl⟩)
/-- what stands behind the k-th place -/
structure RowQ (cs : List (Int × Int)) (k : Nat) : Prop where
  rise : (rowTo cs k).2.2.Pairwise (fun s t => s.to < t.fr)
  pos : ∀ s ∈ (rowTo cs k).2.2, s.fr < s.to
  from_ : ∀ s ∈ (rowTo cs k).2.2, s.fr ∈ keysOf cs ∧ s.to ∈ keysOf cs
  below : ∀ s ∈ (rowTo cs k).2.2, ∃ j, j < k ∧ s.to = (keysOf cs).getD j 0
  open_ : (rowTo cs k).1 ≠ 0 → ∃ j, j < k ∧ (rowTo cs k).2.1 = (keysOf cs).getD j 0 ∧ ∀ s ∈ (rowTo cs k).2.2, s.to < (rowTo cs k).2.1
theorem getD_mem {l : List Int} {i : Nat} (h : i < l.length) : l.getD i 0 ∈ l := by
  rw [List.getD_eq_getElem?_getD, List.getElem?_eq_getElem h]; exact List.getElem_mem h
theorem rowQ (cs : List (Int × Int)) : ∀ k, k ≤ (keysOf cs).length → RowQ cs k
  | 0, _ => ⟨List.Pairwise.nil, fun s h => by simp [rowTo] at h, fun s h => by simp [rowTo] at h, fun s h => by simp [rowTo] at h, fun h => by simp [rowTo] at h⟩
  | k + 1, h => by
    have ih := rowQ cs k (by omega)
    have hk : k < (keysOf cs).length := by omega
    have hinc := keysOf_inc cs
    have e := rowTo_succ hk
    by_cases h0 : (rowTo cs k).1 = 0
    · have e2 : (rowTo cs (k + 1)).2.2 = (rowTo cs k).2.2 := by rw [e, stepR0 h0]
      have e1 : (rowTo cs (k + 1)).2.1 = (keysOf cs).getD k 0 := by rw [e, stepR0 h0]
      refine ⟨by rw [e2]; exact ih.rise, by rw [e2]; exact ih.pos, by rw [e2]; exact ih.from_, ?_, fun _ => ⟨k, by omega, e1, ?_⟩⟩
      · rw [e2]; intro s hs; obtain ⟨j, hj, he⟩ := ih.below s hs; exact ⟨j, by omega, he⟩
      · rw [e2, e1]; intro s hs; obtain ⟨j, hj, he⟩ := ih.below s hs; rw [he]; exact inc_lt hinc hj hk
    · obtain ⟨j, hj, hfr, hlt⟩ := ih.open_ h0
      have e1 : (rowTo cs (k + 1)).2.1 = (rowTo cs k).2.1 := by rw [e, stepR_from h0]
      by_cases h1 : (rowTo cs k).1 + sumAt cs ((keysOf cs).getD k 0) = 0
      · have e2 : (rowTo cs (k + 1)).2.2 = (rowTo cs k).2.2 ++ [⟨(rowTo cs k).2.1, (keysOf cs).getD k 0⟩] := by rw [e, stepR1 h0 h1]
        have e0 : (rowTo cs (k + 1)).1 = 0 := by rw [e]; exact h1
        have hjk := inc_lt hinc hj hk
        refine ⟨?_, ?_, ?_, ?_, fun hne => absurd e0 hne⟩
        · rw [e2]
          refine List.pairwise_append.2 ⟨ih.rise, List.pairwise_singleton _ _, fun s hs t ht => ?_⟩
          rw [List.mem_singleton.1 ht]; exact hlt s hs
        · rw [e2]; intro s hs
          rcases List.mem_append.1 hs with hs | hs
          · exact ih.pos s hs
          · rw [List.mem_singleton.1 hs]; dsimp only; rw [hfr]; exact hjk
        · rw [e2]; intro s hs
          rcases List.mem_append.1 hs with hs | hs
          · exact ih.from_ s hs
          · rw [List.mem_singleton.1 hs]; dsimp only; rw [hfr]; exact ⟨getD_mem (by omega), getD_mem hk⟩
        · rw [e2]; intro s hs
          rcases List.mem_append.1 hs with hs | hs
          · obtain ⟨j', hj', he⟩ := ih.below s hs; exact ⟨j', by omega, he⟩
          · rw [List.mem_singleton.1 hs]; exact ⟨k, by omega, rfl⟩
      · have e2 : (rowTo cs (k + 1)).2.2 = (rowTo cs k).2.2 := by rw [e, stepR2 h0 h1]
        refine ⟨by rw [e2]; exact ih.rise, by rw [e2]; exact ih.pos, by rw [e2]; exact ih.from_, ?_, fun _ => ⟨j, by omega, by rw [e1, hfr], by rw [e1, e2]; exact hlt⟩⟩
        rw [e2]; intro s hs; obtain ⟨j', hj', he⟩ := ih.below s hs; exact ⟨j', by omega, he⟩
/-! #### the document's spans -/
def docStep (cs : List (Int × Int)) (out : List SpanT) (i : Nat) : List SpanT :=
  if sumTo cs ((keysOf cs).getD i 0) = 0 then out
  else match out.getLast? with
    | some s => if s.to = (keysOf cs).getD i 0 then out.dropLast ++ [⟨s.fr, (keysOf cs).getD (i + 1) 0⟩] else out ++ [⟨(keysOf cs).getD i 0, (keysOf cs).getD (i + 1) 0⟩]
    | none => out ++ [⟨(keysOf cs).getD i 0, (keysOf cs).getD (i + 1) 0⟩]
def docTo (cs : List (Int × Int)) (k : Nat) : List SpanT := (List.range k).foldl (docStep cs) []
theorem docTo_succ (cs : List (Int × Int)) (k : Nat) : docTo cs (k + 1) = docStep cs (docTo cs k) k := by
  unfold docTo; rw [List.range_succ, List.foldl_append]; rfl
theorem docTo_ok (cs : List (Int × Int)) : ∀ k, k + 1 ≤ (keysOf cs).length → docTo cs k = (rowTo cs k).2.2 ++ (if (rowTo cs k).1 = 0 then [] else [⟨(rowTo cs k).2.1, (keysOf cs).getD k 0⟩])
  | 0, _ => by simp [docTo, rowTo]
  | k + 1, h => by
    have ih := docTo_ok cs k (by omega)
    have hk : k < (keysOf cs).length := by omega
    have hinc := keysOf_inc cs
    have e := rowTo_succ hk
    have hq := rowQ cs k (by omega)
    have hw := rowTo_sumTo hk
    rw [docTo_succ, docStep, ih]
    have hlast : ∀ s, (rowTo cs k).2.2.getLast? = some s → s.to ≠ (keysOf cs).getD k 0 := fun s hs he => by
      obtain ⟨j, hj, h'⟩ := hq.below s (List.mem_of_getLast? hs)
      have := inc_lt hinc hj hk
      rw [← h', he] at this; omega
    by_cases h0 : (rowTo cs k).1 = 0
    · rw [if_pos h0, List.append_nil]
      have e2 : (rowTo cs (k + 1)).2.2 = (rowTo cs k).2.2 := by rw [e, stepR0 h0]
      have e1 : (rowTo cs (k + 1)).2.1 = (keysOf cs).getD k 0 := by rw [e, stepR0 h0]
      rw [e2, e1, ← hw]
      by_cases h1 : (rowTo cs (k + 1)).1 = 0
      · rw [if_pos h1, if_pos h1, List.append_nil]
      · rw [if_neg h1, if_neg h1]
        cases hl : (rowTo cs k).2.2.getLast? with
        | none => rfl
        | some s => simp only [if_neg (hlast s hl)]
    · rw [if_neg h0]
      have e1 : (rowTo cs (k + 1)).2.1 = (rowTo cs k).2.1 := by rw [e, stepR_from h0]
      have hws : (rowTo cs (k + 1)).1 = (rowTo cs k).1 + sumAt cs ((keysOf cs).getD k 0) := by rw [e]; rfl
      rw [e1, ← hw]
      by_cases h1 : (rowTo cs (k + 1)).1 = 0
      · have e2 : (rowTo cs (k + 1)).2.2 = (rowTo cs k).2.2 ++ [⟨(rowTo cs k).2.1, (keysOf cs).getD k 0⟩] := by rw [e, stepR1 h0 (hws ▸ h1)]
        rw [if_pos h1, if_pos h1, e2, List.append_nil]
      · have e2 : (rowTo cs (k + 1)).2.2 = (rowTo cs k).2.2 := by rw [e, stepR2 h0 (hws ▸ h1)]
        rw [if_neg h1, if_neg h1, e2]
        simp
def docRow (cs : List (Int × Int)) : List SpanT := docTo cs ((keysOf cs).length - 1)
/-- where the windings come to nothing, both are alike -/
theorem docRow_eq {cs : List (Int × Int)} (h : sumF (fun c => c.2) cs = 0) : docRow cs = rowS cs := by
  unfold docRow rowS
  rcases Nat.eq_zero_or_pos (keysOf cs).length with h0 | h0
  · rw [h0]; rfl
  · obtain ⟨k, hk⟩ : ∃ k, (keysOf cs).length = k + 1 := ⟨_, (Nat.succ_pred_eq_of_pos h0).symm⟩
    rw [hk, Nat.add_sub_cancel, docTo_ok cs k (by omega)]
    have hend := rowTo_end cs
    rw [hk, h] at hend
    have hw : (rowTo cs (k + 1)).1 = (rowTo cs k).1 + sumAt cs ((keysOf cs).getD k 0) := by rw [rowTo_succ (by omega)]; rfl
    have hz : (rowTo cs k).1 + sumAt cs ((keysOf cs).getD k 0) = 0 := by rw [← hw]; exact hend
    rw [rowTo_succ (show k < _ by omega)]
    by_cases h1 : (rowTo cs k).1 = 0
    · rw [stepR0 h1, if_pos h1, List.append_nil]
    · rw [stepR1 h1 hz, if_neg h1]

/-! #### spans by their places alone; shifted; cut -/
theorem keysOf_congr {cs cs' : List (Int × Int)} (h : ∀ x, (∃ c ∈ cs, c.1 = x) ↔ ∃ c ∈ cs', c.1 = x) : keysOf cs = keysOf cs' :=
  inc_unique _ _ (keysOf_inc cs) (keysOf_inc cs') fun x => by rw [keysOf_mem, keysOf_mem]; exact h x
theorem rowS_congr {cs cs' : List (Int × Int)} (hk : keysOf cs = keysOf cs') (hs : ∀ x, sumAt cs x = sumAt cs' x) : rowS cs = rowS cs' := by
  have e : stepR cs = stepR cs' := by funext s x; simp only [stepR, hs]
  unfold rowS rowTo
  rw [hk, e]
theorem sumAt_perm {cs cs' : List (Int × Int)} (h : cs.Perm cs') (x : Int) : sumAt cs x = sumAt cs' x := sumF_perm h
theorem rowS_perm {cs cs' : List (Int × Int)} (h : cs.Perm cs') : rowS cs = rowS cs' :=
  rowS_congr (keysOf_congr fun x => ⟨fun ⟨c, h1, h2⟩ => ⟨c, h.mem_iff.1 h1, h2⟩, fun ⟨c, h1, h2⟩ => ⟨c, h.mem_iff.2 h1, h2⟩⟩) (sumAt_perm h)
/-- shifted -/
def shS (d : Int) (s : SpanT) : SpanT := ⟨s.fr + d, s.to + d⟩
def shC (d : Int) (c : Int × Int) : Int × Int := (c.1 + d, c.2)
theorem insU_sh (d x : Int) : ∀ l : List Int, insU (x + d) (l.map (· + d)) = (insU x l).map (· + d)
  | [] => rfl
  | y :: r => by
    simp only [List.map_cons, insU]
    by_cases h : y < x
    · rw [if_pos h, if_pos (by omega), insU_sh d x r]; rfl
    · rw [if_neg h, if_neg (by omega)]
      by_cases h2 : y = x
      · rw [if_pos h2, if_pos (by omega)]; rfl
      · rw [if_neg h2, if_neg (by omega)]; rfl
theorem keysOf_sh (d : Int) : ∀ (n : Nat) (cs : List (Int × Int)), cs.length = n → keysOf (cs.map (shC d)) = (keysOf cs).map (· + d)
  | 0, cs, h => by
    obtain rfl : cs = [] := List.length_eq_zero_iff.1 h
    rfl
  | n + 1, cs, h => by
    have hne : cs ≠ [] := by intro e; subst e; simp at h
    have e := List.dropLast_concat_getLast hne
    obtain ⟨l0, c, rfl⟩ : ∃ l0 c, cs = l0 ++ [c] := ⟨_, _, e.symm⟩
    rw [List.map_append, List.map_cons, List.map_nil, keysOf_snoc, keysOf_snoc, keysOf_sh d n l0 (by simpa using h), shC, insU_sh]
theorem sumAt_sh (d x : Int) (cs : List (Int × Int)) : sumAt (cs.map (shC d)) (x + d) = sumAt cs x := by
  unfold sumAt
  rw [sumF_map]
  refine sumF_congr cs fun c _ => ?_
  by_cases h : c.1 = x
  · rw [if_pos h, if_pos (by simp only [shC]; omega)]; rfl
  · rw [if_neg h, if_neg (by simp only [shC]; omega)]
theorem rowTo_sh (d : Int) (cs : List (Int × Int)) : ∀ k, k ≤ (keysOf cs).length → (rowTo (cs.map (shC d)) k).1 = (rowTo cs k).1 ∧ ((rowTo cs k).1 ≠ 0 → (rowTo (cs.map (shC d)) k).2.1 = (rowTo cs k).2.1 + d) ∧ (rowTo (cs.map (shC d)) k).2.2 = (rowTo cs k).2.2.map (shS d)
  | 0, _ => ⟨rfl, fun h => absurd rfl h, rfl⟩
  | k + 1, h => by
    obtain ⟨h1, h2, h3⟩ := rowTo_sh d cs k (by omega)
    have hk := keysOf_sh d _ cs rfl
    have hlt : k < (keysOf cs).length := by omega
    have e := rowTo_succ hlt
    have e' := rowTo_succ (cs := cs.map (shC d)) (k := k) (by rw [hk]; simpa using hlt)
    have hg : (keysOf (cs.map (shC d))).getD k 0 = (keysOf cs).getD k 0 + d := by
      rw [hk, List.getD_eq_getElem?_getD, List.getD_eq_getElem?_getD, List.getElem?_map, List.getElem?_eq_getElem hlt]; rfl
    rw [hg] at e'
    rw [e, e']
    have hsa := sumAt_sh d ((keysOf cs).getD k 0) cs
    by_cases h0 : (rowTo cs k).1 = 0
    · rw [stepR0 h0, stepR0 (h1.trans h0)]
      exact ⟨by dsimp only; rw [h1, hsa], fun _ => rfl, h3⟩
    · have h2' := h2 h0
      have h0' : ¬ (rowTo (cs.map (shC d)) k).1 = 0 := by rw [h1]; exact h0
      by_cases hz : (rowTo cs k).1 + sumAt cs ((keysOf cs).getD k 0) = 0
      · rw [stepR1 h0 hz, stepR1 h0' (by rw [h1, hsa]; exact hz)]
        exact ⟨by dsimp only; rw [h1, hsa], fun _ => h2', by dsimp only; rw [h2', h3, List.map_append]; rfl⟩
      · rw [stepR2 h0 hz, stepR2 h0' (by rw [h1, hsa]; exact hz)]
        exact ⟨by dsimp only; rw [h1, hsa], fun _ => h2', h3⟩
theorem rowS_sh (d : Int) (cs : List (Int × Int)) : rowS (cs.map (shC d)) = (rowS cs).map (shS d) := by
  unfold rowS
  rw [keysOf_sh d _ cs rfl, List.length_map]
  exact (rowTo_sh d cs _ (Nat.le_refl _)).2.2
/-- cut -/
def clipS (lo hi : Int) (s : SpanT) : SpanT := ⟨if s.fr < lo then lo else s.fr, if hi < s.to then hi else s.to⟩
def clipT (lo hi : Int) (l : List SpanT) : List SpanT := (l.map (clipS lo hi)).filter fun s => decide (s.fr < s.to)
def sumS (l : List SpanT) : Int := sumF (fun s => s.to - s.fr) l
def hasS (l : List SpanT) (x : Int) : Bool := l.any fun s => decide (s.fr ≤ x) && decide (x < s.to)
theorem clipT_cons (lo hi : Int) (s : SpanT) (l : List SpanT) : clipT lo hi (s :: l) = (if (clipS lo hi s).fr < (clipS lo hi s).to then [clipS lo hi s] else []) ++ clipT lo hi l := by
  unfold clipT
  by_cases h : (clipS lo hi s).fr < (clipS lo hi s).to
  · rw [List.map_cons, List.filter_cons_of_pos (by simpa using h), if_pos h]; rfl
  · rw [List.map_cons, List.filter_cons_of_neg (by simpa using h), if_neg h]; rfl
theorem clipT_snoc (lo hi : Int) (s : SpanT) (l : List SpanT) : clipT lo hi (l ++ [s]) = clipT lo hi l ++ (if (clipS lo hi s).fr < (clipS lo hi s).to then [clipS lo hi s] else []) := by
  unfold clipT
  rw [List.map_append, List.filter_append]
  congr 1
  by_cases h : (clipS lo hi s).fr < (clipS lo hi s).to
  · rw [List.map_cons, List.filter_cons_of_pos (by simpa using h), if_pos h]; rfl
  · rw [List.map_cons, List.filter_cons_of_neg (by simpa using h), if_neg h]; rfl
theorem clipT_len (lo hi : Int) (l : List SpanT) : (clipT lo hi l).length ≤ l.length := Nat.le_trans (List.length_filter_le _ _) (by rw [List.length_map]; exact Nat.le_refl _)
theorem clipT_bound {lo hi : Int} {l : List SpanT} {s : SpanT} (h : s ∈ clipT lo hi l) : lo ≤ s.fr ∧ s.fr < s.to ∧ s.to ≤ hi ∧ ∃ t ∈ l, t.fr ≤ s.fr ∧ s.to ≤ t.to := by
  have h1 := List.mem_filter.1 h
  obtain ⟨t, ht, rfl⟩ := List.mem_map.1 h1.1
  have h2 : (clipS lo hi t).fr < (clipS lo hi t).to := by simpa using h1.2
  refine ⟨?_, h2, ?_, t, ht, ?_, ?_⟩
  · show lo ≤ if t.fr < lo then lo else t.fr; split <;> omega
  · show (if hi < t.to then hi else t.to) ≤ hi; split <;> omega
  · show t.fr ≤ if t.fr < lo then lo else t.fr; split <;> omega
  · show (if hi < t.to then hi else t.to) ≤ t.to; split <;> omega
theorem hasS_clip (lo hi x : Int) : ∀ l : List SpanT, hasS (clipT lo hi l) x = (hasS l x && (decide (lo ≤ x) && decide (x < hi)))
  | [] => rfl
  | s :: l => by
    have ih := hasS_clip lo hi x l
    have key : (if (clipS lo hi s).fr < (clipS lo hi s).to then [clipS lo hi s] else []).any (fun s => decide (s.fr ≤ x) && decide (x < s.to)) = ((decide (s.fr ≤ x) && decide (x < s.to)) && (decide (lo ≤ x) && decide (x < hi))) := by
      rw [Bool.eq_iff_iff]
      split
      · simp only [List.any_cons, List.any_nil, Bool.or_false, Bool.and_eq_true, decide_eq_true_eq, clipS]
        split <;> split <;> omega
      · rename_i hn
        simp only [List.any_nil, Bool.false_eq_true, Bool.and_eq_true, decide_eq_true_eq, false_iff]
        simp only [clipS] at hn
        split at hn <;> split at hn <;> omega
    rw [clipT_cons]
    unfold hasS at ih ⊢
    rw [List.any_append, key, ih, List.any_cons]
    cases h1 : (decide (s.fr ≤ x) && decide (x < s.to)) <;> cases h2 : (decide (lo ≤ x) && decide (x < hi)) <;> simp
theorem sumS_cons (s : SpanT) (l : List SpanT) : sumS (s :: l) = (s.to - s.fr) + sumS l := rfl
theorem sumS_append (l k : List SpanT) : sumS (l ++ k) = sumS l + sumS k := sumF_append _ l k
def lenC (lo hi : Int) (s : SpanT) : Int := if (clipS lo hi s).fr < (clipS lo hi s).to then (clipS lo hi s).to - (clipS lo hi s).fr else 0
theorem sumS_clip (lo hi : Int) : ∀ l : List SpanT, sumS (clipT lo hi l) = sumF (lenC lo hi) l
  | [] => rfl
  | s :: l => by
    rw [clipT_cons, sumS_append, sumS_clip lo hi l]
    simp only [sumF]
    congr 1
    unfold lenC
    split
    · simp [sumS, sumF]
    · rfl
theorem lenC_split {lo at_ hi : Int} {s : SpanT} (h1 : lo ≤ s.fr) (h2 : s.fr ≤ s.to) (h3 : s.to ≤ hi) : lenC lo at_ s + lenC at_ hi s = s.to - s.fr := by
  simp only [lenC, clipS]
  (repeat' split) <;> omega
theorem sumS_split {lo at_ hi : Int} {l : List SpanT} (h : ∀ s ∈ l, lo ≤ s.fr ∧ s.fr ≤ s.to ∧ s.to ≤ hi) : sumS (clipT lo at_ l) + sumS (clipT at_ hi l) = sumS l := by
  rw [sumS_clip, sumS_clip, ← sumF_add]
  exact sumF_congr l fun s hs => lenC_split (h s hs).1 (h s hs).2.1 (h s hs).2.2
theorem sumS_bound {B : Int} : ∀ l : List SpanT, (∀ s ∈ l, 0 ≤ s.to - s.fr ∧ s.to - s.fr ≤ B) → 0 ≤ sumS l ∧ sumS l ≤ B * l.length
  | [], _ => by simp [sumS, sumF]
  | s :: l, h => by
    have h1 := h s List.mem_cons_self
    have h2 := sumS_bound l fun t ht => h t (List.mem_cons_of_mem _ ht)
    rw [sumS_cons, List.length_cons]
    have : B * ((l.length + 1 : Nat) : Int) = B * l.length + B := by push_cast; rw [Int.mul_add, Int.mul_one]
    omega

shelf_lay_g SlLaysZI.n7 Ggz 7 at Try 68 as keysA
shelf_lay_g SlLaysZI.n6 Ggz 6 at Try 67 as sortedA
shelf_lay_g SlLaysM.n5 Slgm 5 at Try 85 as sortA
theorem zero_int (w : World) : (zeroValue 3).run Try.prog w = .ok (.int .i64 0) w := by
  obtain ⟨i, hi, hz, _⟩ := (inferInstance : TElem Try.prog 3 (.int .i64 0) 1 8).h
  simp [zeroValue, typeInfo, hi, hz]
theorem sortsA (m : Nat) : AnyZI.SortsIn Try.prog sortedA_ren Fence.wide m :=
  ⟨fun blk off cap ss W hH hblk hsz => callsIn_wide.2 (AnyM.slices_Sort_int sortA blk off cap ss W hH hblk hsz),
   fun p cap W => callsIn_wide.2 (AnyM.slices_Sort_int_none sortA p cap W)⟩
/-- block b is a map that holds the crossings' tally -/
def TallyAt (w : World) (b n : Nat) (cs : List (Int × Int)) : Prop := ∃ D : DataW Bool, w.ownsMap Try.prog 3 (plainElem Try.prog 3) b n D ∧ Go.Maps.IsMap D ∧ (∀ x, D.atKey (.int .i64 x) (.lit (.int .i64 0)) = .lit (.int .i64 (sumAt cs x))) ∧ (∀ x, Go.Maps.has D (.int .i64 x) = cs.any fun c => decide (c.1 = x))
theorem tally_lt {w : World} {b n : Nat} {cs : List (Int × Int)} (h : TallyAt w b n cs) : b < w.heap.size := h.choose_spec.1.lt
theorem tally_st {b n : Nat} {cs : List (Int × Int)} {w1 w2 : World} (h : TallyAt w1 b n cs) (e : w2.heap[b]? = w1.heap[b]?) : TallyAt w2 b n cs := by
  obtain ⟨D, ⟨es, clock, hb, F, hs, hD⟩, h2⟩ := h
  exact ⟨D, ⟨es, clock, e.trans hb, F, hs, hD⟩, h2⟩
theorem tally_new (w : World) : TallyAt (w.alloc (.map #[] 0)) w.heap.size 0 [] :=
  ⟨.map [], World.ownsMap_made w _ _ _, ⟨[], rfl⟩, fun x => rfl, fun x => rfl⟩
theorem tally_look {w : World} {b n : Nat} {cs : List (Int × Int)} (h : TallyAt w b n cs) {x : Int} (hx : (Lit.int .i64 x).wf = true) : (Instr.lookup 110 (.map (some b)) (.int .i64 x) false).run Try.prog w = .ok (.int .i64 (sumAt cs x)) w := by
  obtain ⟨D, h1, _, h3, _⟩ := h
  obtain ⟨c, h4, h5, _⟩ := h1.lookup_int (Go.Maps.int_keyed Try.underlying3) Try.underlying110 Try.underlying3 (zero_int w) (Go.Maps.keyOf_int_mk Try.underlying3 hx)
  rw [h3] at h5
  simp only [DataW.lit.injEq, Lit.int.injEq, true_and] at h5
  rw [h4, h5]
theorem sumAt_snoc (cs : List (Int × Int)) (x d y : Int) : sumAt (cs ++ [(x, d)]) y = sumAt cs y + if x = y then d else 0 := by
  unfold sumAt; rw [sumF_append]; simp [sumF]
theorem tally_set {w : World} {b n : Nat} {cs : List (Int × Int)} (h : TallyAt w b n cs) {x d : Int} (hx : (Lit.int .i64 x).wf = true) (hd : (Lit.int .i64 (sumAt cs x + d)).wf = true) (hn : n < maxLen) :
    ∃ w', (Instr.mapUpdate 110 (.map (some b)) (.int .i64 x) (.int .i64 (sumAt cs x + d))).run Try.prog w = .ok () w' ∧ Chg (fun z => z = b) w w' ∧ TallyAt w' b (n + 1) (cs ++ [(x, d)]) := by
  obtain ⟨D, h1, h2, h3, h4⟩ := h
  obtain ⟨w', h5, h6, h7⟩ := h1.update (Go.Maps.int_keyed Try.underlying3) Try.underlying110 hn (Go.Maps.keyOf_int_mk Try.underlying3 hx) (plainElem_int Try.underlying3 hd)
  have hk : WideAt.IsKeyLit (.int .i64 x) := trivial
  refine ⟨w', h5, (Chg.grown h7).mono (fun k _ hk => by cases hk; rfl), D.put (.int .i64 x) (.lit (.int .i64 (sumAt cs x + d))), h6, h2.put _ _, fun y => ?_, fun y => ?_⟩
  · rw [sumAt_snoc]
    by_cases e : x = y
    · subst e; rw [Go.Maps.atKey_put_same h2 hk, if_pos rfl]
    · rw [Go.Maps.atKey_put_other (fun h => e (by cases h; rfl)), h3, if_neg e, Int.add_zero]
  · rw [List.any_append]
    by_cases e : x = y
    · subst e; rw [Go.Maps.has_put_same h2 hk]; simp
    · rw [Go.Maps.has_put_other (fun h => e (by cases h; rfl)), h4]; simp [e]
theorem wf_of {a : Int} (h : -9223372036854775808 ≤ a ∧ a < 9223372036854775808) : (Lit.int .i64 a).wf = true := by
  simp only [Lit.wf, Bool.and_eq_true, decide_eq_true_eq]
  have e1 : IntKind.i64.min = -9223372036854775808 := by decide
  have e2 : IntKind.i64.max = 9223372036854775807 := by decide
  omega
theorem a_Tally (w : World) (b n : Nat) (cs : List (Int × Int)) (x d : Int) (hx : -1099511627776 ≤ x ∧ x ≤ 1099511627776) (hd : -1 ≤ d ∧ d ≤ 1) (hb : -1099511627776 ≤ sumAt cs x ∧ sumAt cs x ≤ 1099511627776) (hn : n < maxLen) (h : TallyAt w b n cs) :
    Calls Try.prog 64 #[.map (some b), .int .i64 x, .int .i64 d] w fun e w' => (∃ y, e = .returned y) ∧ Chg (fun z => z = b) w w' ∧ TallyAt w' b (n + 1) (cs ++ [(x, d)]) := by
  have hwx : (Lit.int .i64 x).wf = true := wf_of (by omega)
  have hws : (Lit.int .i64 (sumAt cs x + d)).wf = true := wf_of (by omega)
  have hlt := tally_lt h
  refine calls_turn (args := [.map (some b), .int .i64 x, .int .i64 d]) b (fun w => TallyAt w b n cs) (fun w => TallyAt w b (n + 1) (cs ++ [(x, d)])) Try.func64 rfl Try.ntmps64 Try.results64 rfl h (fun _ _ h e => tally_st h e) hlt ?_
  refine v_region ?_
  refine l_val rfl (o_move rfl) ?_
  refine l_val rfl (o_move rfl) ?_
  refine l_val rfl (o_lookup (b := b) rfl rfl (fun w' hg => tally_look hg.2 hwx)) ?_
  refine l_val rfl (o_move rfl) ?_
  refine l_val rfl (o_addi rfl rfl ?_) ?_
  · omega
  refine l_mapSet (b := b) (S := fun z => z = b) (g' := fun w' => Chg (fun z => z = b) w w' ∧ TallyAt w' b (n + 1) (cs ++ [(x, d)])) rfl rfl rfl rfl (fun z hz => by subst hz; exact ⟨hlt, .inr ⟨rfl, fun h => h⟩⟩) (fun w1 w2 hc h1 => ⟨h1.1.trans (hc.mono fun k _ hk => .inr (by omega)), tally_st h1.2 (hc.block b (Nat.lt_of_lt_of_le hlt h1.1.size) fun hn => hn hlt)⟩) (fun w1 h1 => by obtain ⟨w2, e1, e2, e3⟩ := tally_set h1.2 hwx hws hn; exact ⟨w2, e1, e2, h1.1.trans (e2.mono fun k _ hk => .inl hk), e3⟩) ?_
  refine l_nil ?_
  refine ⟨[], ResAll.nil, ?_⟩
  exact fun w' h => h.2
theorem keys_perm {D : DataW Bool} {cs : List (Int × Int)} {w : World} {b n : Nat} (h1 : w.ownsMap Try.prog 3 (plainElem Try.prog 3) b n D) (h4 : ∀ x, Go.Maps.has D (.int .i64 x) = cs.any fun c => decide (c.1 = x)) : (keysOf cs).Perm (intKeys D) := by
  obtain ⟨es, hD, hpw, _⟩ := h1.entries (Go.Maps.int_keyed Try.underlying3)
  obtain ⟨es', hD', hko⟩ := h1.keysOf
  obtain rfl : es = es' := by rw [hD] at hD'; simpa using hD'
  subst hD
  refine perm_intKeys hpw (fun p hp => by obtain ⟨v, hv⟩ := hko p hp; obtain ⟨x, _, hx, _⟩ := Go.Maps.keyOf_i64 Try.underlying3 hv; exact ⟨x, hx⟩) ?_ fun x => ?_
  · exact (keysOf_inc cs).imp fun h => Int.ne_of_lt h
  · rw [h4 x, List.any_eq_true, keysOf_mem]
    exact ⟨fun ⟨c, h1, h2⟩ => ⟨c, h1, by simpa using h2⟩, fun ⟨c, h1, h2⟩ => ⟨c, h1, by simpa using h2⟩⟩
theorem keys_sorted {l ss : List Int} (hl : Inc l) (hp : ss.Perm l) : ss.mergeSort (fun x y => decide (x ≤ y)) = l := by
  refine List.Perm.eq_of_pairwise (le := fun a b => a ≤ b) (fun a b _ _ h1 h2 => Int.le_antisymm h1 h2) ?_ (hl.imp fun h => Int.le_of_lt h) ((List.mergeSort_perm ss _).trans hp)
  refine (List.pairwise_mergeSort (le := fun x y => decide (x ≤ y)) (fun a b c h1 h2 => ?_) (fun a b => ?_) ss).imp fun h => by simpa using h
  · simp only [decide_eq_true_eq] at *; exact Int.le_trans h1 h2
  · simp only [Bool.or_eq_true, decide_eq_true_eq]; exact Int.le_total a b
theorem maps_size {D : DataW Bool} (h : Go.Maps.IsMap D) : Go.Maps.size D = (intKeys D).length := by
  obtain ⟨es, rfl⟩ := h
  simp [Go.Maps.size, intKeys]
theorem a_SortedK (w : World) (bx bm n : Nat) (cs : List (Int × Int)) (hl : cs.length ≤ 1000000) (hx : Blk w bx #[.map (some bm)] 110) (hT : TallyAt w bm n cs) :
    Calls Try.prog 67 #[.func (.func 86) #[] #[.pointer (some ⟨bx, 0, none⟩)]] w fun e w' => ∃ y, e = .returned y ∧ Below w.heap.size w w' ∧ OwnAt w.heap.size w' y 3 1 (keysOf cs).length ((keysOf cs).map (Value.int .i64)) := by
  obtain ⟨D, h1, h2, h3, h4⟩ := hT
  have hp := keys_perm h1 h4
  have hsz : Go.Maps.size D ≤ 1000000 := by
    rw [maps_size h2, ← hp.length_eq]; exact Nat.le_trans (keysOf_len cs) hl
  have hseq : SeqGives Fence.wide 2 Try.prog 86 #[.pointer (some ⟨bx, 0, none⟩)] encZ (fun ss => ss.Perm (intKeys D)) (Go.Maps.size D) w :=
    AnyZI.keys_gives (ρ := keysA_ren) { keysA with } Fence.wide _ trivial rfl (by omega) bx bm n D _ hx.lt (hx.cell 0 _ rfl) h1
  have cS := AnyZI.sorted_in sortedA Fence.wide 5 trivial trivial trivial trivial rfl (by omega) (sortsA _) (enters_of Try.func85 (by kernel_rfl) rfl) 86 #[.pointer (some ⟨bx, 0, none⟩)] trivial (enters_of Try.func86 (by kernel_rfl) rfl) _ _ (by unfold maxLen; omega) (by omega) _ hseq
  change CallsIn _ _ Try.prog 67 _ _ _ at cS
  refine (callsIn_wide (n := 5)).1 (cS.mono ?_)
  rintro e w' ⟨v, ss, rfl, hS, hrow, _, hb⟩
  have hss := keys_sorted (keysOf_inc cs) (hS.trans hp.symm)
  rw [hss] at hrow
  have hlen : ss.length = (keysOf cs).length := (hS.trans hp.symm).length_eq
  rw [hlen] at hrow
  have hone : ∀ u ∈ (keysOf cs).map (Value.int .i64), u.oneCell' = true := fun u hu => by
    obtain ⟨x, _, rfl⟩ := List.mem_map.1 hu; rfl
  refine ⟨v, rfl, hb, ⟨⟨⟨hrow.1, ?_⟩, hone⟩, fun b hb' => (hrow.lt b hb').1⟩⟩
  rcases hrow.2 with h | ⟨g, cap, cur, rfl, h0, h'⟩
  · exact .inl h
  · exact .inr ⟨g, cap, cur, rfl, Nat.zero_le _, h'⟩
theorem a_KeysM (w : World) (mb : Option Nat) : Calls Try.prog 68 #[.map mb] w fun e w' => ∃ b : Nat, e = .returned (.func (.func 86) #[] #[.pointer (some ⟨b, 0, none⟩)]) ∧ Below w.heap.size w w' ∧ Blk w' b #[.map mb] 110 ∧ ∀ z, z = b → w.heap.size ≤ z := by
  have h := AnyZI.keys_in keysA Fence.wide 5 trivial rfl mb w
  change CallsIn _ _ Try.prog 68 _ _ _ at h
  refine (callsIn_wide (n := 5)).1 (h.mono ?_)
  rintro e w' ⟨rfl, rfl⟩
  exact ⟨w.heap.size, rfl, (Below.refl _ w).alloc (Nat.le_refl _) _, Blk.new w _ _, fun z hz => by omega⟩
end Go.Proofs.Ytaijclimdfchfaa
