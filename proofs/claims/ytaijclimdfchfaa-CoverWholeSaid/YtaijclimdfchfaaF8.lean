import Derived.Test.YtaijclimdfchfaaF4
import Derived.Test.YtaijclimdfchfaaKQ
/- The canvas: spans are gathered, a row of pixels is flushed. Conditions: none. -/
namespace Go.Proofs.Ytaijclimdfchfaa
open Go.Proofs Go.RowKit Go.Shelf

theorem lenC_def (lo hi : Int) (s : SpanT) : (max lo s.fr < min hi s.to → lenC lo hi s = min hi s.to - max lo s.fr) ∧ (¬ max lo s.fr < min hi s.to → lenC lo hi s = 0) := by
  simp only [lenC, clipS]
  constructor <;> intro h <;> (repeat' split) <;> omega
theorem lenC_bound (lo hi : Int) (s : SpanT) : 0 ≤ lenC lo hi s ∧ (lo ≤ hi → lenC lo hi s ≤ hi - lo) := by
  have h := lenC_def lo hi s
  by_cases hc : max lo s.fr < min hi s.to
  · have := h.1 hc; omega
  · have := h.2 hc; omega
theorem lenC_clip {a b lo hi : Int} {s : SpanT} (h1 : a ≤ lo) (h2 : hi ≤ b) : lenC lo hi (clipS a b s) = lenC lo hi s := by
  have e1 := lenC_def lo hi (clipS a b s)
  have e2 := lenC_def lo hi s
  have f1 : (clipS a b s).fr = max a s.fr := by simp only [clipS]; split <;> omega
  have f2 : (clipS a b s).to = min b s.to := by simp only [clipS]; split <;> omega
  rw [f1, f2] at e1
  by_cases hc : max lo s.fr < min hi s.to
  · have h3 := e1.1 (by omega); have h4 := e2.1 hc; omega
  · have h3 := e1.2 (by omega); have h4 := e2.2 hc; omega
theorem lenC_none {lo hi : Int} {s : SpanT} (h : ¬ s.fr < s.to) : lenC lo hi s = 0 := (lenC_def lo hi s).2 (by omega)
theorem sumC_clip {a b lo hi : Int} (h1 : a ≤ lo) (h2 : hi ≤ b) : ∀ l : List SpanT, sumF (lenC lo hi) (clipT a b l) = sumF (lenC lo hi) l
  | [] => rfl
  | s :: l => by
    rw [clipT_cons, sumF_append, sumC_clip h1 h2 l]
    simp only [sumF]
    congr 1
    split
    · simp only [sumF]; rw [lenC_clip h1 h2]; omega
    · rename_i h; rw [← lenC_clip h1 h2, lenC_none h]; rfl
theorem sumC_bound (lo : Int) : ∀ l : List SpanT, 0 ≤ sumF (lenC lo (lo + 256)) l ∧ sumF (lenC lo (lo + 256)) l ≤ 256 * l.length
  | [] => ⟨Int.le_refl _, by simp [sumF]⟩
  | s :: l => by
    have ih := sumC_bound lo l
    have hb := lenC_bound lo (lo + 256) s
    simp only [sumF, List.length_cons]
    omega
/-- the part of pixel p -/
def pxC (st : Int) (p : Nat) (s : SpanT) : Int := lenC (st + 256 * p) (st + 256 * p + 256) s
theorem pxC_step {st fr at_ to e : Int} {px : Nat} (h1 : st ≤ fr) (h2 : fr ≤ at_) (h3 : at_ < to) (hp : (px : Int) = (at_ - st) / 256) (he : e = if st + (px + 1) * 256 < to then st + (px + 1) * 256 else to) (p : Nat) : pxC st p ⟨fr, e⟩ = pxC st p ⟨fr, at_⟩ + if p = px then e - at_ else 0 := by
  have d1 := lenC_def (st + 256 * p) (st + 256 * p + 256) ⟨fr, e⟩
  have d2 := lenC_def (st + 256 * p) (st + 256 * p + 256) ⟨fr, at_⟩
  dsimp only at d1 d2
  unfold pxC
  have hpx : 256 * (px : Int) ≤ at_ - st ∧ at_ - st < 256 * px + 256 := by omega
  have he1 : at_ < e ∧ e ≤ st + 256 * px + 256 ∧ e ≤ to := by split at he <;> omega
  by_cases c1 : max (st + 256 * (p : Int)) fr < min (st + 256 * p + 256) e <;> by_cases c2 : max (st + 256 * (p : Int)) fr < min (st + 256 * p + 256) at_
  · rw [d1.1 c1, d2.1 c2]; split
    · rename_i hh; subst hh; omega
    · rename_i hh; rcases Nat.lt_or_gt_of_ne hh with h4 | h4 <;> omega
  · rw [d1.1 c1, d2.2 c2]; split
    · rename_i hh; subst hh; omega
    · rename_i hh; rcases Nat.lt_or_gt_of_ne hh with h4 | h4 <;> omega
  · rw [d1.2 c1, d2.1 c2]; split
    · rename_i hh; subst hh; omega
    · rename_i hh; rcases Nat.lt_or_gt_of_ne hh with h4 | h4 <;> omega
  · rw [d1.2 c1, d2.2 c2]; split
    · rename_i hh; subst hh; omega
    · rfl
theorem pxC_none (st fr : Int) (p : Nat) : pxC st p ⟨fr, fr⟩ = 0 := lenC_none (by dsimp only; omega)
/-- sums that have grown -/
structure GQ (n : Nat) (base cur : List Int) (f : Nat → Int) : Prop where
  len : cur.length = n
  at_ : ∀ p, p < n → cur.getD p 0 = base.getD p 0 + f p
theorem GQ.start {n : Nat} {base : List Int} (h : base.length = n) {f : Nat → Int} (hf : ∀ p, f p = 0) : GQ n base base f := ⟨h, fun p _ => by rw [hf p]; omega⟩
theorem GQ.set {n : Nat} {base cur : List Int} {f g : Nat → Int} (h : GQ n base cur f) {j : Nat} {x : Int} (hj : j < n) (hx : x = cur.getD j 0 + (g j - f j)) (hg : ∀ p, p < n → p ≠ j → g p = f p) : GQ n base (cur.set j x) g := by
  refine ⟨by rw [List.length_set, h.len], fun p hp => ?_⟩
  have h1 := h.at_ p hp
  have hl : p < cur.length := by rw [h.len]; exact hp
  rw [List.getD_eq_getElem?_getD, List.getElem?_set]
  by_cases e : j = p
  · subst e
    rw [if_pos rfl, if_pos hl]
    simp only [Option.getD_some]
    omega
  · rw [if_neg e, ← List.getD_eq_getElem?_getD, hg p hp fun h => e h.symm]; exact h1
theorem GQ.trans {n : Nat} {base mid cur : List Int} {f g k : Nat → Int} (h1 : GQ n base mid f) (h2 : GQ n mid cur g) (hk : ∀ p, p < n → k p = f p + g p) : GQ n base cur k := ⟨h2.len, fun p hp => by rw [h2.at_ p hp, h1.at_ p hp, hk p hp]; omega⟩
def valM (x : Int) : Int := if 0 < (if 4096 < x then 4096 else x) then (if 4096 < x then 4096 else x) else 0
def valT (x : Int) : Int := (valM x * 255 + 2048) / 4096
theorem valM_bound (x : Int) : 0 ≤ valM x ∧ valM x ≤ 4096 := by unfold valM; (repeat' split) <;> omega
theorem takeSnoc20 {l : List SpanT} {i : Nat} (h : i < l.length) : l.take (i + 1) = l.take i ++ [l.getD i dS] := by
  rw [List.take_add_one, List.getElem?_eq_getElem h, List.getD_eq_getElem?_getD, List.getElem?_eq_getElem h]; rfl
def cnv (n : Nat) (X Y H : Int) (pv sv : Value) : List Value := [.int .i64 (n : Int), .int .i64 H, pv, .int .i64 X, .int .i64 Y, .int .i64 (n : Int), .int .i64 H, sv]
def iI (l : List Int) : List Value := l.map (Value.int .i64)
def iU (l : List Int) : List Value := l.map (Value.int .u8)
theorem iI_set {l : List Int} {j : Nat} {x : Int} : (iI l).set j (.int .i64 x) = iI (l.set j x) := by simp [iI, List.map_set]
theorem iI_len {l : List Int} : (iI l).length = l.length := by simp [iI]
theorem a_Value (x : Int) : Ans Try.prog 29 [.int .i64 x] (.int .u8 (valT x)) := by
  have hm := valM_bound x
  have hme : valM x = if 0 < (if 4096 < x then 4096 else x) then (if 4096 < x then 4096 else x) else 0 := rfl
  refine ans_of Try.func29 rfl Try.ntmps29 Try.results29 rfl rfl fun w => ?_
  refine v_seq ?_
  refine v_region ?_
  refine l_val rfl (o_assign rfl) ?_
  refine l_nil ?_
  refine kt_norm ?_
  refine v_seq ?_
  refine v_region ?_
  refine l_val rfl (o_move rfl) ?_
  refine l_val rfl (o_min rfl rfl) ?_
  refine l_val rfl (o_max rfl rfl) ?_
  refine l_val rfl (o_muli rfl rfl ?_) ?_
  · (try rw [← hme]); omega
  refine l_val rfl (o_addi rfl rfl ?_) ?_
  · (try rw [← hme]); omega
  refine l_val rfl (o_quon rfl rfl ?_ ?_) ?_
  · (try rw [← hme]); omega
  · exact wrap_i64 (by (try rw [← hme]); omega)
  refine l_val rfl (o_conv8 rfl ?_) ?_
  · (try rw [← hme]); omega
  refine l_val rfl (o_assign rfl) ?_
  refine l_nil ?_
  refine kt_norm ?_
  refine v_sel [2] [] rfl rfl ?_
  refine v_ret ?_
  refine ⟨[_], .cons (.tmp rfl) (ResAll.nil), ?_⟩
  rfl
set_option maxHeartbeats 1000000 in
theorem a_gather (w : World) (vs sv pv : Value) (bC n : Nat) (X Y H : Int) (l : List SpanT) (sums : List Int) (hn : 1 ≤ n ∧ n ≤ 256) (hX : -1048576 ≤ X ∧ X ≤ 1048576) (hll : l.length ≤ 1000000) (hsl : sums.length = n) (hsb : ∀ p, p < n → -1099511627776 ≤ sums.getD p 0 ∧ sums.getD p 0 ≤ 1099511627776) (hV : RowV vs l.length)
    (hok : ∀ k h, lk [(1000, Hp.own sv 3 1 n (iI sums)), (1001, Hp.box bC 88 [.int .i64 (n : Int), .int .i64 H, pv, .int .i64 X, .int .i64 Y, .int .i64 (n : Int), .int .i64 H, sv])] k = some h → h.ok w) (hi0 : ∀ k k' h h' b, lk [(1000, Hp.own sv 3 1 n (iI sums)), (1001, Hp.box bC 88 [.int .i64 (n : Int), .int .i64 H, pv, .int .i64 X, .int .i64 Y, .int .i64 (n : Int), .int .i64 H, sv])] k = some h → lk [(1000, Hp.own sv 3 1 n (iI sums)), (1001, Hp.box bC 88 [.int .i64 (n : Int), .int .i64 H, pv, .int .i64 X, .int .i64 Y, .int .i64 (n : Int), .int .i64 H, sv])] k' = some h' → h.blk = some b → h'.blk = some b → k = k') (hr : ∀ w', Chg (Blks [(1000, Hp.own sv 3 1 n (iI sums)), (1001, Hp.box bC 88 [.int .i64 (n : Int), .int .i64 H, pv, .int .i64 X, .int .i64 Y, .int .i64 (n : Int), .int .i64 H, sv])]) w w' → RowAt w' vs 2 l.length (l.flatMap eS)) :
    Calls Try.prog 49 #[.pointer (some ⟨bC, 0, none⟩), vs] w fun e w' => (∃ y, e = .returned y) ∧ ∃ cur : List Int, GQ n sums cur (fun p => sumF (pxC (X * 256) p) l) ∧ News [(1000, Hp.own sv 3 1 n (iI sums)), (1001, Hp.box bC 88 [.int .i64 (n : Int), .int .i64 H, pv, .int .i64 X, .int .i64 Y, .int .i64 (n : Int), .int .i64 H, sv])] [(1000, Hp.own sv 3 1 n (iI cur)), (1001, Hp.box bC 88 [.int .i64 (n : Int), .int .i64 H, pv, .int .i64 X, .int .i64 Y, .int .i64 (n : Int), .int .i64 H, sv])] w w' := by
  have hVs : RowV sv n := rowV_own (hok 1000 _ rfl)
  have hcl := clipT_len (X * 256) (X * 256 + (n : Int) * 256) l
  refine calls_multi (args := [.pointer (some ⟨bC, 0, none⟩), vs]) [(1000, Hp.own sv 3 1 n (iI sums)), (1001, Hp.box bC 88 [.int .i64 (n : Int), .int .i64 H, pv, .int .i64 X, .int .i64 Y, .int .i64 (n : Int), .int .i64 H, sv])] (fun cur => GQ n sums cur (fun p => sumF (pxC (X * 256) p) l)) (fun cur => [(1000, Hp.own sv 3 1 n (iI cur)), (1001, Hp.box bC 88 [.int .i64 (n : Int), .int .i64 H, pv, .int .i64 X, .int .i64 Y, .int .i64 (n : Int), .int .i64 H, sv])]) Try.func49 rfl Try.ntmps49 Try.results49 hok hi0 ?_
  refine v_seq ?_
  refine v_region ?_
  refine l_val rfl (o_move rfl) ?_
  refine l_val rfl (o_nilCheck rfl) ?_
  refine l_val rfl (o_fld rfl) ?_
  refine l_val rfl (o_fld rfl) ?_
  refine l_val rfl (o_load1 (key := 1001) rfl rfl rfl) ?_
  refine l_val rfl (o_muli rfl rfl ?_) ?_
  · omega
  refine l_val rfl (o_assign rfl) ?_
  refine l_nil ?_
  refine kt_norm ?_
  refine v_sel [0, 1, 4] [1000, 1001] rfl rfl ?_
  refine v_seq ?_
  refine v_region ?_
  refine l_val rfl (o_move rfl) ?_
  refine l_val rfl (o_move rfl) ?_
  refine l_val rfl (o_move rfl) ?_
  refine l_val rfl (o_move rfl) ?_
  refine l_val rfl (o_nilCheck rfl) ?_
  refine l_val rfl (o_fld rfl) ?_
  refine l_val rfl (o_fld rfl) ?_
  refine l_val rfl (o_load1 (key := 1001) rfl rfl rfl) ?_
  refine l_val rfl (o_muli rfl rfl ?_) ?_
  · omega
  refine l_val rfl (o_addi rfl rfl ?_) ?_
  · omega
  refine l_gown (ks := []) (caps := #[]) (vs := [_, _, _]) rfl rfl (ent_of Try.func20 rfl rfl) rfl (fun w' hg hh => a_Clip w' vs l (X * 256) (X * 256 + (n : Int) * 256) hll hV (hr w' hg)) fun yc hyc => ?_
  refine l_val rfl (o_len rfl hyc) ?_
  refine l_val rfl (o_move rfl) ?_
  refine l_nil ?_
  refine kt_norm ?_
  refine v_sel [0, 4, 26, 27, 28] [26, 1000, 1001] rfl rfl ?_
  refine v_block ?_
  refine v_loopS (α := Nat × List Int) (fun ⟨i, cur⟩ => [(28, .int .i64 (i : Int))]) (fun ⟨i, cur⟩ => [(1000, Hp.own sv 3 1 n (iI cur))])  (fun ⟨i, cur⟩ => i ≤ (clipT (X * 256) (X * 256 + (n : Int) * 256) l).length ∧ GQ n sums cur (fun p => sumF (pxC (X * 256) p) ((clipT (X * 256) (X * 256 + (n : Int) * 256) l).take i))) (fun ⟨i, cur⟩ => (clipT (X * 256) (X * 256 + (n : Int) * 256) l).length - i) (0, sums) [0, 4, 26, 27] [26, 1001] ⟨Nat.zero_le _, GQ.start hsl fun p => rfl⟩  (And.intro rfl (True.intro)) rfl (And.intro rfl (True.intro)) rfl ?_
  rintro ⟨i, cur⟩ ⟨hi, hO⟩
  refine v_seq ?_
  refine v_region ?_
  refine l_split rfl (o_lss rfl rfl) (fun q1 => ?_) (fun q1 => ?_)
  · have hil : i < (clipT (X * 256) (X * 256 + (n : Int) * 256) l).length := by omega
    obtain ⟨hc1, hc2, hc3, -⟩ := clipT_bound (sp_mem hil)
    have htk : (clipT (X * 256) (X * 256 + (n : Int) * 256) l).take (i + 1) = (clipT (X * 256) (X * 256 + (n : Int) * 256) l).take i ++ [((clipT (X * 256) (X * 256 + (n : Int) * 256) l).getD i dS)] := takeSnoc20 hil
    refine l_nil ?_
    refine kt_norm ?_
    refine v_seq ?_
    refine v_condT rfl ?_
    refine v_skip ?_
    refine kt_norm ?_
    refine v_seq ?_
    refine v_block ?_
    refine v_seq ?_
    refine v_region ?_
    refine l_val rfl (o_idx (i) rfl hyc rfl (by first | rfl | omega) (by omega)) ?_
    refine l_val rfl (o_loadRE (c' := [_, _]) rfl (row_own (key := 26) rfl) (el_flat eS_len dS (clipT (X * 256) (X * 256 + (n : Int) * 256) l) (i) (by omega)) rfl) ?_
    refine l_new rfl o_alloc fun b6 => ?_
    refine l_store rfl (o_storeW (key := 6) (xs := [_, _]) rfl rfl rfl rfl rfl rfl rfl) ?_
    refine l_nil ?_
    refine kt_norm ?_
    refine v_seq ?_
    refine v_region ?_
    refine l_val rfl (o_fld rfl) ?_
    refine l_val rfl (o_load1 (key := 6) rfl rfl rfl) ?_
    refine l_val rfl (o_assign rfl) ?_
    refine l_nil ?_
    refine kt_norm ?_
    refine v_block ?_
    refine v_loopS (α := Int × List Int) (fun ⟨at_, cur2⟩ => [(7, .int .i64 at_)]) (fun ⟨at_, cur2⟩ => [(1000, Hp.own sv 3 1 n (iI cur2))])  (fun ⟨at_, cur2⟩ => ((clipT (X * 256) (X * 256 + (n : Int) * 256) l).getD i dS).fr ≤ at_ ∧ at_ ≤ ((clipT (X * 256) (X * 256 + (n : Int) * 256) l).getD i dS).to ∧ GQ n cur cur2 (fun p => pxC (X * 256) p ⟨((clipT (X * 256) (X * 256 + (n : Int) * 256) l).getD i dS).fr, at_⟩)) (fun ⟨at_, cur2⟩ => (((clipT (X * 256) (X * 256 + (n : Int) * 256) l).getD i dS).to - at_).toNat) (((clipT (X * 256) (X * 256 + (n : Int) * 256) l).getD i dS).fr, cur) [28, 0, 4, 26, 27, 6] [6, 26, 1001] ⟨Int.le_refl _, by omega, GQ.start hO.len fun p => pxC_none _ _ p⟩  (And.intro rfl (True.intro)) rfl (And.intro rfl (True.intro)) rfl ?_
    rintro ⟨at_, cur2⟩ ⟨hat1, hat2, hI⟩
    refine v_seq ?_
    refine v_seq ?_
    refine v_region ?_
    refine l_val rfl (o_move rfl) ?_
    refine l_val rfl (o_fld rfl) ?_
    refine l_val rfl (o_load1 (key := 6) rfl rfl rfl) ?_
    refine l_split rfl (o_lss rfl rfl) (fun q2 => ?_) (fun q2 => ?_)
    · skip
      refine l_nil ?_
      refine kt_norm ?_
      refine v_condT rfl ?_
      refine v_skip ?_
      refine kt_norm ?_
      refine v_block ?_
      refine v_seq ?_
      refine v_region ?_
      have hpx : at_ < X * 256 + (n : Int) * 256 := by omega
      refine l_val rfl (o_move rfl) ?_
      refine l_val rfl (o_move rfl) ?_
      refine l_val rfl (o_subi rfl rfl ?_) ?_
      · omega
      refine l_val rfl (o_quon rfl rfl ?_ ?_) ?_
      · omega
      · exact wrap_i64 (by omega)
      refine l_val rfl (o_assign rfl) ?_
      refine l_nil ?_
      refine kt_norm ?_
      refine v_sel [7, 28, 0, 4, 26, 27, 6, 8] [6, 26, 1000, 1001] rfl rfl ?_
      refine v_seq ?_
      refine v_region ?_
      refine l_val rfl (o_fld rfl) ?_
      refine l_val rfl (o_load1 (key := 6) rfl rfl rfl) ?_
      refine l_val rfl (o_move rfl) ?_
      refine l_val rfl (o_move rfl) ?_
      refine l_val rfl (o_addi rfl rfl ?_) ?_
      · omega
      refine l_val rfl (o_muli rfl rfl ?_) ?_
      · omega
      refine l_val rfl (o_addi rfl rfl ?_) ?_
      · omega
      refine l_val rfl (o_min rfl rfl) ?_
      refine l_val rfl (o_assign rfl) ?_
      refine l_nil ?_
      refine kt_norm ?_
      refine v_sel [7, 28, 0, 4, 26, 27, 6, 8, 9] [6, 26, 1000, 1001] rfl rfl ?_
      refine v_seq ?_
      refine v_region ?_
      have hcu := hI.at_ (((at_ - X * 256) / 256).toNat) (by omega)
      have hba := hO.at_ (((at_ - X * 256) / 256).toNat) (by omega)
      have hb0 := hsb (((at_ - X * 256) / 256).toNat) (by omega)
      have hb1 := sumC_bound (X * 256 + 256 * ((((at_ - X * 256) / 256).toNat) : Nat)) ((clipT (X * 256) (X * 256 + (n : Int) * 256) l).take i)
      have hb2 := lenC_bound (X * 256 + 256 * ((((at_ - X * 256) / 256).toNat) : Nat)) (X * 256 + 256 * ((((at_ - X * 256) / 256).toNat) : Nat) + 256) ⟨((clipT (X * 256) (X * 256 + (n : Int) * 256) l).getD i dS).fr, at_⟩
      have hb3 := List.length_take (i := i) (l := (clipT (X * 256) (X * 256 + (n : Int) * 256) l))
      have hbe : (pxC (X * 256) (((at_ - X * 256) / 256).toNat) ⟨((clipT (X * 256) (X * 256 + (n : Int) * 256) l).getD i dS).fr, at_⟩) = lenC (X * 256 + 256 * ((((at_ - X * 256) / 256).toNat) : Nat)) (X * 256 + 256 * ((((at_ - X * 256) / 256).toNat) : Nat) + 256) ⟨((clipT (X * 256) (X * 256 + (n : Int) * 256) l).getD i dS).fr, at_⟩ := rfl
      have hbf : sumF (pxC (X * 256) (((at_ - X * 256) / 256).toNat)) ((clipT (X * 256) (X * 256 + (n : Int) * 256) l).take i) = sumF (lenC (X * 256 + 256 * ((((at_ - X * 256) / 256).toNat) : Nat)) (X * 256 + 256 * ((((at_ - X * 256) / 256).toNat) : Nat) + 256)) ((clipT (X * 256) (X * 256 + (n : Int) * 256) l).take i) := rfl
      obtain ⟨e, he⟩ : ∃ e : Int, e = if X * 256 + (((at_ - X * 256) / 256) + 1) * 256 < ((clipT (X * 256) (X * 256 + (n : Int) * 256) l).getD i dS).to then X * 256 + (((at_ - X * 256) / 256) + 1) * 256 else ((clipT (X * 256) (X * 256 + (n : Int) * 256) l).getD i dS).to := ⟨_, rfl⟩
      have hes : at_ < e ∧ e ≤ ((clipT (X * 256) (X * 256 + (n : Int) * 256) l).getD i dS).to ∧ e - at_ ≤ 256 := by split at he <;> omega
      refine l_val rfl (o_move rfl) ?_
      refine l_val rfl (o_nilCheck rfl) ?_
      refine l_val rfl (o_fld rfl) ?_
      refine l_val rfl (o_load1 (key := 1001) rfl rfl rfl) ?_
      refine l_val rfl (o_move rfl) ?_
      refine l_val rfl (o_idx ((((at_ - X * 256) / 256).toNat)) rfl hVs rfl (by omega) (by omega)) ?_
      refine l_val rfl (o_loadR1 rfl (row_own (key := 1000) rfl) (el_int (l := cur2) (i := (((at_ - X * 256) / 256).toNat)) (by have := hI.len; omega))) ?_
      refine l_val rfl (o_move rfl) ?_
      refine l_val rfl (o_move rfl) ?_
      refine l_val rfl (o_subi rfl rfl ?_) ?_
      · omega
      refine l_val rfl (o_addi rfl rfl ?_) ?_
      · omega
      refine l_val rfl (o_idx ((((at_ - X * 256) / 256).toNat)) rfl hVs rfl (by omega) (by omega)) ?_
      refine l_store rfl (o_storeR1 (key := 1000) (j := (((at_ - X * 256) / 256).toNat)) rfl rfl rfl rfl rfl (by omega) (by rw [iI_len]; have := hI.len; omega)) ?_
      refine l_nil ?_
      refine kt_norm ?_
      refine v_sel [28, 0, 4, 26, 27, 6, 9] [6, 26, 1000, 1001] rfl rfl ?_
      refine v_region ?_
      refine l_val rfl (o_move rfl) ?_
      refine l_val rfl (o_assign rfl) ?_
      refine l_nil ?_
      refine kb_norm ?_
      refine kt_norm ?_
      refine ⟨(e, cur2.set (((at_ - X * 256) / 256).toNat) (cur2.getD (((at_ - X * 256) / 256).toNat) 0 + (e - at_))), ⟨by omega, by omega, hI.set (by omega) (by have := pxC_step (st := X * 256) (fr := ((clipT (X * 256) (X * 256 + (n : Int) * 256) l).getD i dS).fr) (at_ := at_) (to := ((clipT (X * 256) (X * 256 + (n : Int) * 256) l).getD i dS).to) (e := e) (px := (((at_ - X * 256) / 256).toNat)) hc1 hat1 (by omega) (by omega) (by rw [he]; split <;> split <;> omega) (((at_ - X * 256) / 256).toNat); rw [if_pos rfl] at this; omega) (fun p hp hne => by have := pxC_step (st := X * 256) (fr := ((clipT (X * 256) (X * 256 + (n : Int) * 256) l).getD i dS).fr) (at_ := at_) (to := ((clipT (X * 256) (X * 256 + (n : Int) * 256) l).getD i dS).to) (e := e) (px := (((at_ - X * 256) / 256).toNat)) hc1 hat1 (by omega) (by omega) (by rw [he]; split <;> split <;> omega) p; rw [if_neg hne] at this; omega)⟩, (by show (((clipT (X * 256) (X * 256 + (n : Int) * 256) l).getD i dS).to - e).toNat < (((clipT (X * 256) (X * 256 + (n : Int) * 256) l).getD i dS).to - at_).toNat; omega), le_app (And.intro (congrArg (fun q => some (Value.int .i64 q)) he.symm) (True.intro)) [28, 0, 4, 26, 27, 6] rfl (And.intro (congrArg some (own_congr rfl (by rw [iI_set]; congr 2; rw [he]))) (True.intro)) [6, 26, 1001] rfl⟩
    · skip
      refine l_nil ?_
      refine kt_norm ?_
      refine v_condF rfl ?_
      refine v_exit ?_
      refine kt_exit ?_
      refine kt_exit ?_
      refine kb_eq ?_
      refine kb_norm ?_
      refine kt_norm ?_
      refine v_sel [28, 0, 4, 26, 27] [26, 1000, 1001] rfl rfl ?_
      refine v_region ?_
      have hate : at_ = ((clipT (X * 256) (X * 256 + (n : Int) * 256) l).getD i dS).to := by omega
      have hend : ∀ p, pxC (X * 256) p ⟨((clipT (X * 256) (X * 256 + (n : Int) * 256) l).getD i dS).fr, at_⟩ = pxC (X * 256) p ((clipT (X * 256) (X * 256 + (n : Int) * 256) l).getD i dS) := fun p => by rw [hate]
      refine l_val rfl (o_addi rfl rfl ?_) ?_
      · omega
      refine l_val rfl (o_move rfl) ?_
      refine l_nil ?_
      refine kt_norm ?_
      refine ⟨(i + 1, cur2), ⟨hil, hO.trans hI fun p hp => by rw [htk, sumF_append]; have := hend p; simp only [sumF]; omega⟩, (by show (clipT (X * 256) (X * 256 + (n : Int) * 256) l).length - (i + 1) < (clipT (X * 256) (X * 256 + (n : Int) * 256) l).length - i; omega), le_app (And.intro rfl (True.intro)) [0, 4, 26, 27] rfl (And.intro rfl (True.intro)) [26, 1001] rfl⟩
  · skip
    refine l_nil ?_
    refine kt_norm ?_
    refine v_seq ?_
    refine v_condF rfl ?_
    refine v_exit ?_
    refine kt_exit ?_
    refine kt_exit ?_
    refine kb_eq ?_
    refine ⟨[], ResAll.nil, ?_⟩
    exact ⟨cur, ⟨hO.len, fun p hp => by rw [hO.at_ p hp]; rw [List.take_of_length_le (by omega)]; exact congrArg _ (sumC_clip (by omega) (by omega) l)⟩, leL_ok _ (And.intro rfl (And.intro rfl True.intro))⟩
end Go.Proofs.Ytaijclimdfchfaa
