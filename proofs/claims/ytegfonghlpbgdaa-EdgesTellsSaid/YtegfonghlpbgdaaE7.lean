import Derived.Test.YtegfonghlpbgdaaE6
import Derived.Test.YtegfonghlpbgdaaKM
/- Points that come in; pieces whose corners are near. Conditions: none. -/
namespace Go.Proofs.Ytegfonghlpbgdaa
open Go.Proofs Go.RowKit Go.Shelf

theorem pts_of : ∀ (n : Nat) (xs : List Value), xs.length = n * 2 → (∀ u ∈ xs, IsInt u) → ∃ pc : List PtT, pc.length = n ∧ pc.flatMap eP = xs ∧ ∀ p ∈ pc, (Lit.int .i64 p.x).wf = true ∧ (Lit.int .i64 p.y).wf = true
  | 0, [], _, _ => ⟨[], rfl, rfl, fun p hp => by simp at hp⟩
  | n + 1, u :: v :: r, hl, h => by
    obtain ⟨a, rfl, ha⟩ := h u (by simp)
    obtain ⟨b, rfl, hb⟩ := h v (by simp)
    obtain ⟨pc, h1, h2, h3⟩ := pts_of n r (by simp at hl; omega) (fun w hw => h w (by simp [hw]))
    refine ⟨⟨a, b⟩ :: pc, by simp [h1], by rw [List.flatMap_cons, h2]; rfl, fun p hp => ?_⟩
    rcases List.mem_cons.1 hp with rfl | hp
    · exact ⟨ha, hb⟩
    · exact h3 p hp
  | 0, _ :: _, hl, _ => by simp at hl
  | n + 1, [], hl, _ => by simp at hl
  | n + 1, [_], hl, _ => by simp at hl; omega
/-- pieces in memory, of whatever length -/
structure PcsW (v : Value) (pvs : List Value) (ps : List (List PtT)) : Prop where
  V : RowV v ps.length
  lenv : pvs.length = ps.length
  len : ps.length ≤ 9223372036854775807
  pV : ∀ i, i < ps.length → RowV (pvs.getD i undef) (ps.getD i []).length
def BndP (pc : List PtT) : Prop := pc.length ≤ 16 ∧ ∀ j, j < pc.length → NearT (pc.getD j dP)
def Bnd (ps : List (List PtT)) : Prop := ps.length ≤ 20 ∧ ∀ i, i < ps.length → BndP (ps.getD i [])
instance (pc : List PtT) : Decidable (BndP pc) := by unfold BndP; infer_instance
instance (ps : List (List PtT)) : Decidable (Bnd ps) := by unfold Bnd; infer_instance
theorem BndP.near {pc : List PtT} (h : BndP pc) : ∀ p ∈ pc, NearT p := fun p hp => by
  obtain ⟨j, hj, rfl⟩ := List.getElem_of_mem hp
  have := h.2 j hj
  rwa [List.getD_eq_getElem?_getD, List.getElem?_eq_getElem hj] at this
theorem Bnd.pcsV {v : Value} {pvs : List Value} {ps : List (List PtT)} (h : Bnd ps) (hv : PcsW v pvs ps) : PcsV v pvs ps :=
  ⟨hv.V, hv.lenv, by have := h.1; omega, hv.pV, fun i hi => by have := (h.2 i hi).1; omega, fun i hi => (h.2 i hi).near⟩
theorem maxLen_le : maxLen = 9223372036854775807 := by decide
theorem decide_congr {p q : Prop} [Decidable p] [Decidable q] (h : p ↔ q) : decide p = decide q := by
  by_cases hp : p
  · rw [decide_eq_true hp, decide_eq_true (h.1 hp)]
  · rw [decide_eq_false hp, decide_eq_false (fun hq => hp (h.2 hq))]
theorem a_bounded (w : World) (v : Value) (pvs : List Value) (ps : List (List PtT)) (hv : PcsW v pvs ps) (hat : PcsAt w v pvs ps) : Calls Try.prog 15 #[v] w fun e w' => e = .returned (.bool (decide (Bnd ps))) ∧ Below w.heap.size w w' := by
  have hVp := hv.V
  have hlen := hv.len
  have hrowP : ∀ w', Chg (fun _ => False) w w' → RowAt w' v 1 ps.length pvs := fun w' h => (hat.keep h).row
  refine calls_of (args := [v]) Try.func15 rfl Try.ntmps15 Try.results15 rfl ?_
  refine v_seq ?_
  refine v_region ?_
  refine l_val rfl (o_assign rfl) ?_
  refine l_nil ?_
  refine kt_norm ?_
  refine v_seq ?_
  refine v_seq ?_
  refine v_region ?_
  refine l_val rfl (o_assign rfl) ?_
  refine l_nil ?_
  refine kt_norm ?_
  refine v_block ?_
  refine v_loopS (α := Nat) (fun i => [(3, .int .i64 (i : Int))]) (fun i => [])  (fun i => i ≤ ps.length ∧ ∀ k, k < i → BndP (ps.getD k [])) (fun i => ps.length - i) 0 [0] [] ⟨by omega, fun k h => by omega⟩  (And.intro rfl (True.intro)) rfl (True.intro) rfl ?_
  rintro i ⟨hi, hB⟩
  refine v_seq ?_
  refine v_seq ?_
  refine v_region ?_
  refine l_val rfl (o_move rfl) ?_
  refine l_val rfl (o_move rfl) ?_
  refine l_val rfl (o_len rfl hVp) ?_
  refine l_split rfl (o_lss rfl rfl) (fun q1 => ?_) (fun q1 => ?_)
  · have hil : i < ps.length := by omega
    obtain ⟨pc, hpc⟩ : ∃ pc, ps.getD i [] = pc := ⟨_, rfl⟩
    have hVq := hv.pV i hil
    have hrowQ : ∀ w', Chg (fun _ => False) w w' → RowAt w' (pvs.getD i undef) 2 (ps.getD i []).length ((ps.getD i []).flatMap eP) := fun w' h => (hat.keep h).pc i hil
    rw [hpc] at hVq hrowQ
    refine l_nil ?_
    refine kt_norm ?_
    refine v_condT rfl ?_
    refine v_skip ?_
    refine kt_norm ?_
    refine v_seq ?_
    refine v_block ?_
    refine v_seq ?_
    refine v_seq ?_
    refine v_region ?_
    refine l_val rfl (o_move rfl) ?_
    refine l_val rfl (o_move rfl) ?_
    refine l_val rfl (o_idx (i) rfl hVp rfl (by first | rfl | omega) (by omega)) ?_
    refine l_val rfl (o_loadR1 rfl (row_imm hrowP) (el_one (by rw [hv.lenv]; exact hil))) ?_
    refine l_val rfl (o_len rfl hVq) ?_
    refine l_split rfl (o_gtr rfl rfl) (fun h16 => ?_) (fun h16 => ?_)
    · skip
      refine l_nil ?_
      refine kt_norm ?_
      refine v_sel [3, 0, 16] [] rfl rfl ?_
      refine v_condT rfl ?_
      refine v_seq ?_
      refine v_region ?_
      refine l_val rfl (o_assign rfl) ?_
      refine l_nil ?_
      refine kt_norm ?_
      refine v_ret ?_
      refine kt_ret ?_
      refine kb_ret ?_
      refine kt_ret ?_
      refine kt_ret ?_
      refine kb_ret ?_
      refine kt_ret ?_
      refine ⟨[_], .cons (.tmp rfl) (ResAll.nil), ?_⟩
      first
        | exact congrArg Value.bool (decide_eq_false fun h => by have := (h.2 i hil).1; rw [hpc] at this; omega).symm
        | exact congrArg Value.bool (decide_eq_false fun h => by have := (h.2 i hil).2 j (by rw [hpc]; exact hjl); rw [hpc] at this; exact absurd this hnr).symm
        | exact congrArg Value.bool (decide_congr ⟨fun h => ⟨by omega, fun k hk => hB k (by omega)⟩, fun h => by have := h.1; omega⟩)
    · skip
      refine l_nil ?_
      refine kt_norm ?_
      refine v_sel [3, 0, 16] [] rfl rfl ?_
      refine v_condF rfl ?_
      refine v_skip ?_
      refine kt_norm ?_
      refine v_seq ?_
      refine v_region ?_
      refine l_val rfl (o_assign rfl) ?_
      refine l_nil ?_
      refine kt_norm ?_
      refine v_block ?_
      refine v_loopS (α := Nat) (fun j => [(4, .int .i64 (j : Int))]) (fun j => [])  (fun j => j ≤ pc.length ∧ ∀ k, k < j → NearT (pc.getD k dP)) (fun j => pc.length - j) 0 [3, 0] [] ⟨by omega, fun k h => by omega⟩  (And.intro rfl (True.intro)) rfl (True.intro) rfl ?_
      rintro j ⟨hj, hN⟩
      refine v_seq ?_
      refine v_seq ?_
      refine v_region ?_
      refine l_val rfl (o_move rfl) ?_
      refine l_val rfl (o_move rfl) ?_
      refine l_val rfl (o_move rfl) ?_
      refine l_val rfl (o_idx (i) rfl hVp rfl (by first | rfl | omega) (by omega)) ?_
      refine l_val rfl (o_loadR1 rfl (row_imm hrowP) (el_one (by rw [hv.lenv]; exact hil))) ?_
      refine l_val rfl (o_len rfl hVq) ?_
      refine l_split rfl (o_lss rfl rfl) (fun q2 => ?_) (fun q2 => ?_)
      · have hjl : j < pc.length := by omega
        refine l_nil ?_
        refine kt_norm ?_
        refine v_sel [4, 3, 0, 23] [] rfl rfl ?_
        refine v_condT rfl ?_
        refine v_skip ?_
        refine kt_norm ?_
        refine v_seq ?_
        refine v_block ?_
        refine v_seq ?_
        refine v_region ?_
        refine l_val rfl (o_move rfl) ?_
        refine l_val rfl (o_move rfl) ?_
        refine l_val rfl (o_idx (i) rfl hVp rfl (by first | rfl | omega) (by omega)) ?_
        refine l_val rfl (o_loadR1 rfl (row_imm hrowP) (el_one (by rw [hv.lenv]; exact hil))) ?_
        refine l_val rfl (o_move rfl) ?_
        refine l_val rfl (o_idx (j) rfl hVq rfl (by first | rfl | omega) (by omega)) ?_
        refine l_val rfl (o_loadRE (c' := [_, _]) rfl (row_imm hrowQ) (el_flat eP_len dP pc (j) (by omega)) rfl) ?_
        refine l_ans (vs := [_]) rfl rfl (a_Near (pc.getD j dP)) ?_
        refine lz_bool (fun hnr => ?_) (fun hnr => ?_)
        · skip
          refine l_val rfl (o_not rfl rfl) ?_
          refine l_nil ?_
          refine kt_norm ?_
          refine v_sel [4, 3, 0, 34] [] rfl rfl ?_
          refine v_condF rfl ?_
          refine v_skip ?_
          refine kb_norm ?_
          refine kt_norm ?_
          refine v_region ?_
          refine l_val rfl (o_move rfl) ?_
          refine l_val rfl (o_addi rfl rfl ?_) ?_
          · omega
          refine l_val rfl (o_assign rfl) ?_
          refine l_nil ?_
          refine kt_norm ?_
          refine ⟨j + 1, ⟨hjl, fun k hk => by rcases Nat.lt_or_eq_of_le (Nat.le_of_lt_succ hk) with h | h; exact hN k h; subst h; assumption⟩, by omega, le_app (And.intro rfl (True.intro)) [3, 0] rfl (True.intro) [] rfl⟩
        · skip
          refine l_val rfl (o_not rfl rfl) ?_
          refine l_nil ?_
          refine kt_norm ?_
          refine v_sel [4, 3, 0, 34] [] rfl rfl ?_
          refine v_condT rfl ?_
          refine v_seq ?_
          refine v_region ?_
          refine l_val rfl (o_assign rfl) ?_
          refine l_nil ?_
          refine kt_norm ?_
          refine v_ret ?_
          refine kb_ret ?_
          refine kt_ret ?_
          refine kt_ret ?_
          refine kb_ret ?_
          refine kb_ret ?_
          refine kt_ret ?_
          refine kt_ret ?_
          refine kb_ret ?_
          refine kt_ret ?_
          refine ⟨[_], .cons (.tmp rfl) (ResAll.nil), ?_⟩
          first
            | exact congrArg Value.bool (decide_eq_false fun h => by have := (h.2 i hil).1; rw [hpc] at this; omega).symm
            | exact congrArg Value.bool (decide_eq_false fun h => by have := (h.2 i hil).2 j (by rw [hpc]; exact hjl); rw [hpc] at this; exact absurd this hnr).symm
            | exact congrArg Value.bool (decide_congr ⟨fun h => ⟨by omega, fun k hk => hB k (by omega)⟩, fun h => by have := h.1; omega⟩)
      · skip
        refine l_nil ?_
        refine kt_norm ?_
        refine v_sel [4, 3, 0, 23] [] rfl rfl ?_
        refine v_condF rfl ?_
        refine v_exit ?_
        refine kt_exit ?_
        refine kt_exit ?_
        refine kb_eq ?_
        refine kb_norm ?_
        refine kt_norm ?_
        refine v_region ?_
        refine l_val rfl (o_move rfl) ?_
        refine l_val rfl (o_addi rfl rfl ?_) ?_
        · omega
        refine l_val rfl (o_assign rfl) ?_
        refine l_nil ?_
        refine kt_norm ?_
        refine ⟨i + 1, ⟨hil, fun k hk => by rcases Nat.lt_or_eq_of_le (Nat.le_of_lt_succ hk) with h | h; exact hB k h; subst h; rw [hpc]; exact ⟨by omega, fun m hm => hN m (by omega)⟩⟩, by omega, le_app (And.intro rfl (True.intro)) [0] rfl (True.intro) [] rfl⟩
  · skip
    refine l_nil ?_
    refine kt_norm ?_
    refine v_condF rfl ?_
    refine v_exit ?_
    refine kt_exit ?_
    refine kt_exit ?_
    refine kb_eq ?_
    refine kt_norm ?_
    refine v_seq ?_
    refine v_region ?_
    refine l_val rfl (o_move rfl) ?_
    refine l_val rfl (o_len rfl hVp) ?_
    refine l_val rfl (o_leq rfl rfl) ?_
    refine l_val rfl (o_assign rfl) ?_
    refine l_nil ?_
    refine kt_norm ?_
    refine v_sel [2] [] rfl rfl ?_
    refine v_ret ?_
    refine ⟨[_], .cons (.tmp rfl) (ResAll.nil), ?_⟩
    first
      | exact congrArg Value.bool (decide_eq_false fun h => by have := (h.2 i hil).1; rw [hpc] at this; omega).symm
      | exact congrArg Value.bool (decide_eq_false fun h => by have := (h.2 i hil).2 j (by rw [hpc]; exact hjl); rw [hpc] at this; exact absurd this hnr).symm
      | exact congrArg Value.bool (decide_congr ⟨fun h => ⟨by omega, fun k hk => hB k (by omega)⟩, fun h => by have := h.1; omega⟩)
end Go.Proofs.Ytegfonghlpbgdaa
