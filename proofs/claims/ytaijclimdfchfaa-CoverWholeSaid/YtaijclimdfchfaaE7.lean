import Derived.Test.YtaijclimdfchfaaE6
import Derived.Test.YtaijclimdfchfaaKM
/- Points that come in; pieces whose corners are near. Conditions: none. -/
namespace Go.Proofs.Ytaijclimdfchfaa
open Go.Proofs Go.RowKit Go.Shelf

theorem pts_of : ∀ (n : Nat) (xs : List Value), xs.length = n * 2 → (∀ u ∈ xs, IsInt u) → ∃ pc : List PtT, pc.length = n ∧ pc.flatMap eP = xs ∧ ∀ p ∈ pc, (Lit.int .i64 p.x).wf = true ∧ (Lit.int .i64 p.y).wf = true
  | 0, [], _, _ => ⟨[], rfl, rfl, fun p hp => by simp at hp⟩
  | n + 1, u :: v :: r, hl, h => by
    obtain ⟨a, rfl, ha⟩ := h u (by simp)
    obtain ⟨b, rfl, hb⟩ := h v (by simp)
    obtain ⟨pc, h1, h2, h3⟩ := pts_of n r (by simp at hl; omega) (fun w hw => h w (by simp [hw]))
    refine ⟨⟨a, b⟩ :: pc, by simp [h1], by rw [List.flatMap_cons, h2]; rfl, fun p hp => ?_⟩
    rcases List.mem_cons.1 hp with rfl | hp
    · exact ⟨ha, hb⟩
    · exact h3 p hp
  | 0, _ :: _, hl, _ => by simp at hl
  | n + 1, [], hl, _ => by simp at hl
  | n + 1, [_], hl, _ => by simp at hl; omega
/-- pieces in memory, of whatever length -/
structure PcsW (v : Value) (pvs : List Value) (ps : List (List PtT)) : Prop where
  V : RowV v ps.length
  lenv : pvs.length = ps.length
  len : ps.length ≤ 9223372036854775807
  pV : ∀ i, i < ps.length → RowV (pvs.getD i undef) (ps.getD i []).length
def BndP (pc : List PtT) : Prop := pc.length ≤ 16 ∧ ∀ j, j < pc.length → NearT (pc.getD j dP)
def Bnd (ps : List (List PtT)) : Prop := ps.length ≤ 20 ∧ ∀ i, i < ps.length → BndP (ps.getD i [])
instance (pc : List PtT) : Decidable (BndP pc) := by unfold BndP; infer_instance
instance (ps : List (List PtT)) : Decidable (Bnd ps) := by unfold Bnd; infer_instance
theorem BndP.near {pc : List PtT} (h : BndP pc) : ∀ p ∈ pc, NearT p := fun p hp => by
  obtain ⟨j, hj, rfl⟩ := List.getElem_of_mem hp
  have := h.2 j hj
  rwa [List.getD_eq_getElem?_getD, List.getElem?_eq_getElem hj] at this
theorem Bnd.pcsV {v : Value} {pvs : List Value} {ps : List (List PtT)} (h : Bnd ps) (hv : PcsW v pvs ps) : PcsV v pvs ps :=
  ⟨hv.V, hv.lenv, by have := h.1; omega, hv.pV, fun i hi => by have := (h.2 i hi).1; omega, fun i hi => (h.2 i hi).near⟩
theorem maxLen_le : maxLen = 9223372036854775807 := by decide
theorem decide_congr {p q : Prop} [Decidable p] [Decidable q] (h : p ↔ q) : decide p = decide q := by
  by_cases hp : p
  · rw [decide_eq_true hp, decide_eq_true (h.1 hp)]
  · rw [decide_eq_false hp, decide_eq_false (fun hq => hp (h.2 hq))]

end Go.Proofs.Ytaijclimdfchfaa
