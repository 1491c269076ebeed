import Derived.Test.YtllhohbenniaaaaGreatRows
import Derived.Test.YtllhohbenniaaaaGreatM1
import Derived.Test.YtllhohbenniaaaaGreatM2
import Derived.Test.YtllhohbenniaaaaGreatM3
import Derived.Test.YtllhohbenniaaaaGreatM4
import Derived.Test.YtllhohbenniaaaaGreatM5
import Derived.Test.YtllhohbenniaaaaGreatM6
import Derived.Test.YtllhohbenniaaaaGreatMOLCvTells6
/- The image of any pieces in any view is as the document has it, or its error: the law answers true whatever the input. Conditions: none. -/
namespace Go.Proofs.YtllhohbenniaaaaGreat
open Go.Proofs Go.RowKit Go.ChangeShapes Go.WideShapes Go.ChangeAt
theorem coverTells_own : ownKnob Tryz.prog.godebug = none := by kernel_rfl
set_option maxRecDepth 100000 in
theorem coverTells_lifted (os : Os) (started : os.Started) (H : Type) (enc : TypeId × Value → H) :
    ReturnsInHanded {} Tryz.checked os 3 .any (Rows.coverTellsSpec.pre6 enc Tryz.prog Tryz.f3 Rows.coverTellsRow.domain false) (Rows.coverTellsSpec.post enc Tryz.prog Tryz.f3 false true false false) := by
  refine returnsInHanded_of_change (C := Tryz.checked) coverTells_own started (by kernel_rfl) Tryz.func3
    (ChangeSpec.witness6 (enc := enc) (C := Tryz.checked) false ⟨#[], #[.slice none 0 0, .agg #[.int .i64 0, .int .i64 0, .int .i64 0, .int .i64 0]], []⟩ 8 (by kernel_rfl) (by kernel_rfl) (by kernel_rfl) (by kernel_rfl)) ?_
  intro W base args ds gs before hval0 hW hcnd _
  have hval : ∀ (j : Nat) t v, Tryz.f3.params[j]? = some t → args[j]? = some v → Value.okWide Tryz.prog W .any base t v := hval0
  have hW1 := hW
  obtain ⟨p, q, hA0, hV, rfl, hfz, hnd⟩ := hW
  have hA : DataW.TrodAll enc Tryz.prog W 0 (fun _ => true) true Tryz.f3.params.toList args.toList ds p := hA0
  rw [Tryz.params3] at hA hval
  obtain ⟨v0, vs0, d0, ds0, p0, q0, hargs, rfl, rfl, h0, r0⟩ := trodAll_cons hA
  obtain ⟨v1, vs1, d1, ds1, p1, q1, rfl, rfl, rfl, h1, r1⟩ := trodAll_cons r0
  obtain ⟨rfl, rfl, rfl⟩ := trodAll_nil r1
  obtain rfl : args = #[v0, v1] := by cases args; simp_all
  obtain ⟨rfl, rfl⟩ := trodVars_none hV
  obtain ⟨n0, pvs0, q0, hV0, hn0, hl0, hrow0, hI0⟩ := open_rows Tryz.underlying22 Tryz.underlying45 (by kernel_rfl) Tryz.underlying56 (by kernel_rfl) (by kernel_rfl) (by decide) (by kernel_rfl) Tryz.underlying3 (hval 0 22 v0 rfl rfl) h0
  obtain ⟨ps0, hpw0, hpa0, hwf0⟩ := pieces_of hV0 hn0 hl0 hrow0 hI0
  obtain ⟨cs1, rfl, hc1, hI1⟩ := open_aggI Tryz.underlying24 (by kernel_rfl) (by kernel_rfl) (by kernel_rfl) Tryz.underlying3 (hval 1 24 v1 rfl rfl) h1
  obtain ⟨x1_0, x1_1, x1_2, x1_3, rfl, w1_0, w1_1, w1_2, w1_3⟩ := ints4_of cs1 hc1 hI1
  refine (a_CoverTells W v0 pvs0 ps0 x1_0 x1_1 x1_2 x1_3 hpw0 hpa0).mono fun e W' ⟨he, hg⟩ => ?_
  subst he
  exact ⟨_, rfl, post_below (pv := []) hW1 hg (fun _ _ _ => (trodAll_cons_mk (shut_bool Tryz.underlying4 _) trodAll_mk0))
    (fun sp hsp => trodAll_keep (by kernel_rfl) hg sp _ _ _ _ (by kernel_rfl) hA (fun x hx => hW1.lt x (List.mem_append_left _ hx)) (fun x hx => hsp x (List.mem_append_left _ hx))) (fun _ _ => rfl) rfl
    (ok_one (by kernel_rfl) rfl (okWide_bool_mk Tryz.underlying4 _))⟩
theorem coverTells_over : Rows.coverTellsRow.holds Tryz.pinned (OpenSpec.ofChange Rows.coverTellsSpec) :=
  OpenClaim.holds_of_wide 3 Tryz.f3 rfl rfl rfl rfl rfl rfl rfl ⟨rfl, rfl, rfl, rfl, rfl⟩ rfl rfl rfl rfl rfl (by kernel_rfl) Tryz.func3 (by kernel_rfl)
    (of_decide_eq_true (by kernel_rfl)) (by unfold Func.isWrapper; first | (rw [if_pos (by decide +kernel)]; kernel_rfl) | (rw [if_neg (by decide +kernel)]; exact ⟨rfl, rfl⟩))
    (fun os started H enc _ => coverTells_lifted os started H enc)
theorem coverTells_proved : Rows.CoverTellsSaid := coverTells_over
#print axioms coverTells_proved
end Go.Proofs.YtllhohbenniaaaaGreat
