import Derived.Test.YtegfonghlpbgdaaRows
import Derived.Test.YtegfonghlpbgdaaE22
import Derived.Test.YtegfonghlpbgdaaKM
/- Whether any view may be, the row of any place, the edges of any pieces, and those that are live, are as the document has them: the law answers true whatever the input. Conditions: none. -/
namespace Go.Proofs.Ytegfonghlpbgdaa
open Go.Proofs Go.RowKit Go.ChangeShapes Go.WideShapes Go.ChangeAt
theorem edgesTells_own : ownKnob Try.prog.godebug = none := by kernel_rfl
set_option maxRecDepth 100000 in
theorem edgesTells_lifted (os : Os) (started : os.Started) (H : Type) (enc : TypeId × Value → H) :
    ReturnsInHanded {} Try.checked os 8 .any (Rows.edgesTellsSpec.pre6 enc Try.prog Try.f8 Rows.edgesTellsRow.domain false) (Rows.edgesTellsSpec.post enc Try.prog Try.f8 false true false false) := by
  refine returnsInHanded_of_change (C := Try.checked) edgesTells_own started (by kernel_rfl) Try.func8
    (ChangeSpec.witness6 (enc := enc) (C := Try.checked) false ⟨#[], #[.slice none 0 0, .agg #[.int .i64 0, .int .i64 0, .int .i64 0, .int .i64 0], .int .i64 0, .int .i64 0], []⟩ 8 (by kernel_rfl) (by kernel_rfl) (by kernel_rfl) (by kernel_rfl)) ?_
  intro W base args ds gs before hval0 hW hcnd _
  have hval : ∀ (j : Nat) t v, Try.f8.params[j]? = some t → args[j]? = some v → Value.okWide Try.prog W .any base t v := hval0
  have hW1 := hW
  obtain ⟨p, q, hA0, hV, rfl, hfz, hnd⟩ := hW
  have hA : DataW.TrodAll enc Try.prog W 0 (fun _ => true) true Try.f8.params.toList args.toList ds p := hA0
  rw [Try.params8] at hA hval
  obtain ⟨v0, vs0, d0, ds0, p0, q0, hargs, rfl, rfl, h0, r0⟩ := trodAll_cons hA
  obtain ⟨v1, vs1, d1, ds1, p1, q1, rfl, rfl, rfl, h1, r1⟩ := trodAll_cons r0
  obtain ⟨v2, vs2, d2, ds2, p2, q2, rfl, rfl, rfl, h2, r2⟩ := trodAll_cons r1
  obtain ⟨v3, vs3, d3, ds3, p3, q3, rfl, rfl, rfl, h3, r3⟩ := trodAll_cons r2
  obtain ⟨rfl, rfl, rfl⟩ := trodAll_nil r3
  obtain rfl : args = #[v0, v1, v2, v3] := by cases args; simp_all
  obtain ⟨rfl, rfl⟩ := trodVars_none hV
  obtain ⟨n0, pvs0, q0, hV0, hn0, hl0, hrow0, hI0⟩ := open_rows Try.underlying38 Try.underlying30 (by kernel_rfl) Try.underlying23 (by kernel_rfl) (by kernel_rfl) (by decide) (by kernel_rfl) Try.underlying3 (hval 0 38 v0 rfl rfl) h0
  obtain ⟨ps0, hpw0, hpa0, hwf0⟩ := pieces_of hV0 hn0 hl0 hrow0 hI0
  obtain ⟨cs1, rfl, hc1, hI1⟩ := open_aggI Try.underlying49 (by kernel_rfl) (by kernel_rfl) (by kernel_rfl) Try.underlying3 (hval 1 49 v1 rfl rfl) h1
  obtain ⟨x1_0, x1_1, x1_2, x1_3, rfl, w1_0, w1_1, w1_2, w1_3⟩ := ints4_of cs1 hc1 hI1
  obtain ⟨a2, rfl, rfl, rfl, w2⟩ := open_int Try.underlying3 (hval 2 3 v2 rfl rfl) h2
  obtain ⟨a3, rfl, rfl, rfl, w3⟩ := open_int Try.underlying3 (hval 3 3 v3 rfl rfl) h3
  refine (a_EdgesTells W v0 pvs0 ps0 x1_0 x1_1 x1_2 x1_3 a2 a3 hpw0 hpa0).mono fun e W' ⟨he, hg⟩ => ?_
  subst he
  exact ⟨_, rfl, post_below (pv := []) hW1 hg (fun _ _ _ => (trodAll_cons_mk (shut_bool Try.underlying4 _) trodAll_mk0))
    (fun sp hsp => trodAll_keep (by kernel_rfl) hg sp _ _ _ _ (by kernel_rfl) hA (fun x hx => hW1.lt x (List.mem_append_left _ hx)) (fun x hx => hsp x (List.mem_append_left _ hx))) (fun _ _ => rfl) rfl
    (ok_one (by kernel_rfl) rfl (okWide_bool_mk Try.underlying4 _))⟩
theorem edgesTells_over : Rows.edgesTellsRow.holds Try.pinned (OpenSpec.ofChange Rows.edgesTellsSpec) :=
  OpenClaim.holds_of_wide 8 Try.f8 rfl rfl rfl rfl rfl rfl rfl ⟨rfl, rfl, rfl, rfl, rfl⟩ rfl rfl rfl rfl rfl (by kernel_rfl) Try.func8 (by kernel_rfl)
    (of_decide_eq_true (by kernel_rfl)) (by unfold Func.isWrapper; first | (rw [if_pos (by decide +kernel)]; kernel_rfl) | (rw [if_neg (by decide +kernel)]; exact ⟨rfl, rfl⟩))
    (fun os started H enc _ => edgesTells_lifted os started H enc)
theorem edgesTells_proved : Rows.EdgesTellsSaid := edgesTells_over
#print axioms edgesTells_proved
end Go.Proofs.Ytegfonghlpbgdaa
