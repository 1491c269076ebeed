import Derived.Test.YtllhohbenniaaaaRows
import Derived.Test.YtllhohbenniaaaaM1
import Derived.Test.YtllhohbenniaaaaM2
import Derived.Test.YtllhohbenniaaaaM3
import Derived.Test.YtllhohbenniaaaaM4
import Derived.Test.YtllhohbenniaaaaM5
import Derived.Test.YtllhohbenniaaaaMOLCvMore5
/- More pieces cover no pixel less; none at all cover nothing: the law answers true whatever the input. Conditions: none. -/
namespace Go.Proofs.Ytllhohbenniaaaa
open Go.Proofs Go.RowKit Go.ChangeShapes Go.WideShapes Go.ChangeAt
theorem coverMore_own : ownKnob Try.prog.godebug = none := by kernel_rfl
set_option maxRecDepth 100000 in
theorem coverMore_lifted (os : Os) (started : os.Started) (H : Type) (enc : TypeId × Value → H) :
    ReturnsInHanded {} Try.checked os 5 .any (Rows.coverMoreSpec.pre6 enc Try.prog Try.f5 Rows.coverMoreRow.domain false) (Rows.coverMoreSpec.post enc Try.prog Try.f5 false true false false) := by
  refine returnsInHanded_of_change (C := Try.checked) coverMore_own started (by kernel_rfl) Try.func5
    (ChangeSpec.witness6 (enc := enc) (C := Try.checked) false ⟨#[], #[.slice none 0 0, .slice none 0 0, .int .i16 0, .int .i16 0, .int .u8 0, .int .u8 0], []⟩ 8 (by kernel_rfl) (by kernel_rfl) (by kernel_rfl) (by kernel_rfl)) ?_
  intro W base args ds gs before hval0 hW hcnd _
  have hval : ∀ (j : Nat) t v, Try.f5.params[j]? = some t → args[j]? = some v → Value.okWide Try.prog W .any base t v := hval0
  have hW1 := hW
  obtain ⟨p, q, hA0, hV, rfl, hfz, hnd⟩ := hW
  have hA : DataW.TrodAll enc Try.prog W 0 (fun _ => true) true Try.f5.params.toList args.toList ds p := hA0
  rw [Try.params5] at hA hval
  obtain ⟨v0, vs0, d0, ds0, p0, q0, hargs, rfl, rfl, h0, r0⟩ := trodAll_cons hA
  obtain ⟨v1, vs1, d1, ds1, p1, q1, rfl, rfl, rfl, h1, r1⟩ := trodAll_cons r0
  obtain ⟨v2, vs2, d2, ds2, p2, q2, rfl, rfl, rfl, h2, r2⟩ := trodAll_cons r1
  obtain ⟨v3, vs3, d3, ds3, p3, q3, rfl, rfl, rfl, h3, r3⟩ := trodAll_cons r2
  obtain ⟨v4, vs4, d4, ds4, p4, q4, rfl, rfl, rfl, h4, r4⟩ := trodAll_cons r3
  obtain ⟨v5, vs5, d5, ds5, p5, q5, rfl, rfl, rfl, h5, r5⟩ := trodAll_cons r4
  obtain ⟨rfl, rfl, rfl⟩ := trodAll_nil r5
  obtain rfl : args = #[v0, v1, v2, v3, v4, v5] := by cases args; simp_all
  obtain ⟨rfl, rfl⟩ := trodVars_none hV
  obtain ⟨n0, xs0, hV0, hn0, hrow0, hI0⟩ := open_rowI Try.underlying45 Try.underlying59 (by kernel_rfl) (by kernel_rfl) (by decide) (by kernel_rfl) Try.underlying3 (hval 0 45 v0 rfl rfl) h0
  obtain ⟨pc0, hl0, rfl, hw0⟩ := pts_of n0 xs0 hrow0.len hI0
  subst hl0
  obtain ⟨n1, xs1, hV1, hn1, hrow1, hI1⟩ := open_rowI Try.underlying45 Try.underlying59 (by kernel_rfl) (by kernel_rfl) (by decide) (by kernel_rfl) Try.underlying3 (hval 1 45 v1 rfl rfl) h1
  obtain ⟨pc1, hl1, rfl, hw1⟩ := pts_of n1 xs1 hrow1.len hI1
  subst hl1
  obtain ⟨a2, rfl, rfl, rfl, w2⟩ := open_int Try.underlying23 (hval 2 23 v2 rfl rfl) h2
  obtain ⟨a3, rfl, rfl, rfl, w3⟩ := open_int Try.underlying23 (hval 3 23 v3 rfl rfl) h3
  obtain ⟨a4, rfl, rfl, rfl, w4⟩ := open_int Try.underlying5 (hval 4 5 v4 rfl rfl) h4
  obtain ⟨a5, rfl, rfl, rfl, w5⟩ := open_int Try.underlying5 (hval 5 5 v5 rfl rfl) h5
  refine (a_CoverMore W v0 v1 pc0 pc1 a2 a3 a4 a5 hV0 hV1 hrow0 hrow1 (wf_i16 w2) (wf_i16 w3) (wf_u8 w4) (wf_u8 w5)).mono fun e W' ⟨he, hg⟩ => ?_
  subst he
  exact ⟨_, rfl, post_below (pv := []) hW1 hg (fun _ _ _ => (trodAll_cons_mk (shut_bool Try.underlying4 _) trodAll_mk0))
    (fun sp hsp => trodAll_keep (by kernel_rfl) hg sp _ _ _ _ (by kernel_rfl) hA (fun x hx => hW1.lt x (List.mem_append_left _ hx)) (fun x hx => hsp x (List.mem_append_left _ hx))) (fun _ _ => rfl) rfl
    (ok_one (by kernel_rfl) rfl (okWide_bool_mk Try.underlying4 _))⟩
theorem coverMore_over : Rows.coverMoreRow.holds Try.pinned (OpenSpec.ofChange Rows.coverMoreSpec) :=
  OpenClaim.holds_of_wide 5 Try.f5 rfl rfl rfl rfl rfl rfl rfl ⟨rfl, rfl, rfl, rfl, rfl⟩ rfl rfl rfl rfl rfl (by kernel_rfl) Try.func5 (by kernel_rfl)
    (of_decide_eq_true (by kernel_rfl)) (by unfold Func.isWrapper; first | (rw [if_pos (by decide +kernel)]; kernel_rfl) | (rw [if_neg (by decide +kernel)]; exact ⟨rfl, rfl⟩))
    (fun os started H enc _ => coverMore_lifted os started H enc)
theorem coverMore_proved : Rows.CoverMoreSaid := coverMore_over
#print axioms coverMore_proved
end Go.Proofs.Ytllhohbenniaaaa
