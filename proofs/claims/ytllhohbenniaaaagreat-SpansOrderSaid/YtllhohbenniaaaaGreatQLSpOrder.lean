import Derived.Test.YtllhohbenniaaaaGreatRows
import Derived.Test.YtllhohbenniaaaaGreatM1
import Derived.Test.YtllhohbenniaaaaGreatM2
import Derived.Test.YtllhohbenniaaaaGreatM3
import Derived.Test.YtllhohbenniaaaaGreatM4
import Derived.Test.YtllhohbenniaaaaGreatM5
import Derived.Test.YtllhohbenniaaaaGreatM6
import Derived.Test.YtllhohbenniaaaaGreatMOLSpOrder6
/- Spans are the same, in whatever order the pieces come, also if they come again: the law answers true whatever the input. Conditions: none. -/
namespace Go.Proofs.YtllhohbenniaaaaGreat
open Go.Proofs Go.RowKit Go.ChangeShapes Go.WideShapes Go.ChangeAt
theorem spansOrder_own : ownKnob Tryz.prog.godebug = none := by kernel_rfl
set_option maxRecDepth 100000 in
theorem spansOrder_lifted (os : Os) (started : os.Started) (H : Type) (enc : TypeId × Value → H) :
    ReturnsInHanded {} Tryz.checked os 4 .any (Rows.spansOrderSpec.pre6 enc Tryz.prog Tryz.f4 Rows.spansOrderRow.domain false) (Rows.spansOrderSpec.post enc Tryz.prog Tryz.f4 false true false false) := by
  refine returnsInHanded_of_change (C := Tryz.checked) spansOrder_own started (by kernel_rfl) Tryz.func4
    (ChangeSpec.witness6 (enc := enc) (C := Tryz.checked) false ⟨#[], #[.slice none 0 0, .int .u8 0, .int .i64 0], []⟩ 8 (by kernel_rfl) (by kernel_rfl) (by kernel_rfl) (by kernel_rfl)) ?_
  intro W base args ds gs before hval0 hW hcnd _
  have hval : ∀ (j : Nat) t v, Tryz.f4.params[j]? = some t → args[j]? = some v → Value.okWide Tryz.prog W .any base t v := hval0
  have hW1 := hW
  obtain ⟨p, q, hA0, hV, rfl, hfz, hnd⟩ := hW
  have hA : DataW.TrodAll enc Tryz.prog W 0 (fun _ => true) true Tryz.f4.params.toList args.toList ds p := hA0
  rw [Tryz.params4] at hA hval
  obtain ⟨v0, vs0, d0, ds0, p0, q0, hargs, rfl, rfl, h0, r0⟩ := trodAll_cons hA
  obtain ⟨v1, vs1, d1, ds1, p1, q1, rfl, rfl, rfl, h1, r1⟩ := trodAll_cons r0
  obtain ⟨v2, vs2, d2, ds2, p2, q2, rfl, rfl, rfl, h2, r2⟩ := trodAll_cons r1
  obtain ⟨rfl, rfl, rfl⟩ := trodAll_nil r2
  obtain rfl : args = #[v0, v1, v2] := by cases args; simp_all
  obtain ⟨rfl, rfl⟩ := trodVars_none hV
  obtain ⟨n0, pvs0, q0, hV0, hn0, hl0, hrow0, hI0⟩ := open_rows Tryz.underlying22 Tryz.underlying45 (by kernel_rfl) Tryz.underlying56 (by kernel_rfl) (by kernel_rfl) (by decide) (by kernel_rfl) Tryz.underlying3 (hval 0 22 v0 rfl rfl) h0
  obtain ⟨ps0, hpw0, hpa0, hwf0⟩ := pieces_of hV0 hn0 hl0 hrow0 hI0
  obtain ⟨a1, rfl, rfl, rfl, w1⟩ := open_int Tryz.underlying5 (hval 1 5 v1 rfl rfl) h1
  obtain ⟨a2, rfl, rfl, rfl, w2⟩ := open_int Tryz.underlying3 (hval 2 3 v2 rfl rfl) h2
  refine (a_SpansOrder W v0 pvs0 ps0 a1 a2 hpw0 hpa0 (wf_u8 w1)).mono fun e W' ⟨he, hg⟩ => ?_
  subst he
  exact ⟨_, rfl, post_below (pv := []) hW1 hg (fun _ _ _ => (trodAll_cons_mk (shut_bool Tryz.underlying4 _) trodAll_mk0))
    (fun sp hsp => trodAll_keep (by kernel_rfl) hg sp _ _ _ _ (by kernel_rfl) hA (fun x hx => hW1.lt x (List.mem_append_left _ hx)) (fun x hx => hsp x (List.mem_append_left _ hx))) (fun _ _ => rfl) rfl
    (ok_one (by kernel_rfl) rfl (okWide_bool_mk Tryz.underlying4 _))⟩
theorem spansOrder_over : Rows.spansOrderRow.holds Tryz.pinned (OpenSpec.ofChange Rows.spansOrderSpec) :=
  OpenClaim.holds_of_wide 4 Tryz.f4 rfl rfl rfl rfl rfl rfl rfl ⟨rfl, rfl, rfl, rfl, rfl⟩ rfl rfl rfl rfl rfl (by kernel_rfl) Tryz.func4 (by kernel_rfl)
    (of_decide_eq_true (by kernel_rfl)) (by unfold Func.isWrapper; first | (rw [if_pos (by decide +kernel)]; kernel_rfl) | (rw [if_neg (by decide +kernel)]; exact ⟨rfl, rfl⟩))
    (fun os started H enc _ => spansOrder_lifted os started H enc)
theorem spansOrder_proved : Rows.SpansOrderSaid := spansOrder_over
#print axioms spansOrder_proved
end Go.Proofs.YtllhohbenniaaaaGreat
