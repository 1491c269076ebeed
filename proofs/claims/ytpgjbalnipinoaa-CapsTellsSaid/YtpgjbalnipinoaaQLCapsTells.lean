import Derived.Test.YtpgjbalnipinoaaRows
import Derived.Test.YtpgjbalnipinoaaM1
import Derived.Test.YtpgjbalnipinoaaM2
import Derived.Test.YtpgjbalnipinoaaM3
import Derived.Test.YtpgjbalnipinoaaM4
import Derived.Test.YtpgjbalnipinoaaM5
import Derived.Test.YtpgjbalnipinoaaM6
/- The pieces of any cap, and of any dot, are as the document has them: the law answers true whatever the input. Conditions: none. -/
namespace Go.Proofs.Ytpgjbalnipinoaa
open Go.Proofs Go.RowKit Go.ChangeShapes Go.WideShapes Go.ChangeAt
theorem capsTells_own : ownKnob Try.prog.godebug = none := by kernel_rfl
set_option maxRecDepth 100000 in
theorem capsTells_lifted (os : Os) (started : os.Started) (H : Type) (enc : TypeId × Value → H) :
    ReturnsInHanded {} Try.checked os 9 .any (Rows.capsTellsSpec.pre6 enc Try.prog Try.f9 Rows.capsTellsRow.domain false) (Rows.capsTellsSpec.post enc Try.prog Try.f9 false true false false) := by
  refine returnsInHanded_of_change (C := Try.checked) capsTells_own started (by kernel_rfl) Try.func9
    (ChangeSpec.witness6 (enc := enc) (C := Try.checked) false ⟨#[], #[.int .i64 0, .agg #[.int .i64 0, .int .i64 0], .agg #[.int .i64 0, .int .i64 0], .int .i64 0], []⟩ 8 (by kernel_rfl) (by kernel_rfl) (by kernel_rfl) (by kernel_rfl)) ?_
  intro W base args ds gs before hval0 hW hcnd _
  have hval : ∀ (j : Nat) t v, Try.f9.params[j]? = some t → args[j]? = some v → Value.okWide Try.prog W .any base t v := hval0
  have hW1 := hW
  obtain ⟨p, q, hA0, hV, rfl, hfz, hnd⟩ := hW
  have hA : DataW.TrodAll enc Try.prog W 0 (fun _ => true) true Try.f9.params.toList args.toList ds p := hA0
  rw [Try.params9] at hA hval
  obtain ⟨v0, vs0, d0, ds0, p0, q0, hargs, rfl, rfl, h0, r0⟩ := trodAll_cons hA
  obtain ⟨v1, vs1, d1, ds1, p1, q1, rfl, rfl, rfl, h1, r1⟩ := trodAll_cons r0
  obtain ⟨v2, vs2, d2, ds2, p2, q2, rfl, rfl, rfl, h2, r2⟩ := trodAll_cons r1
  obtain ⟨v3, vs3, d3, ds3, p3, q3, rfl, rfl, rfl, h3, r3⟩ := trodAll_cons r2
  obtain ⟨rfl, rfl, rfl⟩ := trodAll_nil r3
  obtain rfl : args = #[v0, v1, v2, v3] := by cases args; simp_all
  obtain ⟨rfl, rfl⟩ := trodVars_none hV
  obtain ⟨a0, rfl, rfl, rfl, w0⟩ := open_int Try.underlying3 (hval 0 3 v0 rfl rfl) h0
  obtain ⟨cs1, rfl, hc1, hI1⟩ := open_aggI Try.underlying23 (by kernel_rfl) (by kernel_rfl) (by kernel_rfl) Try.underlying3 (hval 1 23 v1 rfl rfl) h1
  obtain ⟨x1_0, x1_1, rfl, w1_0, w1_1⟩ := ints2_of cs1 hc1 hI1
  obtain ⟨cs2, rfl, hc2, hI2⟩ := open_aggI Try.underlying23 (by kernel_rfl) (by kernel_rfl) (by kernel_rfl) Try.underlying3 (hval 2 23 v2 rfl rfl) h2
  obtain ⟨x2_0, x2_1, rfl, w2_0, w2_1⟩ := ints2_of cs2 hc2 hI2
  obtain ⟨a3, rfl, rfl, rfl, w3⟩ := open_int Try.underlying3 (hval 3 3 v3 rfl rfl) h3
  refine (a_CapsTells W a0 ⟨x1_0, x1_1⟩ ⟨x2_0, x2_1⟩ a3).mono fun e W' ⟨he, hg⟩ => ?_
  subst he
  exact ⟨_, rfl, post_below (pv := []) hW1 hg (fun _ _ _ => (trodAll_cons_mk (shut_bool Try.underlying4 _) trodAll_mk0))
    (fun sp hsp => trodAll_keep (by kernel_rfl) hg sp _ _ _ _ (by kernel_rfl) hA (fun x hx => hW1.lt x (List.mem_append_left _ hx)) (fun x hx => hsp x (List.mem_append_left _ hx))) (fun _ _ => rfl) rfl
    (ok_one (by kernel_rfl) rfl (okWide_bool_mk Try.underlying4 _))⟩
theorem capsTells_over : Rows.capsTellsRow.holds Try.pinned (OpenSpec.ofChange Rows.capsTellsSpec) :=
  OpenClaim.holds_of_wide 9 Try.f9 rfl rfl rfl rfl rfl rfl rfl ⟨rfl, rfl, rfl, rfl, rfl⟩ rfl rfl rfl rfl rfl (by kernel_rfl) Try.func9 (by kernel_rfl)
    (of_decide_eq_true (by kernel_rfl)) (by unfold Func.isWrapper; first | (rw [if_pos (by decide +kernel)]; kernel_rfl) | (rw [if_neg (by decide +kernel)]; exact ⟨rfl, rfl⟩))
    (fun os started H enc _ => capsTells_lifted os started H enc)
theorem capsTells_proved : Rows.CapsTellsSaid := capsTells_over
#print axioms capsTells_proved
end Go.Proofs.Ytpgjbalnipinoaa
