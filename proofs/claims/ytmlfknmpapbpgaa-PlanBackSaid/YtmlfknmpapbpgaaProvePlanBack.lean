/-
  'PlanBack' answers true of every input, and leaves its arguments as they were. No condition beyond those of the row itself.
-/
import Derived.Test.YtmlfknmpapbpgaaOpen20
import Derived.Test.YtmlfknmpapbpgaaLaw20b
namespace Go.Proofs.Ytmlfknmpapbpgaa
open Go.ChangeShapes Go.WideShapes Go.ChangeAt Go.RowKit Go.Joins
open Go.ChangeMaps (open_string shut_string)
set_option linter.unusedSimpArgs false
set_option linter.unusedVariables false

set_option maxRecDepth 100000 in
theorem planBack_lifted (os : Os) (started : os.Started) (H : Type) (enc : TypeId × Value → H) :
    ReturnsInHanded {} Try.checked os 4 .any (Rows.planBackSpec.pre6 enc Try.prog Try.f4 Rows.planBackRow.domain false) (Rows.planBackSpec.post enc Try.prog Try.f4 false true false false) := by
  refine returnsInHanded_of_change (C := Try.checked) Try.own started (by kernel_rfl) Try.func4
    (ChangeSpec.witness6 (enc := enc) (C := Try.checked) false ⟨#[], #[.string ⟨#[]⟩, .int .u8 0, .int .u8 0], []⟩ 8 (by kernel_rfl) (by kernel_rfl) (by kernel_rfl) (by kernel_rfl)) ?_
  intro W base args ds gs before hval0 hW _ _
  have hval : ∀ (j : Nat) t v, Try.f4.params[j]? = some t → args[j]? = some v → Value.okWide Try.prog W .any base t v := hval0
  have hW' := hW
  obtain ⟨p, q, hA0, hV, rfl, hfz, hnd⟩ := hW
  have hA : DataW.TrodAll enc Try.prog W 0 (fun _ => true) true Try.f4.params.toList args.toList ds p := hA0
  clear hA0 hval0
  rw [Try.params4] at hA hval
  obtain ⟨v0, vs0, d0, ds0, p0, q0, hargs, rfl, rfl, h0, r0⟩ := trodAll_cons hA
  obtain ⟨v1, vs1, d1, ds1, p1, q1, rfl, rfl, rfl, h1, r1⟩ := trodAll_cons r0
  obtain ⟨v2, vs2, d2, ds2, p2, q2, rfl, rfl, rfl, h2, r2⟩ := trodAll_cons r1
  obtain ⟨rfl, rfl, rfl⟩ := trodAll_nil r2
  obtain rfl : args = #[v0, v1, v2] := by cases args; simp_all
  obtain ⟨l0, _, k0⟩ := in_text (hval 0 9 v0 rfl rfl) h0
  obtain ⟨n1, g1, k1⟩ := in_u8 (hval 1 5 v1 rfl rfl) h1
  obtain ⟨n2, g2, k2⟩ := in_u8 (hval 2 5 v2 rfl rfl) h2
  refine law_calls Try.func4 (by kernel_rfl) rfl (planBack_fn l0 n1 n2 g1 g2) ⟨(fun g cs h => by cases h), (fun g a h => by cases h)⟩ (.cons k0 (.cons k1 (.cons k2 .nil))) fun W' hg => ?_
  exact ⟨_, rfl, law_post hW' hg Try.underlying4 (by kernel_rfl) rfl (fun gs' _ h => by subst h; rfl) (by rw [Try.params4]; intro t ht; simp only [List.mem_cons, List.not_mem_nil, or_false] at ht; rcases ht with rfl | rfl | rfl <;> exact ⟨by kernel_rfl, of_decide_eq_true (by kernel_rfl)⟩)⟩

theorem planBack_holds : Rows.PlanBackSaid :=
  OpenClaim.holds_of_wide 4 Try.f4 rfl rfl rfl rfl rfl rfl rfl ⟨rfl, rfl, rfl, rfl, rfl⟩ rfl rfl rfl rfl rfl (by kernel_rfl) Try.func4 (by kernel_rfl)
    (of_decide_eq_true (by kernel_rfl)) (by unfold Func.isWrapper; first | (rw [if_pos (by decide +kernel)]; kernel_rfl) | (rw [if_neg (by decide +kernel)]; exact ⟨rfl, rfl⟩))
    (fun os started H enc _ => planBack_lifted os started H enc)
#print axioms planBack_holds
end Go.Proofs.Ytmlfknmpapbpgaa
