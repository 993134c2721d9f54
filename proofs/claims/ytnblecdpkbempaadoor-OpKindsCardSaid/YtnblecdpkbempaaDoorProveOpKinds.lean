/-
  'OpKinds' answers true of every input, and leaves its arguments as they were; the listed variable of errors holds what the program's text lays. No condition beyond those of the row itself.
-/
import Derived.Test.YtnblecdpkbempaaDoorOpen6
import Derived.Test.YtnblecdpkbempaaDoorLaw6
import Derived.Test.YtnblecdpkbempaaDoorLaid
import Derived.Test.YtnblecdpkbempaaDoorCards
import Derived.Test.YtnblecdpkbempaaDoorTie
import Derived.SevenTiedAt
namespace Go.Proofs.YtnblecdpkbempaaDoor
open Go.ChangeShapes Go.WideShapes Go.ChangeAt Go.RowKit Go.Joins
open Go.ChangeMaps (open_string shut_string)
set_option linter.unusedSimpArgs false
set_option linter.unusedVariables false

set_option maxRecDepth 100000 in
theorem opKinds_lifted (os : Os) (started : os.Started) (H : Type) (enc : TypeId × Value → H) :
    ReturnsInHanded {} Tryd.checked os 3 .any (fun w args => (Rows.opKindsSpec.pre enc Tryd.prog Tryd.f3 [] false w args ∧ laidMetH Tryd.prog laidL w) ∧ sizedMet enc Tryd.prog Tryd.f3 (OpenSpec.ofChange Rows.opKindsSpec) false w args)
      (Rows.opKindsSpec.post enc Tryd.prog Tryd.f3 false true false false) := by
  refine returnsInHanded_of_change_and (C := Tryd.checked) (X := fun w _ => laidMetH Tryd.prog laidL w) (fun _ _ _ hh h => h.of_heap hh) Tryd.own started (by kernel_rfl) Tryd.func3
    (ChangeSpec.witness_at (enc := enc) (C := Tryd.checked) (os := os) (X := fun w _ => laidMetH Tryd.prog laidL w) false (laidWorld os) #[.int .u8 0, .bool false, .bool false, .bool false, .bool false, .bool false] 8 rfl (by kernel_rfl) (by kernel_rfl) (by kernel_rfl) (by kernel_rfl) (by kernel_rfl) (laidWorld_met os _)) ?_
  intro W base args ds gs before hval0 hW _ _ hL _
  have hval : ∀ (j : Nat) t v, Tryd.f3.params[j]? = some t → args[j]? = some v → Value.okWide Tryd.prog W .any base t v := hval0
  have hW' := hW
  obtain ⟨p, q, hA0, hV, rfl, hfz, hnd⟩ := hW
  have hA : DataW.TrodAll enc Tryd.prog W 0 (fun _ => true) true Tryd.f3.params.toList args.toList ds p := hA0
  clear hA0 hval0
  rw [Tryd.params3] at hA hval
  obtain ⟨v0, vs0, d0, ds0, p0, q0, hargs, rfl, rfl, h0, r0⟩ := trodAll_cons hA
  obtain ⟨v1, vs1, d1, ds1, p1, q1, rfl, rfl, rfl, h1, r1⟩ := trodAll_cons r0
  obtain ⟨v2, vs2, d2, ds2, p2, q2, rfl, rfl, rfl, h2, r2⟩ := trodAll_cons r1
  obtain ⟨v3, vs3, d3, ds3, p3, q3, rfl, rfl, rfl, h3, r3⟩ := trodAll_cons r2
  obtain ⟨v4, vs4, d4, ds4, p4, q4, rfl, rfl, rfl, h4, r4⟩ := trodAll_cons r3
  obtain ⟨v5, vs5, d5, ds5, p5, q5, rfl, rfl, rfl, h5, r5⟩ := trodAll_cons r4
  obtain ⟨rfl, rfl, rfl⟩ := trodAll_nil r5
  obtain rfl : args = #[v0, v1, v2, v3, v4, v5] := by cases args; simp_all
  obtain ⟨n0, g0, k0⟩ := in_u8 (hval 0 5 v0 rfl rfl) h0
  obtain ⟨b1, _, k1⟩ := in_bool (hval 1 4 v1 rfl rfl) h1
  obtain ⟨b2, _, k2⟩ := in_bool (hval 2 4 v2 rfl rfl) h2
  obtain ⟨b3, _, k3⟩ := in_bool (hval 3 4 v3 rfl rfl) h3
  obtain ⟨b4, _, k4⟩ := in_bool (hval 4 4 v4 rfl rfl) h4
  obtain ⟨b5, _, k5⟩ := in_bool (hval 5 4 v5 rfl rfl) h5
  refine law_calls Tryd.func3 (by kernel_rfl) rfl (opKinds_fn n0 b1 b2 b3 b4 b5 g0) (glob_of_laid hL) (.cons k0 (.cons k1 (.cons k2 (.cons k3 (.cons k4 (.cons k5 .nil)))))) fun W' hg => ?_
  exact ⟨_, rfl, law_post hW' hg Tryd.underlying4 (by kernel_rfl) rfl (fun gs' _ h => by subst h; rfl) (by rw [Tryd.params3]; intro t ht; simp only [List.mem_cons, List.not_mem_nil, or_false] at ht; rcases ht with rfl | rfl | rfl | rfl | rfl | rfl <;> exact ⟨by kernel_rfl, of_decide_eq_true (by kernel_rfl)⟩)⟩

theorem opKinds_row_holds : Rows.OpKindsSaid :=
  OpenClaim.holds_of_wide 3 Tryd.f3 rfl rfl rfl rfl rfl rfl rfl ⟨rfl, rfl, rfl, rfl, rfl⟩ rfl rfl rfl rfl rfl (by kernel_rfl) Tryd.func3 (by kernel_rfl)
    (of_decide_eq_true (by kernel_rfl)) (by unfold Func.isWrapper; first | (rw [if_pos (by decide +kernel)]; kernel_rfl) | (rw [if_neg (by decide +kernel)]; exact ⟨rfl, rfl⟩))
    (fun os started H enc _ => opKinds_lifted os started H enc)
set_option maxRecDepth 100000 in
theorem opKinds_holds : Rows.OpKindsCardSaid :=
  Claim7.holds_tied_plain_at .later [] [.handle] true Rows.opKindsCard.stood.harness true
    opKinds_row_holds (fun _ h => by cases h) (by kernel_rfl) (fun _ h => by cases h) opKinds_row_tie rfl ⟨rfl, rfl⟩ (by kernel_rfl) rfl
    (fun f fn hf hfn => by
      obtain rfl : f = 3 := Option.some.inj ((show Tryd.prog.funcNamed "estuary/estuarylaw6.OpKinds" = some 3 by kernel_rfl).symm.trans hf) |>.symm
      obtain rfl : fn = Tryd.f3 := (Option.some.inj (Tryd.func3.symm.trans hfn)).symm
      exact ⟨by kernel_rfl, fun j t ht => by
        rw [Tryd.params3] at ht
        have hm := List.mem_of_getElem? ((Array.getElem?_toList).trans ht)
        simp only [List.mem_cons, List.not_mem_nil, or_false] at hm
        rcases hm with rfl | rfl | rfl | rfl | rfl | rfl
        all_goals (show Tryd.prog.wantsStandIn _ = false; kernel_rfl)⟩)
    (by kernel_rfl)
#print axioms opKinds_holds
end Go.Proofs.YtnblecdpkbempaaDoor
