/-
  'ImageEmpty' answers true of every input, and leaves its arguments as they were; the listed variable of errors holds what the program's text lays. No condition beyond those of the row itself.
-/
import Derived.Test.YtnblecdpkbempaaGreatDoorOpen16
import Derived.Test.YtnblecdpkbempaaGreatDoorLaw16
import Derived.Test.YtnblecdpkbempaaGreatDoorLaid
import Derived.Test.YtnblecdpkbempaaGreatDoorCards
import Derived.Test.YtnblecdpkbempaaGreatDoorTie
import Derived.SevenTiedAt
namespace Go.Proofs.YtnblecdpkbempaaGreatDoor
open Go.ChangeShapes Go.WideShapes Go.ChangeAt Go.RowKit Go.Joins
open Go.ChangeMaps (open_string shut_string)
set_option linter.unusedSimpArgs false
set_option linter.unusedVariables false

set_option maxRecDepth 100000 in
theorem imageEmpty_lifted (os : Os) (started : os.Started) (H : Type) (enc : TypeId × Value → H) :
    ReturnsInHanded {} Tryz.checked os 4 .any (fun w args => (Rows.imageEmptySpec.pre enc Tryz.prog Tryz.f4 [] false w args ∧ laidMetH Tryz.prog laidL w) ∧ sizedMet enc Tryz.prog Tryz.f4 (OpenSpec.ofChange Rows.imageEmptySpec) false w args)
      (Rows.imageEmptySpec.post enc Tryz.prog Tryz.f4 false true false false) := by
  refine returnsInHanded_of_change_and (C := Tryz.checked) (X := fun w _ => laidMetH Tryz.prog laidL w) (fun _ _ _ hh h => h.of_heap hh) Tryz.own started (by kernel_rfl) Tryz.func4
    (ChangeSpec.witness_at (enc := enc) (C := Tryz.checked) (os := os) (X := fun w _ => laidMetH Tryz.prog laidL w) false (laidWorld os) #[.int .u32 0, .int .u16 0, .agg #[.string ⟨#[]⟩, .string ⟨#[]⟩], .bool false] 8 rfl (by kernel_rfl) (by kernel_rfl) (by kernel_rfl) (by kernel_rfl) (by kernel_rfl) (laidWorld_met os _)) ?_
  intro W base args ds gs before hval0 hW _ _ hL _
  have hval : ∀ (j : Nat) t v, Tryz.f4.params[j]? = some t → args[j]? = some v → Value.okWide Tryz.prog W .any base t v := hval0
  have hW' := hW
  obtain ⟨p, q, hA0, hV, rfl, hfz, hnd⟩ := hW
  have hA : DataW.TrodAll enc Tryz.prog W 0 (fun _ => true) true Tryz.f4.params.toList args.toList ds p := hA0
  clear hA0 hval0
  rw [Tryz.params4] at hA hval
  obtain ⟨v0, vs0, d0, ds0, p0, q0, hargs, rfl, rfl, h0, r0⟩ := trodAll_cons hA
  obtain ⟨v1, vs1, d1, ds1, p1, q1, rfl, rfl, rfl, h1, r1⟩ := trodAll_cons r0
  obtain ⟨v2, vs2, d2, ds2, p2, q2, rfl, rfl, rfl, h2, r2⟩ := trodAll_cons r1
  obtain ⟨v3, vs3, d3, ds3, p3, q3, rfl, rfl, rfl, h3, r3⟩ := trodAll_cons r2
  obtain ⟨rfl, rfl, rfl⟩ := trodAll_nil r3
  obtain rfl : args = #[v0, v1, v2, v3] := by cases args; simp_all
  obtain ⟨n0, g0, k0⟩ := in_u32 (hval 0 40 v0 rfl rfl) h0
  obtain ⟨n1, g1, k1⟩ := in_u16 (hval 1 41 v1 rfl rfl) h1
  obtain ⟨f2, t2, k2⟩ := in_span (hval 2 23 v2 rfl rfl) h2
  obtain ⟨b3, _, k3⟩ := in_bool (hval 3 4 v3 rfl rfl) h3
  refine law_calls Tryz.func4 (by kernel_rfl) rfl (imageEmpty_fn n0 n1 f2 t2 b3 g0 g1) (glob_of_laid hL) (.cons k0 (.cons k1 (.cons k2 (.cons k3 .nil)))) fun W' hg => ?_
  exact ⟨_, rfl, law_post hW' hg Tryz.underlying4 (by kernel_rfl) rfl (fun gs' _ h => by subst h; rfl) (by rw [Tryz.params4]; intro t ht; simp only [List.mem_cons, List.not_mem_nil, or_false] at ht; rcases ht with rfl | rfl | rfl | rfl <;> exact ⟨by kernel_rfl, of_decide_eq_true (by kernel_rfl)⟩)⟩

theorem imageEmpty_row_holds : Rows.ImageEmptySaid :=
  OpenClaim.holds_of_wide 4 Tryz.f4 rfl rfl rfl rfl rfl rfl rfl ⟨rfl, rfl, rfl, rfl, rfl⟩ rfl rfl rfl rfl rfl (by kernel_rfl) Tryz.func4 (by kernel_rfl)
    (of_decide_eq_true (by kernel_rfl)) (by unfold Func.isWrapper; first | (rw [if_pos (by decide +kernel)]; kernel_rfl) | (rw [if_neg (by decide +kernel)]; exact ⟨rfl, rfl⟩))
    (fun os started H enc _ => imageEmpty_lifted os started H enc)
set_option maxRecDepth 100000 in
theorem imageEmpty_holds : Rows.ImageEmptyCardSaid :=
  Claim7.holds_tied_plain_at .later [] [.handle] true Rows.imageEmptyCard.stood.harness true
    imageEmpty_row_holds (fun _ h => by cases h) (by kernel_rfl) (fun _ h => by cases h) imageEmpty_row_tie rfl ⟨rfl, rfl⟩ (by kernel_rfl) rfl
    (fun f fn hf hfn => by
      obtain rfl : f = 4 := Option.some.inj ((show Tryz.prog.funcNamed "estuary/estuarylaw16.ImageEmpty" = some 4 by kernel_rfl).symm.trans hf) |>.symm
      obtain rfl : fn = Tryz.f4 := (Option.some.inj (Tryz.func4.symm.trans hfn)).symm
      exact ⟨by kernel_rfl, fun j t ht => by
        rw [Tryz.params4] at ht
        have hm := List.mem_of_getElem? ((Array.getElem?_toList).trans ht)
        simp only [List.mem_cons, List.not_mem_nil, or_false] at hm
        rcases hm with rfl | rfl | rfl | rfl
        all_goals (show Tryz.prog.wantsStandIn _ = false; kernel_rfl)⟩)
    (by kernel_rfl)
#print axioms imageEmpty_holds
end Go.Proofs.YtnblecdpkbempaaGreatDoor
