/-
  'ImageBack' answers true of every input, and leaves its arguments as they were; the listed variable of errors holds what the program's text lays. No condition beyond those of the row itself.
-/
import Derived.Test.YtnblecdpkbempaaGreatDoorOpen16
import Derived.Test.YtnblecdpkbempaaGreatDoorLaw16
import Derived.Test.YtnblecdpkbempaaGreatDoorLaid
import Derived.Test.YtnblecdpkbempaaGreatDoorCards
import Derived.Test.YtnblecdpkbempaaGreatDoorTie
import Derived.SevenTiedAt
namespace Go.Proofs.YtnblecdpkbempaaGreatDoor
open Go.ChangeShapes Go.WideShapes Go.ChangeAt Go.RowKit Go.Joins
open Go.ChangeMaps (open_string shut_string)
set_option linter.unusedSimpArgs false
set_option linter.unusedVariables false

set_option maxRecDepth 100000 in
theorem imageBack_lifted (os : Os) (started : os.Started) (H : Type) (enc : TypeId × Value → H) :
    ReturnsInHanded {} Tryz.checked os 3 .any (fun w args => (Rows.imageBackSpec.pre enc Tryz.prog Tryz.f3 [] false w args ∧ laidMetH Tryz.prog laidL w) ∧ sizedMet enc Tryz.prog Tryz.f3 (OpenSpec.ofChange Rows.imageBackSpec) false w args)
      (Rows.imageBackSpec.post enc Tryz.prog Tryz.f3 false true false false) := by
  refine returnsInHanded_of_change_and (C := Tryz.checked) (X := fun w _ => laidMetH Tryz.prog laidL w) (fun _ _ _ hh h => h.of_heap hh) Tryz.own started (by kernel_rfl) Tryz.func3
    (ChangeSpec.witness_at (enc := enc) (C := Tryz.checked) (os := os) (X := fun w _ => laidMetH Tryz.prog laidL w) false (laidWorld os) #[.agg #[.int .i64 0, .int .i64 0, .string ⟨#[]⟩, .string ⟨#[]⟩, .bool false, .slice none 0 0, .slice none 0 0, .slice none 0 0], .agg #[.int .i64 0, .int .i64 0, .string ⟨#[]⟩, .string ⟨#[]⟩, .bool false, .slice none 0 0, .slice none 0 0, .slice none 0 0]] 8 rfl (by kernel_rfl) (by kernel_rfl) (by kernel_rfl) (by kernel_rfl) (by kernel_rfl) (laidWorld_met os _)) ?_
  intro W base args ds gs before hval0 hW _ _ hL _
  have hval : ∀ (j : Nat) t v, Tryz.f3.params[j]? = some t → args[j]? = some v → Value.okWide Tryz.prog W .any base t v := hval0
  have hW' := hW
  obtain ⟨p, q, hA0, hV, rfl, hfz, hnd⟩ := hW
  have hA : DataW.TrodAll enc Tryz.prog W 0 (fun _ => true) true Tryz.f3.params.toList args.toList ds p := hA0
  clear hA0 hval0
  rw [Tryz.params3] at hA hval
  obtain ⟨v0, vs0, d0, ds0, p0, q0, hargs, rfl, rfl, h0, r0⟩ := trodAll_cons hA
  obtain ⟨v1, vs1, d1, ds1, p1, q1, rfl, rfl, rfl, h1, r1⟩ := trodAll_cons r0
  obtain ⟨rfl, rfl, rfl⟩ := trodAll_nil r1
  obtain rfl : args = #[v0, v1] := by cases args; simp_all
  obtain ⟨s0, _, k0⟩ := in_shard (hval 0 28 v0 rfl rfl) h0
  obtain ⟨s1, _, k1⟩ := in_shard (hval 1 28 v1 rfl rfl) h1
  refine law_calls Tryz.func3 (by kernel_rfl) rfl (imageBack_fn s0 s1) (glob_of_laid hL) (.cons k0 (.cons k1 .nil)) fun W' hg => ?_
  exact ⟨_, rfl, law_post hW' hg Tryz.underlying4 (by kernel_rfl) rfl (fun gs' _ h => by subst h; rfl) (by rw [Tryz.params3]; intro t ht; simp only [List.mem_cons, List.not_mem_nil, or_false] at ht; rcases ht with rfl | rfl <;> exact ⟨by kernel_rfl, of_decide_eq_true (by kernel_rfl)⟩)⟩

theorem imageBack_row_holds : Rows.ImageBackSaid :=
  OpenClaim.holds_of_wide 3 Tryz.f3 rfl rfl rfl rfl rfl rfl rfl ⟨rfl, rfl, rfl, rfl, rfl⟩ rfl rfl rfl rfl rfl (by kernel_rfl) Tryz.func3 (by kernel_rfl)
    (of_decide_eq_true (by kernel_rfl)) (by unfold Func.isWrapper; first | (rw [if_pos (by decide +kernel)]; kernel_rfl) | (rw [if_neg (by decide +kernel)]; exact ⟨rfl, rfl⟩))
    (fun os started H enc _ => imageBack_lifted os started H enc)
set_option maxRecDepth 100000 in
theorem imageBack_holds : Rows.ImageBackCardSaid :=
  Claim7.holds_tied_plain_at .later [] [.handle] true Rows.imageBackCard.stood.harness true
    imageBack_row_holds (fun _ h => by cases h) (by kernel_rfl) (fun _ h => by cases h) imageBack_row_tie rfl ⟨rfl, rfl⟩ (by kernel_rfl) rfl
    (fun f fn hf hfn => by
      obtain rfl : f = 3 := Option.some.inj ((show Tryz.prog.funcNamed "estuary/estuarylaw16.ImageBack" = some 3 by kernel_rfl).symm.trans hf) |>.symm
      obtain rfl : fn = Tryz.f3 := (Option.some.inj (Tryz.func3.symm.trans hfn)).symm
      exact ⟨by kernel_rfl, fun j t ht => by
        rw [Tryz.params3] at ht
        have hm := List.mem_of_getElem? ((Array.getElem?_toList).trans ht)
        simp only [List.mem_cons, List.not_mem_nil, or_false] at hm
        rcases hm with rfl | rfl
        all_goals (show Tryz.prog.wantsStandIn _ = false; kernel_rfl)⟩)
    (by kernel_rfl)
#print axioms imageBack_holds
end Go.Proofs.YtnblecdpkbempaaGreatDoor
