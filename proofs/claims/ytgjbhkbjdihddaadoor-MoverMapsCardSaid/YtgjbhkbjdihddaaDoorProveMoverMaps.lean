/-
  'MoverMaps' answers true of every input, and leaves its arguments as they were; the listed variable of errors holds what the program's text lays. No condition beyond those of the row itself.
-/
import Derived.Test.YtgjbhkbjdihddaaDoorOpen21
import Derived.Test.YtgjbhkbjdihddaaDoorLaw21m
import Derived.Test.YtgjbhkbjdihddaaDoorLaid
import Derived.Test.YtgjbhkbjdihddaaDoorCards
import Derived.Test.YtgjbhkbjdihddaaDoorTie
import Derived.SevenTiedAt
namespace Go.Proofs.YtgjbhkbjdihddaaDoor
open Go.ChangeShapes Go.WideShapes Go.ChangeAt Go.RowKit Go.Joins
open Go.ChangeMaps (open_string shut_string)
set_option linter.unusedSimpArgs false
set_option linter.unusedVariables false

set_option maxRecDepth 100000 in
theorem moverMaps_lifted (os : Os) (started : os.Started) (H : Type) (enc : TypeId × Value → H) :
    ReturnsInHanded {} Tryd.checked os 5 .any (fun w args => (Rows.moverMapsSpec.pre enc Tryd.prog Tryd.f5 [] false w args ∧ laidMetH Tryd.prog laidL w) ∧ sizedMet enc Tryd.prog Tryd.f5 (OpenSpec.ofChange Rows.moverMapsSpec) false w args)
      (Rows.moverMapsSpec.post enc Tryd.prog Tryd.f5 false true false false) := by
  refine returnsInHanded_of_change_and (C := Tryd.checked) (X := fun w _ => laidMetH Tryd.prog laidL w) (fun _ _ _ hh h => h.of_heap hh) Tryd.own started (by kernel_rfl) Tryd.func5
    (ChangeSpec.witness_at (enc := enc) (C := Tryd.checked) (os := os) (X := fun w _ => laidMetH Tryd.prog laidL w) false (laidWorld os) #[.int .u8 0, .slice none 0 0] 8 rfl (by kernel_rfl) (by kernel_rfl) (by kernel_rfl) (by kernel_rfl) (by kernel_rfl) (laidWorld_met os _)) ?_
  intro W base args ds gs before hval0 hW _ _ hL _
  have hval : ∀ (j : Nat) t v, Tryd.f5.params[j]? = some t → args[j]? = some v → Value.okWide Tryd.prog W .any base t v := hval0
  have hW' := hW
  obtain ⟨p, q, hA0, hV, rfl, hfz, hnd⟩ := hW
  have hA : DataW.TrodAll enc Tryd.prog W 0 (fun _ => true) true Tryd.f5.params.toList args.toList ds p := hA0
  clear hA0 hval0
  rw [Tryd.params5] at hA hval
  obtain ⟨v0, vs0, d0, ds0, p0, q0, hargs, rfl, rfl, h0, r0⟩ := trodAll_cons hA
  obtain ⟨v1, vs1, d1, ds1, p1, q1, rfl, rfl, rfl, h1, r1⟩ := trodAll_cons r0
  obtain ⟨rfl, rfl, rfl⟩ := trodAll_nil r1
  obtain rfl : args = #[v0, v1] := by cases args; simp_all
  obtain ⟨n0, g0, k0⟩ := in_u8 (hval 0 5 v0 rfl rfl) h0
  obtain ⟨l1, _, k1⟩ := in_u8s (hval 1 64 v1 rfl rfl) h1
  refine law_calls Tryd.func5 (by kernel_rfl) rfl (moverMaps_fn n0 l1 g0) (glob_of_laid hL) (.cons k0 (.cons k1 .nil)) fun W' hg => ?_
  exact ⟨_, rfl, law_post hW' hg Tryd.underlying4 (by kernel_rfl) rfl (fun gs' _ h => by subst h; rfl) (by rw [Tryd.params5]; intro t ht; simp only [List.mem_cons, List.not_mem_nil, or_false] at ht; rcases ht with rfl | rfl <;> exact ⟨by kernel_rfl, of_decide_eq_true (by kernel_rfl)⟩)⟩

theorem moverMaps_row_holds : Rows.MoverMapsSaid :=
  OpenClaim.holds_of_wide 5 Tryd.f5 rfl rfl rfl rfl rfl rfl rfl ⟨rfl, rfl, rfl, rfl, rfl⟩ rfl rfl rfl rfl rfl (by kernel_rfl) Tryd.func5 (by kernel_rfl)
    (of_decide_eq_true (by kernel_rfl)) (by unfold Func.isWrapper; first | (rw [if_pos (by decide +kernel)]; kernel_rfl) | (rw [if_neg (by decide +kernel)]; exact ⟨rfl, rfl⟩))
    (fun os started H enc _ => moverMaps_lifted os started H enc)
set_option maxRecDepth 100000 in
theorem moverMaps_holds : Rows.MoverMapsCardSaid :=
  Claim7.holds_tied_plain_at .later [] [.handle] true Rows.moverMapsCard.stood.harness true
    moverMaps_row_holds (fun _ h => by cases h) (by kernel_rfl) (fun _ h => by cases h) moverMaps_row_tie rfl ⟨rfl, rfl⟩ (by kernel_rfl) rfl
    (fun f fn hf hfn => by
      obtain rfl : f = 5 := Option.some.inj ((show Tryd.prog.funcNamed "estuary/estuarylaw21.MoverMaps" = some 5 by kernel_rfl).symm.trans hf) |>.symm
      obtain rfl : fn = Tryd.f5 := (Option.some.inj (Tryd.func5.symm.trans hfn)).symm
      exact ⟨by kernel_rfl, fun j t ht => by
        rw [Tryd.params5] at ht
        have hm := List.mem_of_getElem? ((Array.getElem?_toList).trans ht)
        simp only [List.mem_cons, List.not_mem_nil, or_false] at hm
        rcases hm with rfl | rfl
        all_goals (show Tryd.prog.wantsStandIn _ = false; kernel_rfl)⟩)
    (by kernel_rfl)
#print axioms moverMaps_holds
end Go.Proofs.YtgjbhkbjdihddaaDoor
