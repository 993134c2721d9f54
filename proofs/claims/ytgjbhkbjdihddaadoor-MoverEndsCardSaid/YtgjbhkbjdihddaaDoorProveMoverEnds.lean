/-
  'MoverEnds' answers true of every input, and leaves its arguments as they were; the listed variable of errors holds what the program's text lays. No condition beyond those of the row itself.
-/
import Derived.Test.YtgjbhkbjdihddaaDoorOpen21
import Derived.Test.YtgjbhkbjdihddaaDoorLaw21e
import Derived.Test.YtgjbhkbjdihddaaDoorLaid
import Derived.Test.YtgjbhkbjdihddaaDoorCards
import Derived.Test.YtgjbhkbjdihddaaDoorTie
import Derived.SevenTiedAt
namespace Go.Proofs.YtgjbhkbjdihddaaDoor
open Go.ChangeShapes Go.WideShapes Go.ChangeAt Go.RowKit Go.Joins
open Go.ChangeMaps (open_string shut_string)
set_option linter.unusedSimpArgs false
set_option linter.unusedVariables false

set_option maxRecDepth 100000 in
theorem moverEnds_lifted (os : Os) (started : os.Started) (H : Type) (enc : TypeId × Value → H) :
    ReturnsInHanded {} Tryd.checked os 3 .any (fun w args => (Rows.moverEndsSpec.pre enc Tryd.prog Tryd.f3 [] false w args ∧ laidMetH Tryd.prog laidL w) ∧ sizedMet enc Tryd.prog Tryd.f3 (OpenSpec.ofChange Rows.moverEndsSpec) false w args)
      (Rows.moverEndsSpec.post enc Tryd.prog Tryd.f3 false true false false) := by
  refine returnsInHanded_of_change_and (C := Tryd.checked) (X := fun w _ => laidMetH Tryd.prog laidL w) (fun _ _ _ hh h => h.of_heap hh) Tryd.own started (by kernel_rfl) Tryd.func3
    (ChangeSpec.witness_at (enc := enc) (C := Tryd.checked) (os := os) (X := fun w _ => laidMetH Tryd.prog laidL w) false (laidWorld os) #[.int .u8 0, .int .u8 0, .int .u8 0, .string ⟨#[]⟩] 8 rfl (by kernel_rfl) (by kernel_rfl) (by kernel_rfl) (by kernel_rfl) (by kernel_rfl) (laidWorld_met os _)) ?_
  intro W base args ds gs before hval0 hW _ _ hL _
  have hval : ∀ (j : Nat) t v, Tryd.f3.params[j]? = some t → args[j]? = some v → Value.okWide Tryd.prog W .any base t v := hval0
  have hW' := hW
  obtain ⟨p, q, hA0, hV, rfl, hfz, hnd⟩ := hW
  have hA : DataW.TrodAll enc Tryd.prog W 0 (fun _ => true) true Tryd.f3.params.toList args.toList ds p := hA0
  clear hA0 hval0
  rw [Tryd.params3] at hA hval
  obtain ⟨v0, vs0, d0, ds0, p0, q0, hargs, rfl, rfl, h0, r0⟩ := trodAll_cons hA
  obtain ⟨v1, vs1, d1, ds1, p1, q1, rfl, rfl, rfl, h1, r1⟩ := trodAll_cons r0
  obtain ⟨v2, vs2, d2, ds2, p2, q2, rfl, rfl, rfl, h2, r2⟩ := trodAll_cons r1
  obtain ⟨v3, vs3, d3, ds3, p3, q3, rfl, rfl, rfl, h3, r3⟩ := trodAll_cons r2
  obtain ⟨rfl, rfl, rfl⟩ := trodAll_nil r3
  obtain rfl : args = #[v0, v1, v2, v3] := by cases args; simp_all
  obtain ⟨n0, g0, k0⟩ := in_u8 (hval 0 5 v0 rfl rfl) h0
  obtain ⟨n1, g1, k1⟩ := in_u8 (hval 1 5 v1 rfl rfl) h1
  obtain ⟨n2, g2, k2⟩ := in_u8 (hval 2 5 v2 rfl rfl) h2
  obtain ⟨l3, _, k3⟩ := in_text (hval 3 9 v3 rfl rfl) h3
  refine law_calls Tryd.func3 (by kernel_rfl) rfl (moverEnds_fn n0 n1 n2 l3 g0 g1 g2) (glob_of_laid hL) (.cons k0 (.cons k1 (.cons k2 (.cons k3 .nil)))) fun W' hg => ?_
  exact ⟨_, rfl, law_post hW' hg Tryd.underlying4 (by kernel_rfl) rfl (fun gs' _ h => by subst h; rfl) (by rw [Tryd.params3]; intro t ht; simp only [List.mem_cons, List.not_mem_nil, or_false] at ht; rcases ht with rfl | rfl | rfl | rfl <;> exact ⟨by kernel_rfl, of_decide_eq_true (by kernel_rfl)⟩)⟩

theorem moverEnds_row_holds : Rows.MoverEndsSaid :=
  OpenClaim.holds_of_wide 3 Tryd.f3 rfl rfl rfl rfl rfl rfl rfl ⟨rfl, rfl, rfl, rfl, rfl⟩ rfl rfl rfl rfl rfl (by kernel_rfl) Tryd.func3 (by kernel_rfl)
    (of_decide_eq_true (by kernel_rfl)) (by unfold Func.isWrapper; first | (rw [if_pos (by decide +kernel)]; kernel_rfl) | (rw [if_neg (by decide +kernel)]; exact ⟨rfl, rfl⟩))
    (fun os started H enc _ => moverEnds_lifted os started H enc)
set_option maxRecDepth 100000 in
theorem moverEnds_holds : Rows.MoverEndsCardSaid :=
  Claim7.holds_tied_plain_at .later [] [.handle] true Rows.moverEndsCard.stood.harness true
    moverEnds_row_holds (fun _ h => by cases h) (by kernel_rfl) (fun _ h => by cases h) moverEnds_row_tie rfl ⟨rfl, rfl⟩ (by kernel_rfl) rfl
    (fun f fn hf hfn => by
      obtain rfl : f = 3 := Option.some.inj ((show Tryd.prog.funcNamed "estuary/estuarylaw21.MoverEnds" = some 3 by kernel_rfl).symm.trans hf) |>.symm
      obtain rfl : fn = Tryd.f3 := (Option.some.inj (Tryd.func3.symm.trans hfn)).symm
      exact ⟨by kernel_rfl, fun j t ht => by
        rw [Tryd.params3] at ht
        have hm := List.mem_of_getElem? ((Array.getElem?_toList).trans ht)
        simp only [List.mem_cons, List.not_mem_nil, or_false] at hm
        rcases hm with rfl | rfl | rfl | rfl
        all_goals (show Tryd.prog.wantsStandIn _ = false; kernel_rfl)⟩)
    (by kernel_rfl)
#print axioms moverEnds_holds
end Go.Proofs.YtgjbhkbjdihddaaDoor
