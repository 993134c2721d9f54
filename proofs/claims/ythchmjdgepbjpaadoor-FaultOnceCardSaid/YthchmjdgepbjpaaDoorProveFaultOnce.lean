/-
  'FaultOnce' answers true of every input, and leaves its arguments as they were; the listed variable of errors holds what the program's text lays. No condition beyond those of the row itself.
-/
import Derived.Test.YthchmjdgepbjpaaDoorLaw3o
import Derived.Test.YthchmjdgepbjpaaDoorOpen3o
import Derived.Test.YthchmjdgepbjpaaDoorLaid
import Derived.Test.YthchmjdgepbjpaaDoorCards
import Derived.Test.YthchmjdgepbjpaaDoorTie
import Derived.SevenTiedAt
namespace Go.Proofs.YthchmjdgepbjpaaDoor
open Go.ChangeShapes Go.WideShapes Go.ChangeAt Go.RowKit Go.Joins
open Go.ChangeMaps (open_string shut_string)
set_option linter.unusedSimpArgs false
set_option linter.unusedVariables false

set_option maxRecDepth 100000 in
theorem faultOnce_lifted (os : Os) (started : os.Started) (H : Type) (enc : TypeId × Value → H) :
    ReturnsInHanded {} Tryd.checked os 4 .any (fun w args => (Rows.faultOnceSpec.pre enc Tryd.prog Tryd.f4 [] false w args ∧ laidMetH Tryd.prog laidL w) ∧ sizedMet enc Tryd.prog Tryd.f4 (OpenSpec.ofChange Rows.faultOnceSpec) false w args)
      (Rows.faultOnceSpec.post enc Tryd.prog Tryd.f4 false true false false) := by
  refine returnsInHanded_shaped (C := Tryd.checked) (X := fun w _ => laidMetH Tryd.prog laidL w) (fun _ _ _ hh h => h.of_heap hh) (haveI : Inhabited TabT := ⟨tabAny⟩; Tryd.own) started (by kernel_rfl) Tryd.func4
    (haveI : Inhabited TabT := ⟨tabAny⟩; ChangeSpec.witness_at (enc := enc) (C := Tryd.checked) (os := os) (X := fun w _ => laidMetH Tryd.prog laidL w) false (laidWorld os) #[.int .u8 0, .string ⟨#[]⟩, .string ⟨#[]⟩] 8 rfl (by kernel_rfl) (by kernel_rfl) (by kernel_rfl) (by kernel_rfl) (by kernel_rfl) (laidWorld_met os _)) ?_
  intro W base args ds gs before hsh hval0 hW hL
  obtain ⟨ts, hts1, hts2, hts3⟩ := tab_of_shaped hsh
  letI : Inhabited TabT := ⟨⟨ts, hts1, hts2⟩⟩
  have hval : ∀ (j : Nat) t v, Tryd.f4.params[j]? = some t → args[j]? = some v → Value.okWide Tryd.prog W .any base t v := hval0
  have hW' := hW
  obtain ⟨p, q, hA0, hV, rfl, hfz, hnd⟩ := hW
  have hA : DataW.TrodAll enc Tryd.prog W 0 (fun _ => true) true Tryd.f4.params.toList args.toList ds p := hA0
  clear hA0 hval0
  rw [Tryd.params4] at hA hval
  obtain ⟨v0, vs0, d0, ds0, p0, q0, hargs, rfl, rfl, h0, r0⟩ := trodAll_cons hA
  obtain ⟨v1, vs1, d1, ds1, p1, q1, rfl, rfl, rfl, h1, r1⟩ := trodAll_cons r0
  obtain ⟨v2, vs2, d2, ds2, p2, q2, rfl, rfl, rfl, h2, r2⟩ := trodAll_cons r1
  obtain ⟨rfl, rfl, rfl⟩ := trodAll_nil r2
  obtain rfl : args = #[v0, v1, v2] := by cases args; simp_all
  obtain ⟨n0, g0, k0⟩ := in_u8 (hval 0 5 v0 rfl rfl) h0
  obtain ⟨l1, g1, k1⟩ := in_text (hval 1 9 v1 rfl rfl) h1
  obtain ⟨l2, g2, k2⟩ := in_text (hval 2 9 v2 rfl rfl) h2
  refine law_calls Tryd.func4 (by kernel_rfl) rfl (faultOnce_fn n0 ⟨g0.1, by have := g0.2; omega⟩ l1 l2) (glob_of_laid hL hts3) (.cons k0 (.cons k1 (.cons k2 .nil))) fun W' hg => ?_
  exact ⟨_, rfl, law_post hW' hg Tryd.underlying4 (by kernel_rfl) rfl (fun gs' _ h => by subst h; rfl) (by rw [Tryd.params4]; intro t ht; simp only [List.mem_cons, List.not_mem_nil, or_false] at ht; rcases ht with rfl | rfl | rfl <;> exact ⟨by kernel_rfl, of_decide_eq_true (by kernel_rfl)⟩)⟩

theorem faultOnce_row_holds : Rows.FaultOnceSaid :=
  OpenClaim.holds_of_wide 4 Tryd.f4 rfl rfl rfl rfl rfl rfl rfl ⟨rfl, rfl, rfl, rfl, rfl⟩ rfl rfl rfl rfl rfl (by kernel_rfl) Tryd.func4 (by kernel_rfl)
    (of_decide_eq_true (by kernel_rfl)) (by unfold Func.isWrapper; first | (rw [if_pos (by decide +kernel)]; kernel_rfl) | (rw [if_neg (by decide +kernel)]; exact ⟨rfl, rfl⟩))
    (fun os started H enc _ => faultOnce_lifted os started H enc)
set_option maxRecDepth 100000 in
theorem faultOnce_holds : Rows.FaultOnceCardSaid :=
  Claim7.holds_tied_plain_at .later [] [.handle] true Rows.faultOnceCard.stood.harness true
    faultOnce_row_holds (fun _ h => by cases h) (by kernel_rfl) (fun _ h => by cases h) faultOnce_row_tie rfl ⟨rfl, rfl⟩ (by kernel_rfl) rfl
    (fun f fn hf hfn => by
      obtain rfl : f = 4 := Option.some.inj ((show Tryd.prog.funcNamed "estuary/estuarylaw3.FaultOnce" = some 4 by kernel_rfl).symm.trans hf) |>.symm
      obtain rfl : fn = Tryd.f4 := (Option.some.inj (Tryd.func4.symm.trans hfn)).symm
      exact ⟨by kernel_rfl, fun j t ht => by
        rw [Tryd.params4] at ht
        have hm := List.mem_of_getElem? ((Array.getElem?_toList).trans ht)
        simp only [List.mem_cons, List.not_mem_nil, or_false] at hm
        rcases hm with rfl | rfl | rfl
        all_goals (show Tryd.prog.wantsStandIn _ = false; kernel_rfl)⟩)
    (by kernel_rfl)
#print axioms faultOnce_holds
end Go.Proofs.YthchmjdgepbjpaaDoor
