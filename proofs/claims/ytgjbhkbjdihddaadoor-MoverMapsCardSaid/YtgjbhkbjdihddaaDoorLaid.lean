/-
  What a row's listed variable gives: the package-level variable of errors holds the handle of type error; a world that meets the condition. No conditions.
-/
import Derived.Test.YtgjbhkbjdihddaaDoorAbsLaw
import Derived.ChangeSame
import Derived.ChangeVars
import Derived.JoinedOf
import Derived.RowKit
import Derived.LaidLaws
import Derived.LaidHandle
import Derived.Stop.Joined
namespace Go.Proofs.YtgjbhkbjdihddaaDoor
open Go.ChangeShapes Go.WideShapes Go.RowKit
abbrev laidL : List (String × DataW Unit) := [("errors.errorType", Rows.laid_errors_errorType)]
theorem Tryd.et : Tryd.prog.globalNamed "errors.errorType" = some 0 := by kernel_rfl
theorem Tryd.rt : (Tryd.prog.cutTypes.find? (·.1 == "internal/reflectlite.rtype")).map (·.2) = some 124 := by kernel_rfl
theorem Tryd.oneRow : ((List.range 184).filter fun t => Tryd.prog.rowNamed t [101, 114, 114, 111, 114]) = [29] := by kernel_rfl
theorem Tryd.ntypes : Tryd.prog.types.size = 184 := by kernel_rfl
theorem handle_of_laid {W : World} (h : laidMetH Tryd.prog laidL W) : W.cell? ⟨0, 0, none⟩ = some (.iface 124 (.agg #[.pointer (some ⟨1, 29, none⟩)])) := by
  have h' : laidMet Tryd.prog [] W ∧ handlesMet Tryd.prog laidL W := h
  obtain ⟨name, u, ty, e1, e2, e3, e4, e5⟩ := h'.2 _ (List.mem_singleton.2 rfl)
  have en : name = [101, 114, 114, 111, 114] := (Option.some.inj e1).symm
  subst en
  obtain rfl := Option.some.inj (Tryd.rt.symm.trans e2)
  have hm : ty ∈ (List.range 184).filter fun t => Tryd.prog.rowNamed t [101, 114, 114, 111, 114] := List.mem_filter.2 ⟨List.mem_range.2 (by rw [← Tryd.ntypes]; exact e3), e4⟩
  rw [Tryd.oneRow] at hm
  obtain rfl := List.mem_singleton.1 hm
  have hh : typeHandle Tryd.prog 29 = .pointer (some ⟨1, 29, none⟩) := by kernel_rfl
  rw [hh] at e5
  simpa using World.var?_cell Tryd.et e5 0
theorem glob_of_laid {W : World} (h : laidMetH Tryd.prog laidL W) : Glob W (allR W) := ⟨(fun g cs hg => by
  unfold globK at hg
  split at hg
  · cases hg
    have h1 := handle_of_laid h
    have hlt : 0 < W.heap.size := by
      rcases Nat.lt_or_ge 0 W.heap.size with h | h
      · exact h
      · simp [World.cell?, Array.getElem?_eq_none h] at h1
    have := Rep.elt (w := W) (R := allR W) (ρ := rho0) (row := [.ifc 124 (.agg [.val (.pointer (some ⟨1, 29, none⟩))])]) (b := 0) (o := 0) (off := 0) (fun _ => .iface 124 (.agg #[.pointer (some ⟨1, 29, none⟩)])) hlt (fun j hj => by
      have : j = 0 := by simp at hj; omega
      subst this; exact h1) (fun j hj => rfl) (fun j v hj => by
      have : j = 0 := by have := (List.getElem?_eq_some_iff.1 hj).1; simp at this; omega
      subst this
      cases hj
      refine .ifc (.agg (xs := [.pointer (some ⟨1, 29, none⟩)]) rfl (by simp [Value.oneCell']) fun i v x hv hx => ?_)
      cases i with
      | zero => cases hv; cases hx; exact .val rfl
      | succ i => simp at hv)
    exact this
  · cases hg), fun g a hg => by cases hg⟩
noncomputable def laidWorld (os : Os) : World :=
  let w0 := World.holding Tryd.prog os ⟨#[], #[], []⟩
  { w0 with heap := w0.heap.modify 0 fun
      | .cells _ t frozen => .cells #[.iface 124 (.agg #[.pointer (some ⟨1, 29, none⟩)])] t frozen
      | o => o }
theorem laidWorld_met (os : Os) (args : Array Value) : laidMetH Tryd.prog laidL ((laidWorld os).forCall (fun _ _ => 0) ⟨#[], args, []⟩).memory :=
  laidMetH_of_parts (laidMet_nil _ _) (by kernel_rfl)
end Go.Proofs.YtgjbhkbjdihddaaDoor
