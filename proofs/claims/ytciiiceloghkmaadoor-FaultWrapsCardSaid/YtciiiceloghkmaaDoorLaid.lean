/-
  What a row's listed variables give: the package-level variable of errors holds the handle of type error, the table of powers its numbers; a world that meets the condition. No conditions.
-/
import Derived.Test.YtciiiceloghkmaaDoorAbsLaw
import Derived.ChangeSame
import Derived.ChangeVars
import Derived.JoinedOf
import Derived.RowKit
import Derived.LaidLaws
import Derived.LaidHandle
import Derived.Stop.Joined
import Derived.Lib.LaidTab
import Derived.Lib.ItoaNum
namespace Go.Proofs.YtciiiceloghkmaaDoor
open Go.ChangeShapes Go.WideShapes Go.RowKit
abbrev laidD : List (String × DataW Unit) := [("math/bits.deBruijn32tab", Rows.laid_math_bits_deBruijn32tab), ("math/bits.deBruijn64tab", Rows.laid_math_bits_deBruijn64tab), ("internal/strconv.uint64pow10", Rows.laid_internal_strconv_uint64pow10)]
abbrev laidL : List (String × DataW Unit) := [("math/bits.deBruijn32tab", Rows.laid_math_bits_deBruijn32tab), ("math/bits.deBruijn64tab", Rows.laid_math_bits_deBruijn64tab), ("internal/strconv.uint64pow10", Rows.laid_internal_strconv_uint64pow10), ("errors.errorType", Rows.laid_errors_errorType)]
theorem Tryd.et : Tryd.prog.globalNamed "errors.errorType" = some 0 := by kernel_rfl
theorem Tryd.rt : (Tryd.prog.cutTypes.find? (·.1 == "internal/reflectlite.rtype")).map (·.2) = some 105 := by kernel_rfl
theorem Tryd.oneRow : ((List.range 161).filter fun t => Tryd.prog.rowNamed t [101, 114, 114, 111, 114]) = [29] := by kernel_rfl
theorem Tryd.ntypes : Tryd.prog.types.size = 161 := by kernel_rfl
theorem handle_of_laid {W : World} (h : laidMetH Tryd.prog laidL W) : W.cell? ⟨0, 0, none⟩ = some (.iface 105 (.agg #[.pointer (some ⟨4, 29, none⟩)])) := by
  have h' : laidMet Tryd.prog laidD W ∧ handlesMet Tryd.prog [("errors.errorType", Rows.laid_errors_errorType)] W := h
  obtain ⟨name, u, ty, e1, e2, e3, e4, e5⟩ := h'.2 _ (List.mem_singleton.2 rfl)
  have en : name = [101, 114, 114, 111, 114] := (Option.some.inj e1).symm
  subst en
  obtain rfl := Option.some.inj (Tryd.rt.symm.trans e2)
  have hm : ty ∈ (List.range 161).filter fun t => Tryd.prog.rowNamed t [101, 114, 114, 111, 114] := List.mem_filter.2 ⟨List.mem_range.2 (by rw [← Tryd.ntypes]; exact e3), e4⟩
  rw [Tryd.oneRow] at hm
  obtain rfl := List.mem_singleton.1 hm
  have hh : typeHandle Tryd.prog 29 = .pointer (some ⟨4, 29, none⟩) := by kernel_rfl
  rw [hh] at e5
  simpa using World.var?_cell Tryd.et e5 0
theorem Tryd.pt : Tryd.prog.globalNamed "internal/strconv.uint64pow10" = some 1 := by kernel_rfl
theorem tab_of_laid {W : World} (h : laidMetH Tryd.prog laidL W) : ∃ t fz, W.heap[1]? = some (.cells (Lib.pow10Tab.map fun z => Value.int .u64 z).toArray t fz) := by
  have h' : laidMet Tryd.prog laidD W ∧ handlesMet Tryd.prog [("errors.errorType", Rows.laid_errors_errorType)] W := h
  obtain ⟨ps, ⟨_, _, _, _, _, _, _, _, _, _, ⟨_, _, _, _, _, _, _, _, _, _, ⟨g', t', cs, fuel, p, q, hg', ht', hvar, hd, _, _⟩, _⟩, _⟩, _⟩ := h'.1
  have hty : (Tryd.prog.globals[1]?).map (·.type) = some 128 := by kernel_rfl
  obtain rfl := Option.some.inj (Tryd.pt.symm.trans hg')
  obtain rfl := Option.some.inj (hty.symm.trans ht')
  have e : (Rows.laid_internal_strconv_uint64pow10 : DataW Unit) = Lib.tabData .u64 Lib.pow10Tab := by kernel_rfl
  rw [e] at hd
  have hc := Lib.cells_of_tab (n := 20) (e := 35) (by kernel_rfl) (by kernel_rfl) (by kernel_rfl) (by kernel_rfl) hd
  unfold World.var? at hvar
  rw [Tryd.pt, Option.bind_some] at hvar
  split at hvar
  · rename_i c t f hq
    have hcs : c = cs := Option.some.inj hvar
    rw [hq]
    refine ⟨t, f, ?_⟩
    rw [hcs]
    congr 1
    rw [← hc]
  · cases hvar
theorem glob_of_laid {W : World} (h : laidMetH Tryd.prog laidL W) : Glob W (allR W) := ⟨(fun g cs hg => by
  unfold globK at hg
  split at hg
  · cases hg
    have h1 := handle_of_laid h
    have hlt : 0 < W.heap.size := by
      rcases Nat.lt_or_ge 0 W.heap.size with h | h
      · exact h
      · simp [World.cell?, Array.getElem?_eq_none h] at h1
    have := Rep.elt (w := W) (R := allR W) (ρ := rho0) (row := [.ifc 105 (.agg [.val (.pointer (some ⟨4, 29, none⟩))])]) (b := 0) (o := 0) (off := 0) (fun _ => .iface 105 (.agg #[.pointer (some ⟨4, 29, none⟩)])) hlt (fun j hj => by
      have : j = 0 := by simp at hj; omega
      subst this; exact h1) (fun j hj => rfl) (fun j v hj => by
      have : j = 0 := by have := (List.getElem?_eq_some_iff.1 hj).1; simp at this; omega
      subst this
      cases hj
      refine .ifc (.agg (xs := [.pointer (some ⟨4, 29, none⟩)]) rfl (by simp [Value.oneCell']) fun i v x hv hx => ?_)
      cases i with
      | zero => cases hv; cases hx; exact .val rfl
      | succ i => simp at hv)
    exact this
  · cases hg), fun g a hg => by
  unfold tabK at hg
  split at hg
  · cases hg
    obtain ⟨t, fz, h1⟩ := tab_of_laid h
    refine ⟨?_, t, fz, h1⟩
    rcases Nat.lt_or_ge 1 W.heap.size with h | h
    · exact h
    · rw [Array.getElem?_eq_none h] at h1; cases h1
  · cases hg⟩
def litsOf : DataW Unit → List Value
  | .agg ds => ds.map fun | .lit (.int k z) => .int k z | _ => .bool false
  | _ => []
def putCells (w : World) (g : Nat) (cs : List Value) : World := { w with heap := w.heap.modify g fun
      | .cells _ t frozen => .cells cs.toArray t frozen
      | o => o }
noncomputable def laidWorld (os : Os) : World :=
  let w0 := World.holding Tryd.prog os ⟨#[], #[], []⟩
  putCells (putCells (putCells (putCells w0 0 [.iface 105 (.agg #[.pointer (some ⟨4, 29, none⟩)])]) 1 (litsOf Rows.laid_internal_strconv_uint64pow10)) 3 (litsOf Rows.laid_math_bits_deBruijn64tab)) 2 (litsOf Rows.laid_math_bits_deBruijn32tab)
theorem laidWorld_met (os : Os) (args : Array Value) : laidMetH Tryd.prog laidL ((laidWorld os).forCall (fun _ _ => 0) ⟨#[], args, []⟩).memory :=
  laidMetH_of_parts (show laidMet Tryd.prog laidD _ from laidMet_of_run' 8 (by kernel_rfl) (by kernel_rfl)) (by kernel_rfl)
end Go.Proofs.YtciiiceloghkmaaDoor
