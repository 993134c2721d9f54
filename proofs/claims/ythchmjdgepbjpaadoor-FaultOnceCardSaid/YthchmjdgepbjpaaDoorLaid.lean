/-
  What a row's listed variable gives: the package-level variable of errors holds the handle of type error; the table of powers holds some numbers; a world that meets the condition. No conditions.
-/
import Derived.Test.YthchmjdgepbjpaaDoorAbsLaw
import Derived.ChangeSame
import Derived.ChangeVars
import Derived.JoinedOf
import Derived.RowKit
import Derived.LaidLaws
import Derived.LaidHandle
import Derived.Stop.Joined
import Derived.Handed
namespace Go.Proofs.YthchmjdgepbjpaaDoor
open Go.ChangeShapes Go.WideShapes Go.RowKit
abbrev laidL : List (String × DataW Unit) := [("errors.errorType", Rows.laid_errors_errorType)]
theorem Tryd.et : Tryd.prog.globalNamed "errors.errorType" = some 0 := by kernel_rfl
theorem Tryd.rt : (Tryd.prog.cutTypes.find? (·.1 == "internal/reflectlite.rtype")).map (·.2) = some 59 := by kernel_rfl
theorem Tryd.oneRow : ((List.range 121).filter fun t => Tryd.prog.rowNamed t [101, 114, 114, 111, 114]) = [26] := by kernel_rfl
theorem Tryd.ntypes : Tryd.prog.types.size = 121 := by kernel_rfl
theorem handle_of_laid {W : World} (h : laidMetH Tryd.prog laidL W) : W.cell? ⟨0, 0, none⟩ = some (.iface 59 (.agg #[.pointer (some ⟨4, 26, none⟩)])) := by
  have h' : laidMet Tryd.prog [] W ∧ handlesMet Tryd.prog laidL W := h
  obtain ⟨name, u, ty, e1, e2, e3, e4, e5⟩ := h'.2 _ (List.mem_singleton.2 rfl)
  have en : name = [101, 114, 114, 111, 114] := (Option.some.inj e1).symm
  subst en
  obtain rfl := Option.some.inj (Tryd.rt.symm.trans e2)
  have hm : ty ∈ (List.range 121).filter fun t => Tryd.prog.rowNamed t [101, 114, 114, 111, 114] := List.mem_filter.2 ⟨List.mem_range.2 (by rw [← Tryd.ntypes]; exact e3), e4⟩
  rw [Tryd.oneRow] at hm
  obtain rfl := List.mem_singleton.1 hm
  have hh : typeHandle Tryd.prog 26 = .pointer (some ⟨4, 26, none⟩) := by kernel_rfl
  rw [hh] at e5
  simpa using World.var?_cell Tryd.et e5 0
theorem ints_of : ∀ (l : List Value), (∀ v ∈ l, ∃ z : Int, v = .int .u64 z ∧ 0 ≤ z ∧ z ≤ 18446744073709551615) → ∃ zs : List Int, l = zs.map (fun z => Value.int .u64 z) ∧ ∀ z ∈ zs, 0 ≤ z ∧ z ≤ 18446744073709551615
  | [], _ => ⟨[], rfl, fun _ h => by cases h⟩
  | v :: l, h => by
    obtain ⟨z, rfl, hz⟩ := h v (by simp)
    obtain ⟨zs, rfl, hzs⟩ := ints_of l fun v hv => h v (by simp [hv])
    refine ⟨z :: zs, rfl, fun y hy => ?_⟩
    rcases List.mem_cons.1 hy with rfl | hy
    · exact hz
    · exact hzs y hy
set_option maxRecDepth 100000 in
/-- whatever the table holds, it is 20 numbers -/
theorem tab_of_shaped {W : World} (h : W.ShapedOpen Tryd.prog) : ∃ ts : List Int, ts.length = 20 ∧ (∀ z ∈ ts, 0 ≤ z ∧ z ≤ 18446744073709551615) ∧ ∃ t fz, W.heap[1]? = some (.cells (ts.map fun z => Value.int .u64 z).toArray t fz) := by
  obtain ⟨cs, hh, hs, hr⟩ := h.1 1 (Array.replicate 20 (.int .u64 0)) 84 (by decide +kernel) (by kernel_rfl)
  obtain ⟨us, hus, _, hall⟩ := hr (by kernel_rfl)
  have hct : Tryd.prog.cellTypes Tryd.prog.depth 84 = some (List.replicate 20 76) := by kernel_rfl
  rw [hct] at hus
  obtain rfl := Option.some.inj hus
  have hs20 : cs.size = 20 := hs
  have hund : Tryd.prog.underlying 76 = some (.int .u64) := by kernel_rfl
  obtain ⟨zs, h1, h2⟩ := ints_of cs.toList fun v hv => by
    obtain ⟨i, hi, rfl⟩ := List.mem_iff_getElem.1 hv
    have hi' : i < cs.size := by simpa using hi
    obtain ⟨u, hu, hok⟩ := hall i cs[i] (by simp [hi'])
    have hu' : u = 76 := (List.mem_replicate.1 (List.mem_of_getElem? hu)).2
    subst hu'
    unfold Cell.ok at hok
    rw [hund] at hok
    rw [Array.getElem_toList]
    cases hx : cs[i] <;> rw [hx] at hok <;> simp at hok
    case int k n =>
      obtain ⟨rfl, hn⟩ := hok
      refine ⟨n, rfl, ?_⟩
      simpa [IntKind.has, IntKind.min, IntKind.max, IntKind.signed, IntKind.bits] using hn
  have hlen : zs.length = 20 := by
    have := congrArg List.length h1
    rw [List.length_map, Array.length_toList, hs20] at this
    exact this.symm
  have e : cs = (zs.map fun z => Value.int .u64 z).toArray := by rw [← h1]
  rw [e] at hh
  exact ⟨zs, hlen, h2, _, _, hh⟩
/-- the library's way from a contract to a row's law, with the world's shape handed on -/
theorem returnsInHanded_shaped {H : Type} {enc : TypeId × Value → H} {a : Assume} {C : Checked} {os : Os} {f : FuncId} {fn : Func} {s : ChangeSpec} {conds : List PathCond} {apart fresh handsOn again : Bool} {X : World → Array Value → Prop}
    (hX : ∀ (w w' : World) (args : Array Value), w.heap = w'.heap → X w args → X w' args)
    (own : ownKnob C.prog.godebug = none) (started : os.Started) (noInit : C.prog.inits.idxOf? f = none) (hfn : C.prog.funcs[f]? = some fn)
    (witness : ∃ (w : World) (tape : Tape) (i : Input), w.os = os ∧ (w.forCall tape i).Shaped C.prog ∧ i.vars = [] ∧ Input.okWide C.prog (w.forCall tape i) .any w.heap.size f i ∧
      ((s.pre enc C.prog fn conds apart (w.forCall tape i).memory i.args ∧ X (w.forCall tape i).memory i.args) ∧ sizedMet enc C.prog fn (OpenSpec.ofChange s) apart (w.forCall tape i).memory i.args) ∧ a.holds C.prog (lone (Frame.enter C.prog f i.args .normal) [] (w.forCall tape i)))
    (contract : ∀ (W : World) (base : Nat) (args : Array Value) (ds gs : List (DataW H)) (before : List MemPlace), W.ShapedOpen C.prog →
      (∀ (j : Nat) t v, fn.params[j]? = some t → args[j]? = some v → Value.okWide C.prog W .any base t v) →
      DataW.Whole enc C.prog fn.params.toList s.vars apart W args.toList ds gs before → X W args →
      Calls C.prog f args W fun e W' => ∃ v, e = .returned v ∧ s.post enc C.prog fn apart fresh handsOn again W args v W') :
    ReturnsInHanded a C os f .any (fun w args => (s.pre enc C.prog fn conds apart w args ∧ X w args) ∧ sizedMet enc C.prog fn (OpenSpec.ofChange s) apart w args) (s.post enc C.prog fn apart fresh handsOn again) := by
  refine returnsInHanded_of_calls own started noInit witness ?_
  intro w tape i _ hsh _ hok hpre _
  obtain ⟨_, _, _, fn', hfn', _, _, _, _, hval⟩ := hok
  obtain rfl : fn' = fn := Option.some.inj (hfn'.symm.trans hfn)
  obtain ⟨⟨⟨ds, gs, before, hw, _⟩, hx⟩, _⟩ := hpre
  refine (contract (w.forCall tape i) w.heap.size i.args ds gs before hsh hval (DataW.Whole.of_heap (w' := w.forCall tape i) (by rfl) hw) (hX _ _ _ (by rfl) hx)).mono fun e W' ⟨v, he, hp⟩ => ?_
  subst he
  exact ChangeSpec.post_blind hp
def tabAny : TabT := ⟨List.replicate 20 0, rfl, fun t h => by have := (List.mem_replicate.1 h).2; omega⟩
theorem glob_of_laid [Inhabited TabT] {W : World} (h : laidMetH Tryd.prog laidL W) (ht : ∃ t fz, W.heap[1]? = some (.cells ((default : TabT).ts.map fun z => Value.int .u64 z).toArray t fz)) : Glob W (allR W) := ⟨(fun g cs hg => by
  unfold globK at hg
  split at hg
  · cases hg
    have h1 := handle_of_laid h
    have hlt : 0 < W.heap.size := by
      rcases Nat.lt_or_ge 0 W.heap.size with h | h
      · exact h
      · simp [World.cell?, Array.getElem?_eq_none h] at h1
    have := Rep.elt (w := W) (R := allR W) (ρ := rho0) (row := [.ifc 59 (.agg [.val (.pointer (some ⟨4, 26, none⟩))])]) (b := 0) (o := 0) (off := 0) (fun _ => .iface 59 (.agg #[.pointer (some ⟨4, 26, none⟩)])) hlt (fun j hj => by
      have : j = 0 := by simp at hj; omega
      subst this; exact h1) (fun j hj => rfl) (fun j v hj => by
      have : j = 0 := by have := (List.getElem?_eq_some_iff.1 hj).1; simp at this; omega
      subst this
      cases hj
      refine .ifc (.agg (xs := [.pointer (some ⟨4, 26, none⟩)]) rfl (by simp [Value.oneCell']) fun i v x hv hx => ?_)
      cases i with
      | zero => cases hv; cases hx; exact .val rfl
      | succ i => simp at hv)
    exact this
  · cases hg), fun g a hg => by
  unfold tabK at hg
  split at hg
  · cases hg
    obtain ⟨t, fz, h1⟩ := ht
    refine ⟨?_, t, fz, h1⟩
    rcases Nat.lt_or_ge 1 W.heap.size with h | h
    · exact h
    · rw [Array.getElem?_eq_none h] at h1; cases h1
  · cases hg⟩
noncomputable def laidWorld (os : Os) : World :=
  let w0 := World.holding Tryd.prog os ⟨#[], #[], []⟩
  { w0 with heap := w0.heap.modify 0 fun
      | .cells _ t frozen => .cells #[.iface 59 (.agg #[.pointer (some ⟨4, 26, none⟩)])] t frozen
      | o => o }
theorem laidWorld_met (os : Os) (args : Array Value) : laidMetH Tryd.prog laidL ((laidWorld os).forCall (fun _ _ => 0) ⟨#[], args, []⟩).memory :=
  laidMetH_of_parts (laidMet_nil _ _) (by kernel_rfl)
end Go.Proofs.YthchmjdgepbjpaaDoor
