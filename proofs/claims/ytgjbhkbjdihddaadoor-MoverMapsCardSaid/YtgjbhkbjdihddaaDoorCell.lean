/-
  Walks of package cell and of its reference: cells, events, what a put and a delete make. No conditions.
-/
import Derived.Test.YtgjbhkbjdihddaaDoorErr
namespace Go.Proofs.YtgjbhkbjdihddaaDoor
open Go.RowKit
set_option linter.unusedSimpArgs false
set_option linter.unusedVariables false
def isKeyB (k : Bs) : Bool := !decide (k = []) && decide (k.length ≤ 8)
def mayB (k v : Bs) (n : Int) (d : Bool) : Bool := isKeyB k && decide (v.length ≤ 12) && !(d && !decide (v = [])) && decide (1 ≤ n) && decide (n ≤ 1000000000000)
def thereB (n : Int) (d : Bool) : Bool := decide (0 < n) && !d
def isCellB (k v : Bs) (n : Int) (d : Bool) (f : Int) : Bool := mayB k v n d && decide (0 ≤ f) && decide (f ≤ n)
set_option maxRecDepth 100000 in
set_option maxHeartbeats 400000 in
theorem isKey_fn (k : Bs) : Fn Tryd.prog 83 [.str k] (.bool (isKeyB k)) := by
  refine Fn.mk' base Tryd.func83 rfl rfl rfl ?_
  repeat' ((conv => whnf); (first
   | (with_reducible first | refine AW.seq ?_ | refine AW.region base (by kernel_rfl) ?_ | refine AW.cond ?_ | refine AW.block ?_ | refine AW.ret ?_ | refine AW.exit ?_ | refine AW.skip ?_ | refine Br.t ?_ | refine Br.f ?_)
   | ((with_reducible refine Or.inl ?_); (conv => whnf); (with_reducible refine And.intro LitSl.mk ?_))
   | refine Br.t ?_
   | refine Br.f ?_
   | (with_reducible refine Br.mk (fun hb => ?_) (fun hb => ?_) <;> (try rw [hb]) <;> (try simp only [List.length_map, decide_eq_true_eq, decide_eq_false_iff_not, Bool.not_eq_true', Bool.not_eq_false', Int.ofNat_lt, Int.ofNat_le, Int.not_lt, Int.not_le, Int.toNat_natCast] at hb))
   | ((with_reducible first | refine Or.inl (And.intro ?_ ?_) | refine And.intro ?_ ?_); (focus (first | with_reducible rfl | exact trivial | (exact ⟨rfl, trivial⟩) | (exact ⟨rfl, rfl, trivial⟩) | omega | (intro r hr; simp only [List.mem_singleton] at hr; subst hr; rfl)  | (simp only [in64]; omega) | assumption | (simp; done) | (simp [V.cells]; done) | (simp [in64, maxLen, limK] at *; omega) | ((show confB _ _ = true); kernel_rfl) | rfl)))
   | (intro row hrow; (try simp only [Int.toNat_natCast, List.length_map, toNat_pred, toNat_succ', toNat_zero', toNat_one'] at hrow); (first | (have hsm := same_map (by assumption) hrow; subst hsm; clear hrow) | (obtain ⟨p, hp, rfl⟩ := of_map hrow; clear hrow)))))
  all_goals (conv => whnf)
  all_goals (first | rfl | (simp only [V.bool.injEq, V.tup.injEq, V.agg.injEq, V.str.injEq, V.int.injEq, V.sl.injEq, V.ifc.injEq, List.cons.injEq, and_true, true_and, and_self, isKeyB]; done) | (simp only [V.bool.injEq, V.tup.injEq, V.agg.injEq, V.str.injEq, V.int.injEq, V.sl.injEq, V.ifc.injEq, List.cons.injEq, and_true, true_and, and_self, isKeyB]; grind [List.length_eq_zero_iff]) | (simp [isKeyB] at *; done) | (simp [isKeyB] at *; grind [List.length_eq_zero_iff]))

end Go.Proofs.YtgjbhkbjdihddaaDoor
