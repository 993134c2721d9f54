/-
  Walks of the reference: whether two letters are alike. No conditions.
-/
import Derived.Test.YtgjbhkbjdihddaaDoorLetG
namespace Go.Proofs.YtgjbhkbjdihddaaDoor
open Go.RowKit
set_option linter.unusedSimpArgs false
set_option linter.unusedVariables false

set_option maxRecDepth 100000 in
set_option maxHeartbeats 1000000 in
theorem sameLetter_fn (a b : LetV) (h1 : a.op.ws.length ≤ 1000000) (h2 : a.an.rows.length ≤ 1000000) : Fn Tryd.prog 48 [.agg (encL a), .agg (encL b)] (.bool (decide (a = b))) := by
  refine Fn.mk' base Tryd.func48 rfl rfl rfl ?_
  repeat' ((conv => whnf); (first
   | (with_reducible first | refine AW.seq ?_ | refine AW.region base (by kernel_rfl) ?_ | refine AW.cond ?_ | refine AW.block ?_ | refine AW.ret ?_ | refine AW.exit ?_ | refine AW.skip ?_ | refine Br.t ?_ | refine Br.f ?_)
   | ((with_reducible refine Or.inl ?_); (conv => whnf); (with_reducible refine And.intro LitSl.mk ?_))
   | refine Br.t ?_
   | refine Br.f ?_
   | ((with_reducible refine Or.inl ?_); (conv => whnf); (first | (with_reducible first | refine ⟨_, sameOp_fn a.op b.op h1, ?_⟩ | refine ⟨_, sameAn_fn a.an b.an h2, ?_⟩ | refine ⟨_, sameSeen_fn _ _, ?_⟩ | refine ⟨_, sameEvents_fn _ _, ?_⟩ | refine ⟨_, samePlaces_fn _ _, ?_⟩)))
   | (with_reducible refine Br.mk (fun hb => ?_) (fun hb => ?_) <;> (try rw [hb]) <;> (try simp only [List.length_map, decide_eq_true_eq, decide_eq_false_iff_not, Bool.not_eq_true', Bool.not_eq_false', Int.ofNat_lt, Int.ofNat_le, Int.not_lt, Int.not_le, Int.toNat_natCast] at hb))
   | ((with_reducible first | refine Or.inl (And.intro ?_ ?_) | refine And.intro ?_ ?_); (focus (first | with_reducible rfl | exact trivial | (exact ⟨rfl, trivial⟩) | (exact ⟨rfl, rfl, trivial⟩) | omega | (intro r hr; simp only [List.mem_singleton] at hr; subst hr; rfl)  | ((simp only [in64, maxLen] at *; omega)) | (simp only [in64]; omega) | assumption | (simp; done) | (simp [V.cells]; done) | (simp [in64, maxLen, limK] at *; omega) | ((show confB _ _ = true); kernel_rfl) | rfl)))
   | (intro row hrow; (try simp only [Int.toNat_natCast, List.length_map, toNat_pred, toNat_succ', toNat_zero', toNat_one'] at hrow); (first | (have hsm := same_map (by assumption) hrow; subst hsm; clear hrow) | (obtain ⟨p, hp, rfl⟩ := of_map hrow; clear hrow)))))
  all_goals ((conv => whnf); (refine congrArg V.bool ?_; rw [show decide (a = b) = decide (a.kind = b.kind ∧ a.fr = b.fr ∧ a.to = b.to ∧ a.n0 = b.n0 ∧ a.n1 = b.n1 ∧ a.n2 = b.n2 ∧ a.n3 = b.n3 ∧ a.n4 = b.n4 ∧ a.op = b.op ∧ a.an = b.an ∧ a.f = b.f ∧ a.t = b.t ∧ a.seen = b.seen ∧ a.ev = b.ev ∧ a.pl = b.pl ∧ a.data = b.data) from decide_eq_decide.2 let_ext]; simp_all))
end Go.Proofs.YtgjbhkbjdihddaaDoor
