/-
  The walks of the laws on charts: they answer true. No conditions.
-/
import Derived.Test.YthcbffejjkmmfaaCh
namespace Go.Proofs.Ythcbffejjkmmfaa
open Go.RowKit
set_option linter.unusedSimpArgs false
set_option linter.unusedVariables false

theorem nodeK_fn : Fn Try.prog 9 [.sl (kL.map encP), .str [122]] (.tup [.int .i64 0, .bool true]) := by
  have := node_fn kL [122]
  rwa [show nodeAt kL [122] = 0 from by decide, show (placeAt kL [122]).isSome = true from by decide] at this
theorem nodeN_fn : Fn Try.prog 9 [.nils, .str [122]] (.tup [.int .i64 0, .bool false]) := Fn.nil0 (node_fn [] [122])
def kP : List (List V) := [[.int .i64 2, .int .i64 1, .int .i64 0, .str [99], .str [109]], [.int .i64 3, .int .i64 1, .int .i64 0, .str [109], .str [112]]]
theorem partsK_fn : Fn Try.prog 12 [.sl (kL.map encP), .agg [.str [99], .str [112]]] (.sl [[.int .i64 2, .int .i64 1, .int .i64 0, .str [99], .str [109]], [.int .i64 3, .int .i64 1, .int .i64 0, .str [109], .str [112]]]) := by
  have := parts_fn kL ⟨[99], [112]⟩ (by decide)
  rwa [show parts kL ⟨[99], [112]⟩ = [⟨2, 1, 0, ⟨[99], [109]⟩⟩, ⟨3, 1, 0, ⟨[109], [112]⟩⟩] from by decide] at this

set_option maxRecDepth 100000 in
set_option maxHeartbeats 400000 in
theorem known22_fn  : Fn Try.prog 8 [ ] (.bool true) := by
  refine Fn.mk' base Try.func8 rfl rfl rfl ?_
  repeat' (first
      | (with_reducible refine AW.seq ?_) | (with_reducible refine AW.region base (by kernel_rfl) ?_) | (with_reducible refine AW.cond ?_) | (with_reducible refine AW.block ?_) | (with_reducible refine AW.ret ?_) | (with_reducible refine AW.exit ?_) | (with_reducible refine AW.skip ?_)
      | ((conv => whnf); (first
         | (with_reducible refine Br.t ?_)
         | (with_reducible refine Br.f ?_)
         | (intro row hrow; simp only [toNat_zero', toNat_one', List.getElem?_cons_zero, List.getElem?_cons_succ, Option.some.injEq] at hrow; subst hrow)
         | (with_reducible refine ⟨_, newr_fn, ?_⟩)
         | (with_reducible refine ⟨_, splitr_fn, ?_⟩)
         | (with_reducible refine ⟨_, nodeK_fn, ?_⟩)
         | (with_reducible refine ⟨_, nodeN_fn, ?_⟩)
         | (with_reducible refine ⟨_, partsK_fn, ?_⟩)
         | (with_reducible refine Br.mk (fun hb => ?_) (fun hb => ?_) <;> (try rw [hb]) <;> (try simp only [List.length_map, decide_eq_true_eq, decide_eq_false_iff_not, Bool.not_eq_true', Bool.not_eq_false', Int.ofNat_lt, Int.ofNat_le, Int.not_lt, Int.not_le, Int.toNat_natCast] at hb))
         | ((with_reducible refine And.intro ?_ ?_); (focus (first | omega | (intro r hr; simp only [List.mem_singleton] at hr; subst hr; rfl)  | (simp only [in64]; omega) | assumption | (simp; done) | (simp [V.cells]; done) | (simp [in64, maxLen] at *; omega) | rfl)))
         | (intro row hrow; (try simp only [Int.toNat_natCast, List.length_map, toNat_pred, toNat_succ', toNat_zero', toNat_one'] at hrow); (first | (have hsm := same_map (by assumption) hrow; subst hsm; clear hrow) | (obtain ⟨p, hp, rfl⟩ := of_map hrow; clear hrow)))
         | (with_reducible refine AW.seq ?_) | (with_reducible refine AW.region base (by kernel_rfl) ?_) | (with_reducible refine AW.cond ?_) | (with_reducible refine AW.block ?_) | (with_reducible refine AW.ret ?_) | (with_reducible refine AW.exit ?_) | (with_reducible refine AW.skip ?_))))
  all_goals (conv => whnf)
  all_goals first | rfl | (exfalso; simp at hb; done)

set_option maxRecDepth 100000 in
set_option maxHeartbeats 400000 in
theorem chartTells_fn (l : List Place) (key : Bs) (s : Span) : Fn Try.prog 3 [.sl (l.map encP), .str key, .agg [.str s.f, .str s.t]] (.bool true) := by
  refine Fn.mk' base Try.func3 rfl rfl rfl ?_
  refine AW.len 0 rfl (fun hlen => ?_)
  simp only [List.length_map, maxLen] at hlen
  repeat' (first
      | (with_reducible refine AW.seq ?_) | (with_reducible refine AW.region base (by kernel_rfl) ?_) | (with_reducible refine AW.cond ?_) | (with_reducible refine AW.block ?_) | (with_reducible refine AW.ret ?_) | (with_reducible refine AW.exit ?_) | (with_reducible refine AW.skip ?_)
      | ((conv => whnf); (first
         | (with_reducible refine Br.t ?_)
         | (with_reducible refine Br.f ?_)
         | (intro row hrow; simp only [toNat_zero', toNat_one', List.getElem?_cons_zero, List.getElem?_cons_succ, Option.some.injEq] at hrow; subst hrow)
         | (with_reducible refine ⟨_, known22_fn, ?_⟩)
         | (with_reducible refine ⟨_, node_fn _ _, ?_⟩)
         | (with_reducible refine ⟨_, noder_fn _ _, ?_⟩)
         | (with_reducible refine ⟨_, parts_fn _ _ (by omega), ?_⟩)
         | (with_reducible refine ⟨_, parts_fn _ ⟨_, _⟩ (by omega), ?_⟩)
         | (with_reducible refine ⟨_, partsr_fn _ _ (by omega), ?_⟩)
         | (with_reducible refine ⟨_, partsr_fn _ ⟨_, _⟩ (by omega), ?_⟩)
         | (with_reducible refine ⟨_, samePlaces_fn _ _, ?_⟩)
         | (with_reducible refine Br.mk (fun hb => ?_) (fun hb => ?_) <;> (try rw [hb]) <;> (try simp only [List.length_map, decide_eq_true_eq, decide_eq_false_iff_not, Bool.not_eq_true', Bool.not_eq_false', Int.ofNat_lt, Int.ofNat_le, Int.not_lt, Int.not_le, Int.toNat_natCast] at hb))
         | ((with_reducible refine And.intro ?_ ?_); (focus (first | omega | (intro r hr; simp only [List.mem_singleton] at hr; subst hr; rfl)  | (simp only [in64]; omega) | assumption | (simp; done) | (simp [V.cells]; done) | (simp [in64, maxLen] at *; omega) | rfl)))
         | (intro row hrow; (try simp only [Int.toNat_natCast, List.length_map, toNat_pred, toNat_succ', toNat_zero', toNat_one'] at hrow); (first | (have hsm := same_map (by assumption) hrow; subst hsm; clear hrow) | (obtain ⟨p, hp, rfl⟩ := of_map hrow; clear hrow)))
         | (with_reducible refine AW.seq ?_) | (with_reducible refine AW.region base (by kernel_rfl) ?_) | (with_reducible refine AW.cond ?_) | (with_reducible refine AW.block ?_) | (with_reducible refine AW.ret ?_) | (with_reducible refine AW.exit ?_) | (with_reducible refine AW.skip ?_))))
  all_goals (conv => whnf)
  all_goals first | rfl | (exfalso; simp at hb; done) | (simp; done)
end Go.Proofs.Ythcbffejjkmmfaa
