/-
  The walks of packages plan, chart and estuaryref20: what their functions answer, in plain words. No conditions.
-/
import Derived.Test.YthcbffejjkmmfaaSp
namespace Go.Proofs.Ythcbffejjkmmfaa
open Go.RowKit
set_option linter.unusedSimpArgs false
set_option linter.unusedVariables false

structure Place where
  id : Int
  epoch : Int
  node : Int
  s : Span
  deriving DecidableEq
abbrev encP (p : Place) : List V := [.int .i64 p.id, .int .i64 p.epoch, .int .i64 p.node, .str p.s.f, .str p.s.t]
def zeroP : Place := ⟨0, 0, 0, ⟨[], []⟩⟩
def placeAt (l : List Place) (key : Bs) : Option Place := l.find? fun p => hasB p.s key
theorem drop_get {α : Type} {l : List α} {k : Nat} {p : α} (h : l[k]? = some p) : l.drop k = p :: l.drop (k + 1) := by
  obtain ⟨h1, rfl⟩ := List.getElem?_eq_some_iff.1 h
  exact List.drop_eq_getElem_cons h1

set_option maxRecDepth 100000 in
set_option maxHeartbeats 400000 in
theorem at_fn (l : List Place) (key : Bs) : Fn Try.prog 29 [.sl (l.map encP), .str key] (.tup [.agg (encP ((placeAt l key).getD zeroP)), .bool (placeAt l key).isSome]) := by
  refine Fn.mk' base Try.func29 rfl rfl rfl ?_
  refine AW.len 0 rfl (fun hlen => ?_)
  simp only [List.length_map, maxLen] at hlen
  repeat' (first
      | (with_reducible refine AW.seq ?_) | (with_reducible refine AW.region base (by kernel_rfl) ?_) | (with_reducible refine AW.cond ?_) | (with_reducible refine AW.block ?_) | (with_reducible refine AW.ret ?_) | (with_reducible refine AW.exit ?_) | (with_reducible refine AW.skip ?_)
      | ((conv => whnf); (first
         | (with_reducible refine Br.t ?_)
         | (with_reducible refine Br.f ?_)
         | (with_reducible refine Br.mk (fun hb => ?_) (fun hb => ?_) <;> (try rw [hb]) <;> (try simp only [List.length_map, decide_eq_true_eq, decide_eq_false_iff_not, Bool.not_eq_true', Bool.not_eq_false', Int.ofNat_lt, Int.ofNat_le, Int.not_lt, Int.not_le, Int.toNat_natCast] at hb))
         | ((with_reducible refine And.intro ?_ ?_); (focus (first | omega | (intro r hr; simp only [List.mem_singleton] at hr; subst hr; rfl)  | (simp only [in64]; omega) | assumption | (simp; done) | (simp [V.cells]; done) | (simp [in64, maxLen] at *; omega) | rfl)))
         | (intro row hrow; (try simp only [Int.toNat_natCast, List.length_map, toNat_pred, toNat_succ', toNat_zero', toNat_one'] at hrow); (first | (have hsm := same_map (by assumption) hrow; subst hsm; clear hrow) | (obtain ⟨p, hp, rfl⟩ := of_map hrow; clear hrow)))
         | (with_reducible refine AW.seq ?_) | (with_reducible refine AW.region base (by kernel_rfl) ?_) | (with_reducible refine AW.cond ?_) | (with_reducible refine AW.block ?_) | (with_reducible refine AW.ret ?_) | (with_reducible refine AW.exit ?_) | (with_reducible refine AW.skip ?_))))
  refine AW.loop (fun (k : Nat) => k ≤ l.length ∧ placeAt l key = (l.drop k).find? fun p => hasB p.s key) (fun k => { env := [(0, .sl (l.map encP)), (1, .str key), (4, .ptr 0 0), (8, .sl (l.map encP)), (9, .int .i64 (l.map encP).length), (10, .int .i64 k)], cells := [(0, encP zeroP)] }) (fun k => l.length - k) 0 ?_ ?_ ?_
  · exact ⟨Nat.zero_le _, rfl⟩
  · (refine ⟨rfl, ?_, ?_, ?_⟩ <;> (repeat (first | exact trivial | (refine And.intro (And.intro ?_ rfl) ?_; (focus (first | rfl | (simp; done) | (refine congrArg (V.int .i64) ?_; omega)))) | (refine And.intro ⟨_, rfl, rfl, rfl⟩ ?_) | (refine Or.inl ⟨_, _, rfl, rfl, ?_, rfl, ?_⟩; (focus (first | rfl | (simp; done) | assumption ))) | (refine Or.inr ⟨rfl, ?_, ⟨_, ‹_›⟩, ?_⟩; (focus (first | rfl | (simp; done)))))))
  · intro k hk
    repeat' (first
        | (with_reducible refine AW.seq ?_) | (with_reducible refine AW.region base (by kernel_rfl) ?_) | (with_reducible refine AW.cond ?_) | (with_reducible refine AW.block ?_) | (with_reducible refine AW.ret ?_) | (with_reducible refine AW.exit ?_) | (with_reducible refine AW.skip ?_)
        | ((conv => whnf); (first
           | (with_reducible refine Br.t ?_)
           | (with_reducible refine Br.f ?_)
           | (with_reducible refine ⟨_, has_fn _ _, ?_⟩)
           | (with_reducible refine ⟨_, has_fn ⟨_, _⟩ _, ?_⟩)
           | (with_reducible refine Br.mk (fun hb => ?_) (fun hb => ?_) <;> (try rw [hb]) <;> (try simp only [List.length_map, decide_eq_true_eq, decide_eq_false_iff_not, Bool.not_eq_true', Bool.not_eq_false', Int.ofNat_lt, Int.ofNat_le, Int.not_lt, Int.not_le, Int.toNat_natCast] at hb))
           | ((with_reducible refine And.intro ?_ ?_); (focus (first | omega | (intro r hr; simp only [List.mem_singleton] at hr; subst hr; rfl)  | (simp only [in64]; omega) | assumption | (simp; done) | (simp [V.cells]; done) | (simp [in64, maxLen] at *; omega) | rfl)))
           | (intro row hrow; (try simp only [Int.toNat_natCast, List.length_map, toNat_pred, toNat_succ', toNat_zero', toNat_one'] at hrow); (first | (have hsm := same_map (by assumption) hrow; subst hsm; clear hrow) | (obtain ⟨p, hp, rfl⟩ := of_map hrow; clear hrow)))
           | (with_reducible refine AW.seq ?_) | (with_reducible refine AW.region base (by kernel_rfl) ?_) | (with_reducible refine AW.cond ?_) | (with_reducible refine AW.block ?_) | (with_reducible refine AW.ret ?_) | (with_reducible refine AW.exit ?_) | (with_reducible refine AW.skip ?_))))
    all_goals (conv => whnf)
    · simp [hk.2, drop_get hp, hb]
    · refine ⟨k + 1, ⟨?_, ?_⟩, ?_, ?_⟩
      · omega
      · rw [hk.2, drop_get hp]; simp [hb]
      · omega
      · (refine ⟨rfl, ?_, ?_, ?_⟩ <;> (repeat (first | exact trivial | (refine And.intro (And.intro ?_ rfl) ?_; (focus (first | rfl | (simp; done) | (refine congrArg (V.int .i64) ?_; omega)))) | (refine And.intro ⟨_, rfl, rfl, rfl⟩ ?_) | (refine Or.inl ⟨_, _, rfl, rfl, ?_, rfl, ?_⟩; (focus (first | rfl | (simp; done) | assumption ))) | (refine Or.inr ⟨rfl, ?_, ⟨_, ‹_›⟩, ?_⟩; (focus (first | rfl | (simp; done)))))))
    · have : k = l.length := by omega
      simp [hk.2, this]; trivial
end Go.Proofs.Ythcbffejjkmmfaa
