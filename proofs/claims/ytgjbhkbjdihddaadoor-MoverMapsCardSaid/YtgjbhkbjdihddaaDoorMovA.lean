/-
  Walks of package mover: with a plan of one place. No conditions.
-/
import Derived.Test.YtgjbhkbjdihddaaDoorSp
namespace Go.Proofs.YtgjbhkbjdihddaaDoor
open Go.RowKit
set_option linter.unusedSimpArgs false
set_option linter.unusedVariables false

structure JobV where
  ph : Int
  sh : Int
  ep : Int
  fr : Int
  to : Int
  pc : Int
  ps : Int
  key : Bs
  ot : Int
  oe : Int
  a : Int
  b : Int
abbrev encJ (j : JobV) : List V := [.int .i64 j.ph, .int .i64 j.sh, .int .i64 j.ep, .int .i64 j.fr, .int .i64 j.to, .int .i64 j.pc, .int .i64 j.ps, .str j.key, .int .i64 j.ot, .int .i64 j.oe, .int .i64 j.a, .int .i64 j.b]
theorem hasB_all (k : Bs) : hasB ⟨[], []⟩ k = isKeyB k := by
  have h1 : isB ⟨[], []⟩ = true := by simp [isB]
  have h2 : blt k [] = false := by cases k <;> rfl
  unfold hasB
  rw [h1, h2]
  simp

set_option maxRecDepth 100000 in
set_option maxHeartbeats 400000 in
theorem planNew_fn  : Fn Tryd.prog 28 [] (.sl [[.int .i64 1, .int .i64 1, .int .i64 0, .str [], .str []]]) := by
  refine Fn.mk' base Tryd.func28 rfl rfl rfl ?_
  repeat' ((conv => whnf); (first
   | (with_reducible first | refine AW.seq ?_ | refine AW.region base (by kernel_rfl) ?_ | refine AW.cond ?_ | refine AW.block ?_ | refine AW.ret ?_ | refine AW.exit ?_ | refine AW.skip ?_ | refine Br.t ?_ | refine Br.f ?_)
   | (with_reducible refine Br.mkT (fun hb => (by (first | (simp at hb; done) | omega | (simp only [decide_eq_true_eq, decide_eq_false_iff_not, Bool.not_eq_true', Bool.not_eq_false'] at hb; first | omega | fail) | fail))) (fun hb => ?_))
   | (with_reducible refine Br.mkF (fun hb => (by (first | (simp at hb; done) | omega | (simp only [decide_eq_true_eq, decide_eq_false_iff_not, Bool.not_eq_true', Bool.not_eq_false'] at hb; first | omega | fail) | fail))) (fun hb => ?_))
   | ((with_reducible refine Or.inl ?_); (conv => whnf); (with_reducible refine And.intro LitSl.mk ?_))
   | refine Br.t ?_
   | refine Br.f ?_
   | (with_reducible refine Br.mk (fun hb => ?_) (fun hb => ?_) <;> (try rw [hb]) <;> (try simp only [List.length_map, decide_eq_true_eq, decide_eq_false_iff_not, Bool.not_eq_true', Bool.not_eq_false', Int.ofNat_lt, Int.ofNat_le, Int.not_lt, Int.not_le, Int.toNat_natCast] at hb))
   | ((with_reducible first | refine Or.inl (And.intro ?_ ?_) | refine And.intro ?_ ?_); (focus (first | with_reducible rfl | exact trivial | (exact ⟨rfl, trivial⟩) | (exact ⟨rfl, rfl, trivial⟩) | omega | (intro r hr; simp only [List.mem_singleton] at hr; subst hr; rfl)  | ((simp only [in64, maxLen] at *; omega)) | (simp only [in64]; omega) | assumption | (simp; done) | (simp [V.cells]; done) | (simp [in64, maxLen, limK] at *; omega) | ((show confB _ _ = true); kernel_rfl) | rfl)))
   | (intro row hrow; (try simp only [Int.toNat_natCast, List.length_map, toNat_pred, toNat_succ', toNat_zero', toNat_one'] at hrow); (first | (have hsm := same_map (by assumption) hrow; subst hsm; clear hrow) | (obtain ⟨p, hp, rfl⟩ := of_map hrow; clear hrow)))))
  all_goals (conv => whnf)
  all_goals (first | rfl | (simp only [V.bool.injEq, V.tup.injEq, V.agg.injEq, V.str.injEq, V.int.injEq, V.sl.injEq, V.ifc.injEq, List.cons.injEq, and_true, true_and, and_self]; done) | (simp only [V.bool.injEq, V.tup.injEq, V.agg.injEq, V.str.injEq, V.int.injEq, V.sl.injEq, V.ifc.injEq, List.cons.injEq, and_true, true_and, and_self]; grind) | (simp  at *; done) | (simp  at *; grind))

theorem planAt_yes0 (key : Bs) (hk : isKeyB key = true) : Fn Tryd.prog 75 [.agg [.str [], .str []], .str key] (.bool true) := by
  have h := has_fn ⟨[], []⟩ key
  rw [hasB_all, hk] at h; exact h

set_option maxRecDepth 100000 in
set_option maxHeartbeats 400000 in
theorem planAt_yes (e n : Int) (key : Bs) (hk : isKeyB key = true) : Fn Tryd.prog 53 [.sl [[.int .i64 1, .int .i64 e, .int .i64 n, .str [], .str []]], .str key] (.tup [.agg [.int .i64 1, .int .i64 e, .int .i64 n, .str [], .str []], .bool true]) := by
  refine Fn.mk' base Tryd.func53 rfl rfl rfl ?_
  repeat' ((conv => whnf); (first
   | ((with_reducible show AW _ _ _ (Code.loop _) _ _ _); (refine AW.rounds 2 ?_))
   | (with_reducible first | refine AW.seq ?_ | refine AW.region base (by kernel_rfl) ?_ | refine AW.cond ?_ | refine AW.block ?_ | refine AW.ret ?_ | refine AW.exit ?_ | refine AW.skip ?_ | refine Br.t ?_ | refine Br.f ?_)
   | (with_reducible refine Br.mkT (fun hb => (by (first | (simp at hb; done) | (rw [hk] at hb; simp at hb; done) | (simp only [decide_eq_true_eq, decide_eq_false_iff_not] at hb; omega) | fail))) (fun hb => ?_))
   | (with_reducible refine Br.mkF (fun hb => (by (first | (simp at hb; done) | (rw [hk] at hb; simp at hb; done) | (simp only [decide_eq_true_eq, decide_eq_false_iff_not] at hb; omega) | fail))) (fun hb => ?_))
   | ((with_reducible refine Or.inl ?_); (conv => whnf); (with_reducible refine And.intro LitSl.mk ?_))
   | refine Br.t ?_
   | refine Br.f ?_
   | (intro row hrow; have e0 := Option.some.inj (show some _ = some row from hrow); subst e0)
   | ((with_reducible refine Or.inl ?_); (conv => whnf); (first | (with_reducible first | refine ⟨_, planAt_yes0 key hk, ?_⟩)))
   | (with_reducible refine Br.mk (fun hb => ?_) (fun hb => ?_) <;> (try rw [hb]) <;> (try simp only [List.length_map, decide_eq_true_eq, decide_eq_false_iff_not, Bool.not_eq_true', Bool.not_eq_false', Int.ofNat_lt, Int.ofNat_le, Int.not_lt, Int.not_le, Int.toNat_natCast] at hb))
   | ((with_reducible first | refine Or.inl (And.intro ?_ ?_) | refine And.intro ?_ ?_); (focus (first | with_reducible rfl | exact trivial | (exact ⟨rfl, trivial⟩) | (exact ⟨rfl, rfl, trivial⟩) | omega | (intro r hr; simp only [List.mem_singleton] at hr; subst hr; rfl)  | ((simp only [in64, maxLen] at *; omega)) | (simp only [in64]; omega) | assumption | (simp; done) | (simp [V.cells]; done) | (simp [in64, maxLen, limK] at *; omega) | ((show confB _ _ = true); kernel_rfl) | rfl)))
   | (intro row hrow; (try simp only [Int.toNat_natCast, List.length_map, toNat_pred, toNat_succ', toNat_zero', toNat_one'] at hrow); (first | (have hsm := same_map (by assumption) hrow; subst hsm; clear hrow) | (obtain ⟨p, hp, rfl⟩ := of_map hrow; clear hrow)))))
  all_goals (conv => whnf)
  all_goals (first | rfl | (simp only [V.bool.injEq, V.tup.injEq, V.agg.injEq, V.str.injEq, V.int.injEq, V.sl.injEq, V.ifc.injEq, List.cons.injEq, and_true, true_and, and_self]; done) | (simp only [V.bool.injEq, V.tup.injEq, V.agg.injEq, V.str.injEq, V.int.injEq, V.sl.injEq, V.ifc.injEq, List.cons.injEq, and_true, true_and, and_self]; grind) | (simp  at *; done) | (simp  at *; grind))

theorem planAt_no0 (key : Bs) (hk : isKeyB key = false) : Fn Tryd.prog 75 [.agg [.str [], .str []], .str key] (.bool false) := by
  have h := has_fn ⟨[], []⟩ key
  rw [hasB_all, hk] at h; exact h

set_option maxRecDepth 100000 in
set_option maxHeartbeats 400000 in
theorem planAt_no (e n : Int) (key : Bs) (hk : isKeyB key = false) : Fn Tryd.prog 53 [.sl [[.int .i64 1, .int .i64 e, .int .i64 n, .str [], .str []]], .str key] (.tup [.agg [.int .i64 0, .int .i64 0, .int .i64 0, .str [], .str []], .bool false]) := by
  refine Fn.mk' base Tryd.func53 rfl rfl rfl ?_
  repeat' ((conv => whnf); (first
   | ((with_reducible show AW _ _ _ (Code.loop _) _ _ _); (refine AW.rounds 2 ?_))
   | (with_reducible first | refine AW.seq ?_ | refine AW.region base (by kernel_rfl) ?_ | refine AW.cond ?_ | refine AW.block ?_ | refine AW.ret ?_ | refine AW.exit ?_ | refine AW.skip ?_ | refine Br.t ?_ | refine Br.f ?_)
   | (with_reducible refine Br.mkT (fun hb => (by (first | (simp at hb; done) | (rw [hk] at hb; simp at hb; done) | (simp only [decide_eq_true_eq, decide_eq_false_iff_not] at hb; omega) | fail))) (fun hb => ?_))
   | (with_reducible refine Br.mkF (fun hb => (by (first | (simp at hb; done) | (rw [hk] at hb; simp at hb; done) | (simp only [decide_eq_true_eq, decide_eq_false_iff_not] at hb; omega) | fail))) (fun hb => ?_))
   | ((with_reducible refine Or.inl ?_); (conv => whnf); (with_reducible refine And.intro LitSl.mk ?_))
   | refine Br.t ?_
   | refine Br.f ?_
   | (intro row hrow; have e0 := Option.some.inj (show some _ = some row from hrow); subst e0)
   | ((with_reducible refine Or.inl ?_); (conv => whnf); (first | (with_reducible first | refine ⟨_, planAt_no0 key hk, ?_⟩)))
   | (with_reducible refine Br.mk (fun hb => ?_) (fun hb => ?_) <;> (try rw [hb]) <;> (try simp only [List.length_map, decide_eq_true_eq, decide_eq_false_iff_not, Bool.not_eq_true', Bool.not_eq_false', Int.ofNat_lt, Int.ofNat_le, Int.not_lt, Int.not_le, Int.toNat_natCast] at hb))
   | ((with_reducible first | refine Or.inl (And.intro ?_ ?_) | refine And.intro ?_ ?_); (focus (first | with_reducible rfl | exact trivial | (exact ⟨rfl, trivial⟩) | (exact ⟨rfl, rfl, trivial⟩) | omega | (intro r hr; simp only [List.mem_singleton] at hr; subst hr; rfl)  | ((simp only [in64, maxLen] at *; omega)) | (simp only [in64]; omega) | assumption | (simp; done) | (simp [V.cells]; done) | (simp [in64, maxLen, limK] at *; omega) | ((show confB _ _ = true); kernel_rfl) | rfl)))
   | (intro row hrow; (try simp only [Int.toNat_natCast, List.length_map, toNat_pred, toNat_succ', toNat_zero', toNat_one'] at hrow); (first | (have hsm := same_map (by assumption) hrow; subst hsm; clear hrow) | (obtain ⟨p, hp, rfl⟩ := of_map hrow; clear hrow)))))
  all_goals (conv => whnf)
  all_goals (first | rfl | (simp only [V.bool.injEq, V.tup.injEq, V.agg.injEq, V.str.injEq, V.int.injEq, V.sl.injEq, V.ifc.injEq, List.cons.injEq, and_true, true_and, and_self]; done) | (simp only [V.bool.injEq, V.tup.injEq, V.agg.injEq, V.str.injEq, V.int.injEq, V.sl.injEq, V.ifc.injEq, List.cons.injEq, and_true, true_and, and_self]; grind) | (simp  at *; done) | (simp  at *; grind))

set_option maxRecDepth 100000 in
set_option maxHeartbeats 400000 in
theorem find1_fn (id i e n : Int) (f t : Bs) : Fn Tryd.prog 80 [.agg [.int .i64 i, .int .i64 e, .int .i64 n, .str f, .str t], .elt [.int .i64 id] 0] (.bool (decide (i = id))) := by
  refine Fn.mk' base Tryd.func80 rfl rfl rfl ?_
  repeat' ((conv => whnf); (first
   | (with_reducible first | refine AW.seq ?_ | refine AW.region base (by kernel_rfl) ?_ | refine AW.cond ?_ | refine AW.block ?_ | refine AW.ret ?_ | refine AW.exit ?_ | refine AW.skip ?_ | refine Br.t ?_ | refine Br.f ?_)
   | ((with_reducible refine Or.inl ?_); (conv => whnf); (with_reducible refine And.intro LitSl.mk ?_))
   | refine Br.t ?_
   | refine Br.f ?_
   | (with_reducible refine Br.mk (fun hb => ?_) (fun hb => ?_) <;> (try rw [hb]) <;> (try simp only [List.length_map, decide_eq_true_eq, decide_eq_false_iff_not, Bool.not_eq_true', Bool.not_eq_false', Int.ofNat_lt, Int.ofNat_le, Int.not_lt, Int.not_le, Int.toNat_natCast] at hb))
   | ((with_reducible first | refine Or.inl (And.intro ?_ ?_) | refine And.intro ?_ ?_); (focus (first | with_reducible rfl | exact trivial | (exact ⟨rfl, trivial⟩) | (exact ⟨rfl, rfl, trivial⟩) | omega | (intro r hr; simp only [List.mem_singleton] at hr; subst hr; rfl)  | ((simp only [in64, maxLen] at *; omega)) | (simp only [in64]; omega) | assumption | (simp; done) | (simp [V.cells]; done) | (simp [in64, maxLen, limK] at *; omega) | ((show confB _ _ = true); kernel_rfl) | rfl)))
   | (intro row hrow; (try simp only [Int.toNat_natCast, List.length_map, toNat_pred, toNat_succ', toNat_zero', toNat_one'] at hrow); (first | (have hsm := same_map (by assumption) hrow; subst hsm; clear hrow) | (obtain ⟨p, hp, rfl⟩ := of_map hrow; clear hrow)))))
  all_goals (conv => whnf)
  all_goals (first | rfl | (simp only [V.bool.injEq, V.tup.injEq, V.agg.injEq, V.str.injEq, V.int.injEq, V.sl.injEq, V.ifc.injEq, List.cons.injEq, and_true, true_and, and_self]; done) | (simp only [V.bool.injEq, V.tup.injEq, V.agg.injEq, V.str.injEq, V.int.injEq, V.sl.injEq, V.ifc.injEq, List.cons.injEq, and_true, true_and, and_self]; grind) | (simp  at *; done) | (simp  at *; grind))

set_option maxRecDepth 100000 in
set_option maxHeartbeats 400000 in
theorem findIx_fn (e n : Int) : Fn Tryd.prog 79 [.sl [[.int .i64 1, .int .i64 e, .int .i64 n, .str [], .str []]], .fn 80 [.elt [.int .i64 1] 0]] (.int .i64 0) := by
  refine Fn.mk' base Tryd.func79 rfl rfl rfl ?_
  repeat' ((conv => whnf); (first
   | ((with_reducible show AW _ _ _ (Code.loop _) _ _ _); (refine AW.rounds 2 ?_))
   | (with_reducible first | refine AW.seq ?_ | refine AW.region base (by kernel_rfl) ?_ | refine AW.cond ?_ | refine AW.block ?_ | refine AW.ret ?_ | refine AW.exit ?_ | refine AW.skip ?_ | refine Br.t ?_ | refine Br.f ?_)
   | (with_reducible refine Br.mkT (fun hb => (by (first | (simp at hb; done) | omega | (simp only [decide_eq_true_eq, decide_eq_false_iff_not, Bool.not_eq_true', Bool.not_eq_false'] at hb; first | omega | fail) | fail))) (fun hb => ?_))
   | (with_reducible refine Br.mkF (fun hb => (by (first | (simp at hb; done) | omega | (simp only [decide_eq_true_eq, decide_eq_false_iff_not, Bool.not_eq_true', Bool.not_eq_false'] at hb; first | omega | fail) | fail))) (fun hb => ?_))
   | ((with_reducible refine Or.inl ?_); (conv => whnf); (with_reducible refine And.intro LitSl.mk ?_))
   | refine Br.t ?_
   | refine Br.f ?_
   | (intro row hrow; have e0 := Option.some.inj (show some _ = some row from hrow); subst e0)
   | ((with_reducible refine Or.inl ?_); (conv => whnf); (first | (with_reducible first | refine ⟨_, find1_fn 1 1 e n [] [], ?_⟩)))
   | (with_reducible refine Br.mk (fun hb => ?_) (fun hb => ?_) <;> (try rw [hb]) <;> (try simp only [List.length_map, decide_eq_true_eq, decide_eq_false_iff_not, Bool.not_eq_true', Bool.not_eq_false', Int.ofNat_lt, Int.ofNat_le, Int.not_lt, Int.not_le, Int.toNat_natCast] at hb))
   | ((with_reducible first | refine Or.inl (And.intro ?_ ?_) | refine And.intro ?_ ?_); (focus (first | with_reducible rfl | exact trivial | (exact ⟨rfl, trivial⟩) | (exact ⟨rfl, rfl, trivial⟩) | omega | (intro r hr; simp only [List.mem_singleton] at hr; subst hr; rfl)  | ((simp only [in64, maxLen] at *; omega)) | (simp only [in64]; omega) | assumption | (simp; done) | (simp [V.cells]; done) | (simp [in64, maxLen, limK] at *; omega) | ((show confB _ _ = true); kernel_rfl) | rfl)))
   | (intro row hrow; (try simp only [Int.toNat_natCast, List.length_map, toNat_pred, toNat_succ', toNat_zero', toNat_one'] at hrow); (first | (have hsm := same_map (by assumption) hrow; subst hsm; clear hrow) | (obtain ⟨p, hp, rfl⟩ := of_map hrow; clear hrow)))))
  all_goals (conv => whnf)
  all_goals (first | rfl | (simp only [V.bool.injEq, V.tup.injEq, V.agg.injEq, V.str.injEq, V.int.injEq, V.sl.injEq, V.ifc.injEq, List.cons.injEq, and_true, true_and, and_self]; done) | (simp only [V.bool.injEq, V.tup.injEq, V.agg.injEq, V.str.injEq, V.int.injEq, V.sl.injEq, V.ifc.injEq, List.cons.injEq, and_true, true_and, and_self]; grind) | (simp  at *; done) | (simp  at *; grind))

set_option maxRecDepth 100000 in
set_option maxHeartbeats 400000 in
theorem find_fn (e n : Int) : Fn Tryd.prog 69 [.sl [[.int .i64 1, .int .i64 e, .int .i64 n, .str [], .str []]], .int .i64 1] (.int .i64 0) := by
  refine Fn.mk' base Tryd.func69 rfl rfl rfl ?_
  repeat' ((conv => whnf); (first
   | (with_reducible first | refine AW.seq ?_ | refine AW.region base (by kernel_rfl) ?_ | refine AW.cond ?_ | refine AW.block ?_ | refine AW.ret ?_ | refine AW.exit ?_ | refine AW.skip ?_ | refine Br.t ?_ | refine Br.f ?_)
   | (with_reducible refine Br.mkT (fun hb => (by (first | (simp at hb; done) | omega | (simp only [decide_eq_true_eq, decide_eq_false_iff_not, Bool.not_eq_true', Bool.not_eq_false'] at hb; first | omega | fail) | fail))) (fun hb => ?_))
   | (with_reducible refine Br.mkF (fun hb => (by (first | (simp at hb; done) | omega | (simp only [decide_eq_true_eq, decide_eq_false_iff_not, Bool.not_eq_true', Bool.not_eq_false'] at hb; first | omega | fail) | fail))) (fun hb => ?_))
   | ((with_reducible refine Or.inl ?_); (conv => whnf); (with_reducible refine And.intro LitSl.mk ?_))
   | refine Br.t ?_
   | refine Br.f ?_
   | (intro row hrow; have e0 := Option.some.inj (show some _ = some row from hrow); subst e0)
   | ((with_reducible refine Or.inl ?_); (conv => whnf); (first | (with_reducible first | refine ⟨_, findIx_fn e n, ?_⟩)))
   | (with_reducible refine Br.mk (fun hb => ?_) (fun hb => ?_) <;> (try rw [hb]) <;> (try simp only [List.length_map, decide_eq_true_eq, decide_eq_false_iff_not, Bool.not_eq_true', Bool.not_eq_false', Int.ofNat_lt, Int.ofNat_le, Int.not_lt, Int.not_le, Int.toNat_natCast] at hb))
   | ((with_reducible first | refine Or.inl (And.intro ?_ ?_) | refine And.intro ?_ ?_); (focus (first | with_reducible rfl | exact trivial | (exact ⟨rfl, trivial⟩) | (exact ⟨rfl, rfl, trivial⟩) | omega | (intro r hr; simp only [List.mem_singleton] at hr; subst hr; rfl)  | ((simp only [in64, maxLen] at *; omega)) | (simp only [in64]; omega) | assumption | (simp; done) | (simp [V.cells]; done) | (simp [in64, maxLen, limK] at *; omega) | ((show confB _ _ = true); kernel_rfl) | rfl)))
   | (intro row hrow; (try simp only [Int.toNat_natCast, List.length_map, toNat_pred, toNat_succ', toNat_zero', toNat_one'] at hrow); (first | (have hsm := same_map (by assumption) hrow; subst hsm; clear hrow) | (obtain ⟨p, hp, rfl⟩ := of_map hrow; clear hrow)))))
  all_goals (conv => whnf)
  all_goals (first | rfl | (simp only [V.bool.injEq, V.tup.injEq, V.agg.injEq, V.str.injEq, V.int.injEq, V.sl.injEq, V.ifc.injEq, List.cons.injEq, and_true, true_and, and_self]; done) | (simp only [V.bool.injEq, V.tup.injEq, V.agg.injEq, V.str.injEq, V.int.injEq, V.sl.injEq, V.ifc.injEq, List.cons.injEq, and_true, true_and, and_self]; grind) | (simp  at *; done) | (simp  at *; grind))

set_option maxRecDepth 100000 in
set_option maxHeartbeats 400000 in
theorem above_fn (e n : Int) : Fn Tryd.prog 49 [.sl [[.int .i64 1, .int .i64 e, .int .i64 n, .str [], .str []]], .int .i64 1] (.tup [.agg [.int .i64 0, .int .i64 0, .int .i64 0, .str [], .str []], .bool false]) := by
  refine Fn.mk' base Tryd.func49 rfl rfl rfl ?_
  repeat' ((conv => whnf); (first
   | (with_reducible first | refine AW.seq ?_ | refine AW.region base (by kernel_rfl) ?_ | refine AW.cond ?_ | refine AW.block ?_ | refine AW.ret ?_ | refine AW.exit ?_ | refine AW.skip ?_ | refine Br.t ?_ | refine Br.f ?_)
   | (with_reducible refine Br.mkT (fun hb => (by (first | (simp at hb; done) | omega | (simp only [decide_eq_true_eq, decide_eq_false_iff_not, Bool.not_eq_true', Bool.not_eq_false'] at hb; first | omega | fail) | fail))) (fun hb => ?_))
   | (with_reducible refine Br.mkF (fun hb => (by (first | (simp at hb; done) | omega | (simp only [decide_eq_true_eq, decide_eq_false_iff_not, Bool.not_eq_true', Bool.not_eq_false'] at hb; first | omega | fail) | fail))) (fun hb => ?_))
   | ((with_reducible refine Or.inl ?_); (conv => whnf); (with_reducible refine And.intro LitSl.mk ?_))
   | refine Br.t ?_
   | refine Br.f ?_
   | (intro row hrow; have e0 := Option.some.inj (show some _ = some row from hrow); subst e0)
   | ((with_reducible refine Or.inl ?_); (conv => whnf); (first | (with_reducible first | refine ⟨_, find_fn e n, ?_⟩)))
   | (with_reducible refine Br.mk (fun hb => ?_) (fun hb => ?_) <;> (try rw [hb]) <;> (try simp only [List.length_map, decide_eq_true_eq, decide_eq_false_iff_not, Bool.not_eq_true', Bool.not_eq_false', Int.ofNat_lt, Int.ofNat_le, Int.not_lt, Int.not_le, Int.toNat_natCast] at hb))
   | ((with_reducible first | refine Or.inl (And.intro ?_ ?_) | refine And.intro ?_ ?_); (focus (first | with_reducible rfl | exact trivial | (exact ⟨rfl, trivial⟩) | (exact ⟨rfl, rfl, trivial⟩) | omega | (intro r hr; simp only [List.mem_singleton] at hr; subst hr; rfl)  | ((simp only [in64, maxLen] at *; omega)) | (simp only [in64]; omega) | assumption | (simp; done) | (simp [V.cells]; done) | (simp [in64, maxLen, limK] at *; omega) | ((show confB _ _ = true); kernel_rfl) | rfl)))
   | (intro row hrow; (try simp only [Int.toNat_natCast, List.length_map, toNat_pred, toNat_succ', toNat_zero', toNat_one'] at hrow); (first | (have hsm := same_map (by assumption) hrow; subst hsm; clear hrow) | (obtain ⟨p, hp, rfl⟩ := of_map hrow; clear hrow)))))
  all_goals (conv => whnf)
  all_goals (first | rfl | (simp only [V.bool.injEq, V.tup.injEq, V.agg.injEq, V.str.injEq, V.int.injEq, V.sl.injEq, V.ifc.injEq, List.cons.injEq, and_true, true_and, and_self]; done) | (simp only [V.bool.injEq, V.tup.injEq, V.agg.injEq, V.str.injEq, V.int.injEq, V.sl.injEq, V.ifc.injEq, List.cons.injEq, and_true, true_and, and_self]; grind) | (simp  at *; done) | (simp  at *; grind))

set_option maxRecDepth 100000 in
set_option maxHeartbeats 400000 in
theorem moverNew_fn  : FnM Tryd.prog 9 [] [] (.ptr 0 0) [.cells [.sl [[.int .i64 1, .int .i64 1, .int .i64 0, .str [], .str []]], .int .i64 0, .int .i64 0, .int .i64 0, .int .i64 0, .int .i64 0, .int .i64 0, .int .i64 0, .str [], .int .i64 0, .int .i64 0, .int .i64 0, .int .i64 0, .int .i64 2, .nils, .int .i64 0]] := by
  refine FnM.mk' base Tryd.func9 rfl rfl rfl rfl ?_
  repeat' ((conv => whnf); (first
   | (with_reducible first | refine AW.seq ?_ | refine AW.region base (by kernel_rfl) ?_ | refine AW.cond ?_ | refine AW.block ?_ | refine AW.ret ?_ | refine AW.exit ?_ | refine AW.skip ?_ | refine Br.t ?_ | refine Br.f ?_)
   | (with_reducible refine Br.mkT (fun hb => (by (first | (simp at hb; done) | omega | (simp only [decide_eq_true_eq, decide_eq_false_iff_not, Bool.not_eq_true', Bool.not_eq_false'] at hb; first | omega | fail) | fail))) (fun hb => ?_))
   | (with_reducible refine Br.mkF (fun hb => (by (first | (simp at hb; done) | omega | (simp only [decide_eq_true_eq, decide_eq_false_iff_not, Bool.not_eq_true', Bool.not_eq_false'] at hb; first | omega | fail) | fail))) (fun hb => ?_))
   | ((with_reducible refine Or.inl ?_); (conv => whnf); (with_reducible refine And.intro LitSl.mk ?_))
   | refine Br.t ?_
   | refine Br.f ?_
   | ((with_reducible refine Or.inl ?_); (conv => whnf); (first | (with_reducible first | refine ⟨_, planNew_fn, ?_⟩)))
   | (with_reducible refine Br.mk (fun hb => ?_) (fun hb => ?_) <;> (try rw [hb]) <;> (try simp only [List.length_map, decide_eq_true_eq, decide_eq_false_iff_not, Bool.not_eq_true', Bool.not_eq_false', Int.ofNat_lt, Int.ofNat_le, Int.not_lt, Int.not_le, Int.toNat_natCast] at hb))
   | ((with_reducible first | refine Or.inl (And.intro ?_ ?_) | refine And.intro ?_ ?_); (focus (first | with_reducible rfl | exact trivial | (exact ⟨rfl, trivial⟩) | (exact ⟨rfl, rfl, trivial⟩) | omega | (intro r hr; simp only [List.mem_singleton] at hr; subst hr; rfl)  | ((simp only [in64, maxLen] at *; omega)) | (simp only [in64]; omega) | assumption | (simp; done) | (simp [V.cells]; done) | (simp [in64, maxLen, limK] at *; omega) | ((show confB _ _ = true); kernel_rfl) | rfl)))
   | (intro row hrow; (try simp only [Int.toNat_natCast, List.length_map, toNat_pred, toNat_succ', toNat_zero', toNat_one'] at hrow); (first | (have hsm := same_map (by assumption) hrow; subst hsm; clear hrow) | (obtain ⟨p, hp, rfl⟩ := of_map hrow; clear hrow)))))
  all_goals (conv => whnf)
  all_goals (refine ⟨[?_], ?_⟩)
  all_goals (repeat' (first | (with_reducible rfl) | exact trivial | ((conv => whnf); (first | (with_reducible refine And.intro ?_ ?_) | exact trivial | (intro hb; first | (exfalso; simp_all; done) | skip)))))
  all_goals (first | rfl)

set_option maxRecDepth 100000 in
set_option maxHeartbeats 400000 in
theorem job_fn (e n nx tc : Int) (j : JobV)  : FnM Tryd.prog 18 [.ptr 0 0] [.cells [.sl [[.int .i64 1, .int .i64 e, .int .i64 n, .str [], .str []]], .int .i64 j.ph, .int .i64 j.sh, .int .i64 j.ep, .int .i64 j.fr, .int .i64 j.to, .int .i64 j.pc, .int .i64 j.ps, .str j.key, .int .i64 j.ot, .int .i64 j.oe, .int .i64 j.a, .int .i64 j.b, .int .i64 nx, .nils, .int .i64 tc]] (.agg (encJ j)) [.cells [.sl [[.int .i64 1, .int .i64 e, .int .i64 n, .str [], .str []]], .int .i64 j.ph, .int .i64 j.sh, .int .i64 j.ep, .int .i64 j.fr, .int .i64 j.to, .int .i64 j.pc, .int .i64 j.ps, .str j.key, .int .i64 j.ot, .int .i64 j.oe, .int .i64 j.a, .int .i64 j.b, .int .i64 nx, .nils, .int .i64 tc]] := by
  refine FnM.mk' base Tryd.func18 rfl rfl rfl rfl ?_
  repeat' ((conv => whnf); (first
   | (with_reducible first | refine AW.seq ?_ | refine AW.region base (by kernel_rfl) ?_ | refine AW.cond ?_ | refine AW.block ?_ | refine AW.ret ?_ | refine AW.exit ?_ | refine AW.skip ?_ | refine Br.t ?_ | refine Br.f ?_)
   | (with_reducible refine Br.mkT (fun hb => (by (first | (simp at hb; done) | omega | (simp only [decide_eq_true_eq, decide_eq_false_iff_not, Bool.not_eq_true', Bool.not_eq_false'] at hb; first | omega | fail) | fail))) (fun hb => ?_))
   | (with_reducible refine Br.mkF (fun hb => (by (first | (simp at hb; done) | omega | (simp only [decide_eq_true_eq, decide_eq_false_iff_not, Bool.not_eq_true', Bool.not_eq_false'] at hb; first | omega | fail) | fail))) (fun hb => ?_))
   | ((with_reducible refine Or.inl ?_); (conv => whnf); (with_reducible refine And.intro LitSl.mk ?_))
   | refine Br.t ?_
   | refine Br.f ?_
   | (with_reducible refine Br.mk (fun hb => ?_) (fun hb => ?_) <;> (try rw [hb]) <;> (try simp only [List.length_map, decide_eq_true_eq, decide_eq_false_iff_not, Bool.not_eq_true', Bool.not_eq_false', Int.ofNat_lt, Int.ofNat_le, Int.not_lt, Int.not_le, Int.toNat_natCast] at hb))
   | ((with_reducible first | refine Or.inl (And.intro ?_ ?_) | refine And.intro ?_ ?_); (focus (first | with_reducible rfl | exact trivial | (exact ⟨rfl, trivial⟩) | (exact ⟨rfl, rfl, trivial⟩) | omega | (intro r hr; simp only [List.mem_singleton] at hr; subst hr; rfl)  | ((simp only [in64, maxLen] at *; omega)) | (simp only [in64]; omega) | assumption | (simp; done) | (simp [V.cells]; done) | (simp [in64, maxLen, limK] at *; omega) | ((show confB _ _ = true); kernel_rfl) | rfl)))
   | (intro row hrow; (try simp only [Int.toNat_natCast, List.length_map, toNat_pred, toNat_succ', toNat_zero', toNat_one'] at hrow); (first | (have hsm := same_map (by assumption) hrow; subst hsm; clear hrow) | (obtain ⟨p, hp, rfl⟩ := of_map hrow; clear hrow)))))
  all_goals (conv => whnf)
  all_goals (refine ⟨[0], ?_⟩)
  all_goals (repeat' (first | (with_reducible rfl) | exact trivial | ((conv => whnf); (first | (with_reducible refine And.intro ?_ ?_) | exact trivial | (intro hb; first | (exfalso; simp_all; done) | skip)))))
  all_goals (first | rfl)

set_option maxRecDepth 100000 in
set_option maxHeartbeats 400000 in
theorem free_idle (e n nx tc : Int) (j : JobV) : FnM Tryd.prog 52 [.ptr 0 0] [.cells [.sl [[.int .i64 1, .int .i64 e, .int .i64 n, .str [], .str []]], .int .i64 0, .int .i64 j.sh, .int .i64 j.ep, .int .i64 j.fr, .int .i64 j.to, .int .i64 j.pc, .int .i64 j.ps, .str j.key, .int .i64 j.ot, .int .i64 j.oe, .int .i64 j.a, .int .i64 j.b, .int .i64 nx, .nils, .int .i64 tc]] (noErr) [.cells [.sl [[.int .i64 1, .int .i64 e, .int .i64 n, .str [], .str []]], .int .i64 0, .int .i64 j.sh, .int .i64 j.ep, .int .i64 j.fr, .int .i64 j.to, .int .i64 j.pc, .int .i64 j.ps, .str j.key, .int .i64 j.ot, .int .i64 j.oe, .int .i64 j.a, .int .i64 j.b, .int .i64 nx, .nils, .int .i64 tc]] := by
  refine FnM.mk' base Tryd.func52 rfl rfl rfl rfl ?_
  repeat' ((conv => whnf); (first
   | (with_reducible first | refine AW.seq ?_ | refine AW.region base (by kernel_rfl) ?_ | refine AW.cond ?_ | refine AW.block ?_ | refine AW.ret ?_ | refine AW.exit ?_ | refine AW.skip ?_ | refine Br.t ?_ | refine Br.f ?_)
   | (with_reducible refine Br.mkT (fun hb => (by (first | (simp at hb; done) | omega | (simp only [decide_eq_true_eq, decide_eq_false_iff_not, Bool.not_eq_true', Bool.not_eq_false'] at hb; first | omega | fail) | fail))) (fun hb => ?_))
   | (with_reducible refine Br.mkF (fun hb => (by (first | (simp at hb; done) | omega | (simp only [decide_eq_true_eq, decide_eq_false_iff_not, Bool.not_eq_true', Bool.not_eq_false'] at hb; first | omega | fail) | fail))) (fun hb => ?_))
   | ((with_reducible refine Or.inl ?_); (conv => whnf); (with_reducible refine And.intro LitSl.mk ?_))
   | refine Br.t ?_
   | refine Br.f ?_
   | (with_reducible refine Br.mk (fun hb => ?_) (fun hb => ?_) <;> (try rw [hb]) <;> (try simp only [List.length_map, decide_eq_true_eq, decide_eq_false_iff_not, Bool.not_eq_true', Bool.not_eq_false', Int.ofNat_lt, Int.ofNat_le, Int.not_lt, Int.not_le, Int.toNat_natCast] at hb))
   | ((with_reducible first | refine Or.inl (And.intro ?_ ?_) | refine And.intro ?_ ?_); (focus (first | with_reducible rfl | exact trivial | (exact ⟨rfl, trivial⟩) | (exact ⟨rfl, rfl, trivial⟩) | omega | (intro r hr; simp only [List.mem_singleton] at hr; subst hr; rfl)  | ((simp only [in64, maxLen] at *; omega)) | (simp only [in64]; omega) | assumption | (simp; done) | (simp [V.cells]; done) | (simp [in64, maxLen, limK] at *; omega) | ((show confB _ _ = true); kernel_rfl) | rfl)))
   | (intro row hrow; (try simp only [Int.toNat_natCast, List.length_map, toNat_pred, toNat_succ', toNat_zero', toNat_one'] at hrow); (first | (have hsm := same_map (by assumption) hrow; subst hsm; clear hrow) | (obtain ⟨p, hp, rfl⟩ := of_map hrow; clear hrow)))))
  all_goals (conv => whnf)
  all_goals (refine ⟨[0], ?_⟩)
  all_goals (repeat' (first | (with_reducible rfl) | exact trivial | ((conv => whnf); (first | (with_reducible refine And.intro ?_ ?_) | exact trivial | (intro hb; first | (exfalso; simp_all; done) | skip)))))
  all_goals (first | rfl)

set_option maxRecDepth 100000 in
set_option maxHeartbeats 400000 in
theorem free_busy (e n nx tc : Int) (j : JobV) (hj : ¬ j.ph = 0) : FnM Tryd.prog 52 [.ptr 0 0] [.cells [.sl [[.int .i64 1, .int .i64 e, .int .i64 n, .str [], .str []]], .int .i64 j.ph, .int .i64 j.sh, .int .i64 j.ep, .int .i64 j.fr, .int .i64 j.to, .int .i64 j.pc, .int .i64 j.ps, .str j.key, .int .i64 j.ot, .int .i64 j.oe, .int .i64 j.a, .int .i64 j.b, .int .i64 nx, .nils, .int .i64 tc]] (errV [] 20) [.cells [.sl [[.int .i64 1, .int .i64 e, .int .i64 n, .str [], .str []]], .int .i64 j.ph, .int .i64 j.sh, .int .i64 j.ep, .int .i64 j.fr, .int .i64 j.to, .int .i64 j.pc, .int .i64 j.ps, .str j.key, .int .i64 j.ot, .int .i64 j.oe, .int .i64 j.a, .int .i64 j.b, .int .i64 nx, .nils, .int .i64 tc]] := by
  refine FnM.mk' base Tryd.func52 rfl rfl rfl rfl ?_
  repeat' ((conv => whnf); (first
   | (with_reducible first | refine AW.seq ?_ | refine AW.region base (by kernel_rfl) ?_ | refine AW.cond ?_ | refine AW.block ?_ | refine AW.ret ?_ | refine AW.exit ?_ | refine AW.skip ?_ | refine Br.t ?_ | refine Br.f ?_)
   | (with_reducible refine Br.mkT (fun hb => (by (first | (simp at hb; done) | omega | (simp only [decide_eq_true_eq, decide_eq_false_iff_not, Bool.not_eq_true', Bool.not_eq_false'] at hb; first | omega | fail) | fail))) (fun hb => ?_))
   | (with_reducible refine Br.mkF (fun hb => (by (first | (simp at hb; done) | omega | (simp only [decide_eq_true_eq, decide_eq_false_iff_not, Bool.not_eq_true', Bool.not_eq_false'] at hb; first | omega | fail) | fail))) (fun hb => ?_))
   | ((with_reducible refine Or.inl ?_); (conv => whnf); (with_reducible refine And.intro LitSl.mk ?_))
   | refine Br.t ?_
   | refine Br.f ?_
   | (with_reducible refine Br.mk (fun hb => ?_) (fun hb => ?_) <;> (try rw [hb]) <;> (try simp only [List.length_map, decide_eq_true_eq, decide_eq_false_iff_not, Bool.not_eq_true', Bool.not_eq_false', Int.ofNat_lt, Int.ofNat_le, Int.not_lt, Int.not_le, Int.toNat_natCast] at hb))
   | ((with_reducible first | refine Or.inl (And.intro ?_ ?_) | refine And.intro ?_ ?_); (focus (first | with_reducible rfl | exact trivial | (exact ⟨rfl, trivial⟩) | (exact ⟨rfl, rfl, trivial⟩) | omega | (intro r hr; simp only [List.mem_singleton] at hr; subst hr; rfl)  | ((simp only [in64, maxLen] at *; omega)) | (simp only [in64]; omega) | assumption | (simp; done) | (simp [V.cells]; done) | (simp [in64, maxLen, limK] at *; omega) | ((show confB _ _ = true); kernel_rfl) | rfl)))
   | (intro row hrow; (try simp only [Int.toNat_natCast, List.length_map, toNat_pred, toNat_succ', toNat_zero', toNat_one'] at hrow); (first | (have hsm := same_map (by assumption) hrow; subst hsm; clear hrow) | (obtain ⟨p, hp, rfl⟩ := of_map hrow; clear hrow)))))
  all_goals (conv => whnf)
  all_goals (refine ⟨[0], ?_⟩)
  all_goals (repeat' (first | (with_reducible rfl) | exact trivial | ((conv => whnf); (first | (with_reducible refine And.intro ?_ ?_) | exact trivial | (intro hb; first | (exfalso; simp_all; done) | skip)))))
  all_goals (first | rfl)

set_option maxRecDepth 100000 in
set_option maxHeartbeats 400000 in
theorem at_yes (e n nx tc : Int) (j : JobV) (key : Bs) (hk : isKeyB key = true) : FnM Tryd.prog 30 [.ptr 0 0, .str key] [.cells [.sl [[.int .i64 1, .int .i64 e, .int .i64 n, .str [], .str []]], .int .i64 0, .int .i64 j.sh, .int .i64 j.ep, .int .i64 j.fr, .int .i64 j.to, .int .i64 j.pc, .int .i64 j.ps, .str j.key, .int .i64 j.ot, .int .i64 j.oe, .int .i64 j.a, .int .i64 j.b, .int .i64 nx, .nils, .int .i64 tc]] (.tup [.agg [.int .i64 1, .int .i64 e, .int .i64 n, .str [], .str []], noErr]) [.cells [.sl [[.int .i64 1, .int .i64 e, .int .i64 n, .str [], .str []]], .int .i64 0, .int .i64 j.sh, .int .i64 j.ep, .int .i64 j.fr, .int .i64 j.to, .int .i64 j.pc, .int .i64 j.ps, .str j.key, .int .i64 j.ot, .int .i64 j.oe, .int .i64 j.a, .int .i64 j.b, .int .i64 nx, .nils, .int .i64 tc]] := by
  refine FnM.mk' base Tryd.func30 rfl rfl rfl rfl ?_
  repeat' ((conv => whnf); (first
   | (with_reducible first | refine AW.seq ?_ | refine AW.region base (by kernel_rfl) ?_ | refine AW.cond ?_ | refine AW.block ?_ | refine AW.ret ?_ | refine AW.exit ?_ | refine AW.skip ?_ | refine Br.t ?_ | refine Br.f ?_)
   | (with_reducible refine Br.mkT (fun hb => (by (first | (simp at hb; done) | omega | (simp only [decide_eq_true_eq, decide_eq_false_iff_not, Bool.not_eq_true', Bool.not_eq_false'] at hb; first | omega | fail) | fail))) (fun hb => ?_))
   | (with_reducible refine Br.mkF (fun hb => (by (first | (simp at hb; done) | omega | (simp only [decide_eq_true_eq, decide_eq_false_iff_not, Bool.not_eq_true', Bool.not_eq_false'] at hb; first | omega | fail) | fail))) (fun hb => ?_))
   | ((with_reducible refine Or.inl ?_); (conv => whnf); (with_reducible refine And.intro LitSl.mk ?_))
   | refine Br.t ?_
   | refine Br.f ?_
   | ((with_reducible refine Or.inl ?_); (conv => whnf); (first | (with_reducible first | refine ⟨_, planAt_yes e n key hk, ?_⟩ | refine ⟨_, isE_nil _, ?_⟩) | refine ⟨_, isE_fn [] 20 _, ?_⟩))
   | (with_reducible refine Or.inr ⟨[?_], _, _, _, _, free_idle e n nx tc j, ?_⟩)
   | (with_reducible refine Or.inr (Or.inr ⟨[?_], _, _, _, _, free_idle e n nx tc j, ?_⟩))
   | (with_reducible refine Br.mk (fun hb => ?_) (fun hb => ?_) <;> (try rw [hb]) <;> (try simp only [List.length_map, decide_eq_true_eq, decide_eq_false_iff_not, Bool.not_eq_true', Bool.not_eq_false', Int.ofNat_lt, Int.ofNat_le, Int.not_lt, Int.not_le, Int.toNat_natCast] at hb))
   | ((with_reducible first | refine Or.inl (And.intro ?_ ?_) | refine And.intro ?_ ?_); (focus (first | with_reducible rfl | exact trivial | (exact ⟨rfl, trivial⟩) | (exact ⟨rfl, rfl, trivial⟩) | omega | (intro r hr; simp only [List.mem_singleton] at hr; subst hr; rfl)  | ((simp only [in64, maxLen] at *; omega)) | (simp only [in64]; omega) | assumption | (simp; done) | (simp [V.cells]; done) | (simp [in64, maxLen, limK] at *; omega) | ((show confB _ _ = true); kernel_rfl) | rfl)))
   | (intro row hrow; (try simp only [Int.toNat_natCast, List.length_map, toNat_pred, toNat_succ', toNat_zero', toNat_one'] at hrow); (first | (have hsm := same_map (by assumption) hrow; subst hsm; clear hrow) | (obtain ⟨p, hp, rfl⟩ := of_map hrow; clear hrow)))))
  all_goals (conv => whnf)
  all_goals (refine ⟨[0], ?_⟩)
  all_goals (repeat' (first | (with_reducible rfl) | exact trivial | ((conv => whnf); (first | (with_reducible refine And.intro ?_ ?_) | exact trivial | (intro hb; first | (exfalso; simp_all; done) | skip)))))
  all_goals (first | rfl)

set_option maxRecDepth 100000 in
set_option maxHeartbeats 400000 in
theorem at_no (e n nx tc : Int) (j : JobV) (key : Bs) (hk : isKeyB key = false) : FnM Tryd.prog 30 [.ptr 0 0, .str key] [.cells [.sl [[.int .i64 1, .int .i64 e, .int .i64 n, .str [], .str []]], .int .i64 0, .int .i64 j.sh, .int .i64 j.ep, .int .i64 j.fr, .int .i64 j.to, .int .i64 j.pc, .int .i64 j.ps, .str j.key, .int .i64 j.ot, .int .i64 j.oe, .int .i64 j.a, .int .i64 j.b, .int .i64 nx, .nils, .int .i64 tc]] (.tup [.agg [.int .i64 0, .int .i64 0, .int .i64 0, .str [], .str []], errV [] 14]) [.cells [.sl [[.int .i64 1, .int .i64 e, .int .i64 n, .str [], .str []]], .int .i64 0, .int .i64 j.sh, .int .i64 j.ep, .int .i64 j.fr, .int .i64 j.to, .int .i64 j.pc, .int .i64 j.ps, .str j.key, .int .i64 j.ot, .int .i64 j.oe, .int .i64 j.a, .int .i64 j.b, .int .i64 nx, .nils, .int .i64 tc]] := by
  refine FnM.mk' base Tryd.func30 rfl rfl rfl rfl ?_
  repeat' ((conv => whnf); (first
   | (with_reducible first | refine AW.seq ?_ | refine AW.region base (by kernel_rfl) ?_ | refine AW.cond ?_ | refine AW.block ?_ | refine AW.ret ?_ | refine AW.exit ?_ | refine AW.skip ?_ | refine Br.t ?_ | refine Br.f ?_)
   | (with_reducible refine Br.mkT (fun hb => (by (first | (simp at hb; done) | omega | (simp only [decide_eq_true_eq, decide_eq_false_iff_not, Bool.not_eq_true', Bool.not_eq_false'] at hb; first | omega | fail) | fail))) (fun hb => ?_))
   | (with_reducible refine Br.mkF (fun hb => (by (first | (simp at hb; done) | omega | (simp only [decide_eq_true_eq, decide_eq_false_iff_not, Bool.not_eq_true', Bool.not_eq_false'] at hb; first | omega | fail) | fail))) (fun hb => ?_))
   | ((with_reducible refine Or.inl ?_); (conv => whnf); (with_reducible refine And.intro LitSl.mk ?_))
   | refine Br.t ?_
   | refine Br.f ?_
   | ((with_reducible refine Or.inl ?_); (conv => whnf); (first | (with_reducible first | refine ⟨_, planAt_no e n key hk, ?_⟩ | refine ⟨_, isE_nil _, ?_⟩) | refine ⟨_, isE_fn [] 20 _, ?_⟩))
   | (with_reducible refine Or.inr ⟨[?_], _, _, _, _, free_idle e n nx tc j, ?_⟩)
   | (with_reducible refine Or.inr (Or.inr ⟨[?_], _, _, _, _, free_idle e n nx tc j, ?_⟩))
   | (with_reducible refine Br.mk (fun hb => ?_) (fun hb => ?_) <;> (try rw [hb]) <;> (try simp only [List.length_map, decide_eq_true_eq, decide_eq_false_iff_not, Bool.not_eq_true', Bool.not_eq_false', Int.ofNat_lt, Int.ofNat_le, Int.not_lt, Int.not_le, Int.toNat_natCast] at hb))
   | ((with_reducible first | refine Or.inl (And.intro ?_ ?_) | refine And.intro ?_ ?_); (focus (first | with_reducible rfl | exact trivial | (exact ⟨rfl, trivial⟩) | (exact ⟨rfl, rfl, trivial⟩) | omega | (intro r hr; simp only [List.mem_singleton] at hr; subst hr; rfl)  | ((simp only [in64, maxLen] at *; omega)) | (simp only [in64]; omega) | assumption | (simp; done) | (simp [V.cells]; done) | (simp [in64, maxLen, limK] at *; omega) | ((show confB _ _ = true); kernel_rfl) | rfl)))
   | (intro row hrow; (try simp only [Int.toNat_natCast, List.length_map, toNat_pred, toNat_succ', toNat_zero', toNat_one'] at hrow); (first | (have hsm := same_map (by assumption) hrow; subst hsm; clear hrow) | (obtain ⟨p, hp, rfl⟩ := of_map hrow; clear hrow)))))
  all_goals (conv => whnf)
  all_goals (refine ⟨[0], ?_⟩)
  all_goals (repeat' (first | (with_reducible rfl) | exact trivial | ((conv => whnf); (first | (with_reducible refine And.intro ?_ ?_) | exact trivial | (intro hb; first | (exfalso; simp_all; done) | skip)))))
  all_goals (first | rfl)

set_option maxRecDepth 100000 in
set_option maxHeartbeats 400000 in
theorem at_busy (e n nx tc : Int) (j : JobV) (key : Bs) (hj : ¬ j.ph = 0) : FnM Tryd.prog 30 [.ptr 0 0, .str key] [.cells [.sl [[.int .i64 1, .int .i64 e, .int .i64 n, .str [], .str []]], .int .i64 j.ph, .int .i64 j.sh, .int .i64 j.ep, .int .i64 j.fr, .int .i64 j.to, .int .i64 j.pc, .int .i64 j.ps, .str j.key, .int .i64 j.ot, .int .i64 j.oe, .int .i64 j.a, .int .i64 j.b, .int .i64 nx, .nils, .int .i64 tc]] (.tup [.agg [.int .i64 0, .int .i64 0, .int .i64 0, .str [], .str []], errV [] 20]) [.cells [.sl [[.int .i64 1, .int .i64 e, .int .i64 n, .str [], .str []]], .int .i64 j.ph, .int .i64 j.sh, .int .i64 j.ep, .int .i64 j.fr, .int .i64 j.to, .int .i64 j.pc, .int .i64 j.ps, .str j.key, .int .i64 j.ot, .int .i64 j.oe, .int .i64 j.a, .int .i64 j.b, .int .i64 nx, .nils, .int .i64 tc]] := by
  refine FnM.mk' base Tryd.func30 rfl rfl rfl rfl ?_
  repeat' ((conv => whnf); (first
   | (with_reducible first | refine AW.seq ?_ | refine AW.region base (by kernel_rfl) ?_ | refine AW.cond ?_ | refine AW.block ?_ | refine AW.ret ?_ | refine AW.exit ?_ | refine AW.skip ?_ | refine Br.t ?_ | refine Br.f ?_)
   | (with_reducible refine Br.mkT (fun hb => (by (first | (simp at hb; done) | omega | (simp only [decide_eq_true_eq, decide_eq_false_iff_not, Bool.not_eq_true', Bool.not_eq_false'] at hb; first | omega | fail) | fail))) (fun hb => ?_))
   | (with_reducible refine Br.mkF (fun hb => (by (first | (simp at hb; done) | omega | (simp only [decide_eq_true_eq, decide_eq_false_iff_not, Bool.not_eq_true', Bool.not_eq_false'] at hb; first | omega | fail) | fail))) (fun hb => ?_))
   | ((with_reducible refine Or.inl ?_); (conv => whnf); (with_reducible refine And.intro LitSl.mk ?_))
   | refine Br.t ?_
   | refine Br.f ?_
   | ((with_reducible refine Or.inl ?_); (conv => whnf); (first | (with_reducible first | refine ⟨_, isE_nil _, ?_⟩) | refine ⟨_, isE_fn [] 20 _, ?_⟩))
   | (with_reducible refine Or.inr ⟨[?_], _, _, _, _, free_busy e n nx tc j hj, ?_⟩)
   | (with_reducible refine Or.inr (Or.inr ⟨[?_], _, _, _, _, free_busy e n nx tc j hj, ?_⟩))
   | (with_reducible refine Br.mk (fun hb => ?_) (fun hb => ?_) <;> (try rw [hb]) <;> (try simp only [List.length_map, decide_eq_true_eq, decide_eq_false_iff_not, Bool.not_eq_true', Bool.not_eq_false', Int.ofNat_lt, Int.ofNat_le, Int.not_lt, Int.not_le, Int.toNat_natCast] at hb))
   | ((with_reducible first | refine Or.inl (And.intro ?_ ?_) | refine And.intro ?_ ?_); (focus (first | with_reducible rfl | exact trivial | (exact ⟨rfl, trivial⟩) | (exact ⟨rfl, rfl, trivial⟩) | omega | (intro r hr; simp only [List.mem_singleton] at hr; subst hr; rfl)  | ((simp only [in64, maxLen] at *; omega)) | (simp only [in64]; omega) | assumption | (simp; done) | (simp [V.cells]; done) | (simp [in64, maxLen, limK] at *; omega) | ((show confB _ _ = true); kernel_rfl) | rfl)))
   | (intro row hrow; (try simp only [Int.toNat_natCast, List.length_map, toNat_pred, toNat_succ', toNat_zero', toNat_one'] at hrow); (first | (have hsm := same_map (by assumption) hrow; subst hsm; clear hrow) | (obtain ⟨p, hp, rfl⟩ := of_map hrow; clear hrow)))))
  all_goals (conv => whnf)
  all_goals (refine ⟨[0], ?_⟩)
  all_goals (repeat' (first | (with_reducible rfl) | exact trivial | ((conv => whnf); (first | (with_reducible refine And.intro ?_ ?_) | exact trivial | (intro hb; first | (exfalso; simp_all; done) | skip)))))
  all_goals (first | rfl)

set_option maxRecDepth 100000 in
set_option maxHeartbeats 400000 in
theorem of_fn (e n : Int) : Fn Tryd.prog 32 [.agg [.int .i64 1, .int .i64 e, .int .i64 n, .str [], .str []]] (.agg [.int .i64 0, .int .i64 1, .int .i64 e, .int .i64 n, .int .i64 n, .int .i64 0, .int .i64 0, .str [], .int .i64 0, .int .i64 0, .int .i64 0, .int .i64 0]) := by
  refine Fn.mk' base Tryd.func32 rfl rfl rfl ?_
  repeat' ((conv => whnf); (first
   | (with_reducible first | refine AW.seq ?_ | refine AW.region base (by kernel_rfl) ?_ | refine AW.cond ?_ | refine AW.block ?_ | refine AW.ret ?_ | refine AW.exit ?_ | refine AW.skip ?_ | refine Br.t ?_ | refine Br.f ?_)
   | (with_reducible refine Br.mkT (fun hb => (by (first | (simp at hb; done) | omega | (simp only [decide_eq_true_eq, decide_eq_false_iff_not, Bool.not_eq_true', Bool.not_eq_false'] at hb; first | omega | fail) | fail))) (fun hb => ?_))
   | (with_reducible refine Br.mkF (fun hb => (by (first | (simp at hb; done) | omega | (simp only [decide_eq_true_eq, decide_eq_false_iff_not, Bool.not_eq_true', Bool.not_eq_false'] at hb; first | omega | fail) | fail))) (fun hb => ?_))
   | ((with_reducible refine Or.inl ?_); (conv => whnf); (with_reducible refine And.intro LitSl.mk ?_))
   | refine Br.t ?_
   | refine Br.f ?_
   | (with_reducible refine Br.mk (fun hb => ?_) (fun hb => ?_) <;> (try rw [hb]) <;> (try simp only [List.length_map, decide_eq_true_eq, decide_eq_false_iff_not, Bool.not_eq_true', Bool.not_eq_false', Int.ofNat_lt, Int.ofNat_le, Int.not_lt, Int.not_le, Int.toNat_natCast] at hb))
   | ((with_reducible first | refine Or.inl (And.intro ?_ ?_) | refine And.intro ?_ ?_); (focus (first | with_reducible rfl | exact trivial | (exact ⟨rfl, trivial⟩) | (exact ⟨rfl, rfl, trivial⟩) | omega | (intro r hr; simp only [List.mem_singleton] at hr; subst hr; rfl)  | ((simp only [in64, maxLen] at *; omega)) | (simp only [in64]; omega) | assumption | (simp; done) | (simp [V.cells]; done) | (simp [in64, maxLen, limK] at *; omega) | ((show confB _ _ = true); kernel_rfl) | rfl)))
   | (intro row hrow; (try simp only [Int.toNat_natCast, List.length_map, toNat_pred, toNat_succ', toNat_zero', toNat_one'] at hrow); (first | (have hsm := same_map (by assumption) hrow; subst hsm; clear hrow) | (obtain ⟨p, hp, rfl⟩ := of_map hrow; clear hrow)))))
  all_goals (conv => whnf)
  all_goals (first | rfl | (simp only [V.bool.injEq, V.tup.injEq, V.agg.injEq, V.str.injEq, V.int.injEq, V.sl.injEq, V.ifc.injEq, List.cons.injEq, and_true, true_and, and_self]; done) | (simp only [V.bool.injEq, V.tup.injEq, V.agg.injEq, V.str.injEq, V.int.injEq, V.sl.injEq, V.ifc.injEq, List.cons.injEq, and_true, true_and, and_self]; grind) | (simp  at *; done) | (simp  at *; grind))

set_option maxRecDepth 100000 in
set_option maxHeartbeats 400000 in
theorem number_fn (e n nx tc : Int) (j : JobV) (hn : 0 ≤ nx ∧ nx ≤ 100000) : FnM Tryd.prog 46 [.ptr 0 0] [.cells [.sl [[.int .i64 1, .int .i64 e, .int .i64 n, .str [], .str []]], .int .i64 j.ph, .int .i64 j.sh, .int .i64 j.ep, .int .i64 j.fr, .int .i64 j.to, .int .i64 j.pc, .int .i64 j.ps, .str j.key, .int .i64 j.ot, .int .i64 j.oe, .int .i64 j.a, .int .i64 j.b, .int .i64 nx, .nils, .int .i64 tc]] (.int .i64 nx) [.cells [.sl [[.int .i64 1, .int .i64 e, .int .i64 n, .str [], .str []]], .int .i64 j.ph, .int .i64 j.sh, .int .i64 j.ep, .int .i64 j.fr, .int .i64 j.to, .int .i64 j.pc, .int .i64 j.ps, .str j.key, .int .i64 j.ot, .int .i64 j.oe, .int .i64 j.a, .int .i64 j.b, .int .i64 (nx + 1), .nils, .int .i64 tc]] := by
  refine FnM.mk' base Tryd.func46 rfl rfl rfl rfl ?_
  repeat' ((conv => whnf); (first
   | (with_reducible first | refine AW.seq ?_ | refine AW.region base (by kernel_rfl) ?_ | refine AW.cond ?_ | refine AW.block ?_ | refine AW.ret ?_ | refine AW.exit ?_ | refine AW.skip ?_ | refine Br.t ?_ | refine Br.f ?_)
   | (with_reducible refine Br.mkT (fun hb => (by (first | (simp at hb; done) | omega | (simp only [decide_eq_true_eq, decide_eq_false_iff_not, Bool.not_eq_true', Bool.not_eq_false'] at hb; first | omega | fail) | fail))) (fun hb => ?_))
   | (with_reducible refine Br.mkF (fun hb => (by (first | (simp at hb; done) | omega | (simp only [decide_eq_true_eq, decide_eq_false_iff_not, Bool.not_eq_true', Bool.not_eq_false'] at hb; first | omega | fail) | fail))) (fun hb => ?_))
   | ((with_reducible refine Or.inl ?_); (conv => whnf); (with_reducible refine And.intro LitSl.mk ?_))
   | refine Br.t ?_
   | refine Br.f ?_
   | (with_reducible refine Br.mk (fun hb => ?_) (fun hb => ?_) <;> (try rw [hb]) <;> (try simp only [List.length_map, decide_eq_true_eq, decide_eq_false_iff_not, Bool.not_eq_true', Bool.not_eq_false', Int.ofNat_lt, Int.ofNat_le, Int.not_lt, Int.not_le, Int.toNat_natCast] at hb))
   | ((with_reducible first | refine Or.inl (And.intro ?_ ?_) | refine And.intro ?_ ?_); (focus (first | with_reducible rfl | exact trivial | (exact ⟨rfl, trivial⟩) | (exact ⟨rfl, rfl, trivial⟩) | omega | (intro r hr; simp only [List.mem_singleton] at hr; subst hr; rfl)  | ((simp only [in64, maxLen] at *; omega)) | (simp only [in64]; omega) | assumption | (simp; done) | (simp [V.cells]; done) | (simp [in64, maxLen, limK] at *; omega) | ((show confB _ _ = true); kernel_rfl) | rfl)))
   | (intro row hrow; (try simp only [Int.toNat_natCast, List.length_map, toNat_pred, toNat_succ', toNat_zero', toNat_one'] at hrow); (first | (have hsm := same_map (by assumption) hrow; subst hsm; clear hrow) | (obtain ⟨p, hp, rfl⟩ := of_map hrow; clear hrow)))))
  all_goals (conv => whnf)
  all_goals (refine ⟨[0], ?_⟩)
  all_goals (repeat' (first | (with_reducible rfl) | exact trivial | ((conv => whnf); (first | (with_reducible refine And.intro ?_ ?_) | exact trivial | (intro hb; first | (exfalso; simp_all; done) | skip)))))
  all_goals (first | rfl | (refine congrArg (V.int IntKind.i64) ?_; omega))

set_option maxRecDepth 100000 in
set_option maxHeartbeats 400000 in
theorem says_0 (e n nx tc : Int) (j : JobV)  : FnM Tryd.prog 47 [.ptr 0 0] [.cells [.sl [[.int .i64 1, .int .i64 e, .int .i64 n, .str [], .str []]], .int .i64 0, .int .i64 j.sh, .int .i64 j.ep, .int .i64 j.fr, .int .i64 j.to, .int .i64 j.pc, .int .i64 j.ps, .str j.key, .int .i64 j.ot, .int .i64 j.oe, .int .i64 j.a, .int .i64 j.b, .int .i64 nx, .nils, .int .i64 tc]] (.nils) [.cells [.sl [[.int .i64 1, .int .i64 e, .int .i64 n, .str [], .str []]], .int .i64 0, .int .i64 j.sh, .int .i64 j.ep, .int .i64 j.fr, .int .i64 j.to, .int .i64 j.pc, .int .i64 j.ps, .str j.key, .int .i64 j.ot, .int .i64 j.oe, .int .i64 j.a, .int .i64 j.b, .int .i64 nx, .nils, .int .i64 tc]] := by
  refine FnM.mk' base Tryd.func47 rfl rfl rfl rfl ?_
  repeat' ((conv => whnf); (first
   | (with_reducible first | refine AW.seq ?_ | refine AW.region base (by kernel_rfl) ?_ | refine AW.cond ?_ | refine AW.block ?_ | refine AW.ret ?_ | refine AW.exit ?_ | refine AW.skip ?_ | refine Br.t ?_ | refine Br.f ?_)
   | (with_reducible refine Br.mkT (fun hb => (by (first | (simp at hb; done) | omega | (simp only [decide_eq_true_eq, decide_eq_false_iff_not, Bool.not_eq_true', Bool.not_eq_false'] at hb; first | omega | fail) | fail))) (fun hb => ?_))
   | (with_reducible refine Br.mkF (fun hb => (by (first | (simp at hb; done) | omega | (simp only [decide_eq_true_eq, decide_eq_false_iff_not, Bool.not_eq_true', Bool.not_eq_false'] at hb; first | omega | fail) | fail))) (fun hb => ?_))
   | ((with_reducible refine Or.inl ?_); (conv => whnf); (with_reducible refine And.intro LitSl.mk ?_))
   | refine Br.t ?_
   | refine Br.f ?_
   | (with_reducible refine Br.mk (fun hb => ?_) (fun hb => ?_) <;> (try rw [hb]) <;> (try simp only [List.length_map, decide_eq_true_eq, decide_eq_false_iff_not, Bool.not_eq_true', Bool.not_eq_false', Int.ofNat_lt, Int.ofNat_le, Int.not_lt, Int.not_le, Int.toNat_natCast] at hb))
   | ((with_reducible first | refine Or.inl (And.intro ?_ ?_) | refine And.intro ?_ ?_); (focus (first | with_reducible rfl | exact trivial | (exact ⟨rfl, trivial⟩) | (exact ⟨rfl, rfl, trivial⟩) | omega | (intro r hr; simp only [List.mem_singleton] at hr; subst hr; rfl)  | ((simp only [in64, maxLen] at *; omega)) | (simp only [in64]; omega) | assumption | (simp; done) | (simp [V.cells]; done) | (simp [in64, maxLen, limK] at *; omega) | ((show confB _ _ = true); kernel_rfl) | rfl)))
   | (intro row hrow; (try simp only [Int.toNat_natCast, List.length_map, toNat_pred, toNat_succ', toNat_zero', toNat_one'] at hrow); (first | (have hsm := same_map (by assumption) hrow; subst hsm; clear hrow) | (obtain ⟨p, hp, rfl⟩ := of_map hrow; clear hrow)))))
  all_goals (conv => whnf)
  all_goals (refine ⟨[0], ?_⟩)
  all_goals (repeat' (first | (with_reducible rfl) | exact trivial | ((conv => whnf); (first | (with_reducible refine And.intro ?_ ?_) | exact trivial | (intro hb; first | (exfalso; simp_all; done) | skip)))))
  all_goals (first | rfl)

set_option maxRecDepth 100000 in
set_option maxHeartbeats 400000 in
theorem says_1 (e n nx tc : Int) (j : JobV) (he : 0 ≤ j.ep ∧ j.ep ≤ 1000) : FnM Tryd.prog 47 [.ptr 0 0] [.cells [.sl [[.int .i64 1, .int .i64 e, .int .i64 n, .str [], .str []]], .int .i64 1, .int .i64 j.sh, .int .i64 j.ep, .int .i64 j.fr, .int .i64 j.to, .int .i64 j.pc, .int .i64 j.ps, .str j.key, .int .i64 j.ot, .int .i64 j.oe, .int .i64 j.a, .int .i64 j.b, .int .i64 nx, .nils, .int .i64 tc]] (.sl [[.int .i64 7, .int .i64 100, .int .i64 j.fr, .int .i64 j.sh, .int .i64 j.ep, .int .i64 0, .int .i64 0, .int .i64 0, .int .i64 0, .str [], .str [], .str [], .int .i64 0, .nils, .int .i64 0, .str [], .int .i64 0, .nils, .str [], .str [], .nils, .nils, .nils, .str []]]) [.cells [.sl [[.int .i64 1, .int .i64 e, .int .i64 n, .str [], .str []]], .int .i64 1, .int .i64 j.sh, .int .i64 j.ep, .int .i64 j.fr, .int .i64 j.to, .int .i64 j.pc, .int .i64 j.ps, .str j.key, .int .i64 j.ot, .int .i64 j.oe, .int .i64 j.a, .int .i64 j.b, .int .i64 nx, .nils, .int .i64 tc]] := by
  refine FnM.mk' base Tryd.func47 rfl rfl rfl rfl ?_
  repeat' ((conv => whnf); (first
   | (with_reducible first | refine AW.seq ?_ | refine AW.region base (by kernel_rfl) ?_ | refine AW.cond ?_ | refine AW.block ?_ | refine AW.ret ?_ | refine AW.exit ?_ | refine AW.skip ?_ | refine Br.t ?_ | refine Br.f ?_)
   | (with_reducible refine Br.mkT (fun hb => (by (first | (simp at hb; done) | omega | (simp only [decide_eq_true_eq, decide_eq_false_iff_not, Bool.not_eq_true', Bool.not_eq_false'] at hb; first | omega | fail) | fail))) (fun hb => ?_))
   | (with_reducible refine Br.mkF (fun hb => (by (first | (simp at hb; done) | omega | (simp only [decide_eq_true_eq, decide_eq_false_iff_not, Bool.not_eq_true', Bool.not_eq_false'] at hb; first | omega | fail) | fail))) (fun hb => ?_))
   | ((with_reducible refine Or.inl ?_); (conv => whnf); (with_reducible refine And.intro LitSl.mk ?_))
   | refine Br.t ?_
   | refine Br.f ?_
   | (with_reducible refine Br.mk (fun hb => ?_) (fun hb => ?_) <;> (try rw [hb]) <;> (try simp only [List.length_map, decide_eq_true_eq, decide_eq_false_iff_not, Bool.not_eq_true', Bool.not_eq_false', Int.ofNat_lt, Int.ofNat_le, Int.not_lt, Int.not_le, Int.toNat_natCast] at hb))
   | ((with_reducible first | refine Or.inl (And.intro ?_ ?_) | refine And.intro ?_ ?_); (focus (first | with_reducible rfl | exact trivial | (exact ⟨rfl, trivial⟩) | (exact ⟨rfl, rfl, trivial⟩) | omega | (intro r hr; simp only [List.mem_singleton] at hr; subst hr; rfl)  | ((simp only [in64, maxLen] at *; omega)) | (simp only [in64]; omega) | assumption | (simp; done) | (simp [V.cells]; done) | (simp [in64, maxLen, limK] at *; omega) | ((show confB _ _ = true); kernel_rfl) | rfl)))
   | (intro row hrow; (try simp only [Int.toNat_natCast, List.length_map, toNat_pred, toNat_succ', toNat_zero', toNat_one'] at hrow); (first | (have hsm := same_map (by assumption) hrow; subst hsm; clear hrow) | (obtain ⟨p, hp, rfl⟩ := of_map hrow; clear hrow)))))
  all_goals (conv => whnf)
  all_goals (refine ⟨[0], ?_⟩)
  all_goals (repeat' (first | (with_reducible rfl) | exact trivial | ((conv => whnf); (first | (with_reducible refine And.intro ?_ ?_) | exact trivial | (intro hb; first | (exfalso; simp_all; done) | skip)))))
  all_goals (first | rfl)

set_option maxRecDepth 100000 in
set_option maxHeartbeats 400000 in
theorem says_2 (e n nx tc : Int) (j : JobV) (he : 0 ≤ j.ep ∧ j.ep ≤ 1000) : FnM Tryd.prog 47 [.ptr 0 0] [.cells [.sl [[.int .i64 1, .int .i64 e, .int .i64 n, .str [], .str []]], .int .i64 2, .int .i64 j.sh, .int .i64 j.ep, .int .i64 j.fr, .int .i64 j.to, .int .i64 j.pc, .int .i64 j.ps, .str j.key, .int .i64 j.ot, .int .i64 j.oe, .int .i64 j.a, .int .i64 j.b, .int .i64 nx, .nils, .int .i64 tc]] (.sl [[.int .i64 9, .int .i64 100, .int .i64 j.fr, .int .i64 j.sh, .int .i64 j.ep, .int .i64 j.pc, .int .i64 0, .int .i64 0, .int .i64 0, .str [], .str [], .str [], .int .i64 0, .nils, .int .i64 0, .str [], .int .i64 0, .nils, .str [], .str [], .nils, .nils, .nils, .str []]]) [.cells [.sl [[.int .i64 1, .int .i64 e, .int .i64 n, .str [], .str []]], .int .i64 2, .int .i64 j.sh, .int .i64 j.ep, .int .i64 j.fr, .int .i64 j.to, .int .i64 j.pc, .int .i64 j.ps, .str j.key, .int .i64 j.ot, .int .i64 j.oe, .int .i64 j.a, .int .i64 j.b, .int .i64 nx, .nils, .int .i64 tc]] := by
  refine FnM.mk' base Tryd.func47 rfl rfl rfl rfl ?_
  repeat' ((conv => whnf); (first
   | (with_reducible first | refine AW.seq ?_ | refine AW.region base (by kernel_rfl) ?_ | refine AW.cond ?_ | refine AW.block ?_ | refine AW.ret ?_ | refine AW.exit ?_ | refine AW.skip ?_ | refine Br.t ?_ | refine Br.f ?_)
   | (with_reducible refine Br.mkT (fun hb => (by (first | (simp at hb; done) | omega | (simp only [decide_eq_true_eq, decide_eq_false_iff_not, Bool.not_eq_true', Bool.not_eq_false'] at hb; first | omega | fail) | fail))) (fun hb => ?_))
   | (with_reducible refine Br.mkF (fun hb => (by (first | (simp at hb; done) | omega | (simp only [decide_eq_true_eq, decide_eq_false_iff_not, Bool.not_eq_true', Bool.not_eq_false'] at hb; first | omega | fail) | fail))) (fun hb => ?_))
   | ((with_reducible refine Or.inl ?_); (conv => whnf); (with_reducible refine And.intro LitSl.mk ?_))
   | refine Br.t ?_
   | refine Br.f ?_
   | (with_reducible refine Br.mk (fun hb => ?_) (fun hb => ?_) <;> (try rw [hb]) <;> (try simp only [List.length_map, decide_eq_true_eq, decide_eq_false_iff_not, Bool.not_eq_true', Bool.not_eq_false', Int.ofNat_lt, Int.ofNat_le, Int.not_lt, Int.not_le, Int.toNat_natCast] at hb))
   | ((with_reducible first | refine Or.inl (And.intro ?_ ?_) | refine And.intro ?_ ?_); (focus (first | with_reducible rfl | exact trivial | (exact ⟨rfl, trivial⟩) | (exact ⟨rfl, rfl, trivial⟩) | omega | (intro r hr; simp only [List.mem_singleton] at hr; subst hr; rfl)  | ((simp only [in64, maxLen] at *; omega)) | (simp only [in64]; omega) | assumption | (simp; done) | (simp [V.cells]; done) | (simp [in64, maxLen, limK] at *; omega) | ((show confB _ _ = true); kernel_rfl) | rfl)))
   | (intro row hrow; (try simp only [Int.toNat_natCast, List.length_map, toNat_pred, toNat_succ', toNat_zero', toNat_one'] at hrow); (first | (have hsm := same_map (by assumption) hrow; subst hsm; clear hrow) | (obtain ⟨p, hp, rfl⟩ := of_map hrow; clear hrow)))))
  all_goals (conv => whnf)
  all_goals (refine ⟨[0], ?_⟩)
  all_goals (repeat' (first | (with_reducible rfl) | exact trivial | ((conv => whnf); (first | (with_reducible refine And.intro ?_ ?_) | exact trivial | (intro hb; first | (exfalso; simp_all; done) | skip)))))
  all_goals (first | rfl)

set_option maxRecDepth 100000 in
set_option maxHeartbeats 400000 in
theorem says_4 (e n nx tc : Int) (j : JobV) (he : 0 ≤ j.ep ∧ j.ep ≤ 1000) : FnM Tryd.prog 47 [.ptr 0 0] [.cells [.sl [[.int .i64 1, .int .i64 e, .int .i64 n, .str [], .str []]], .int .i64 4, .int .i64 j.sh, .int .i64 j.ep, .int .i64 j.fr, .int .i64 j.to, .int .i64 j.pc, .int .i64 j.ps, .str j.key, .int .i64 j.ot, .int .i64 j.oe, .int .i64 j.a, .int .i64 j.b, .int .i64 nx, .nils, .int .i64 tc]] (.sl [[.int .i64 13, .int .i64 100, .int .i64 j.to, .int .i64 j.sh, .int .i64 (j.ep + 1), .int .i64 j.ps, .int .i64 0, .int .i64 0, .int .i64 0, .str [], .str [], .str [], .int .i64 0, .nils, .int .i64 0, .str [], .int .i64 0, .nils, .str [], .str [], .nils, .nils, .nils, .str []]]) [.cells [.sl [[.int .i64 1, .int .i64 e, .int .i64 n, .str [], .str []]], .int .i64 4, .int .i64 j.sh, .int .i64 j.ep, .int .i64 j.fr, .int .i64 j.to, .int .i64 j.pc, .int .i64 j.ps, .str j.key, .int .i64 j.ot, .int .i64 j.oe, .int .i64 j.a, .int .i64 j.b, .int .i64 nx, .nils, .int .i64 tc]] := by
  refine FnM.mk' base Tryd.func47 rfl rfl rfl rfl ?_
  repeat' ((conv => whnf); (first
   | (with_reducible first | refine AW.seq ?_ | refine AW.region base (by kernel_rfl) ?_ | refine AW.cond ?_ | refine AW.block ?_ | refine AW.ret ?_ | refine AW.exit ?_ | refine AW.skip ?_ | refine Br.t ?_ | refine Br.f ?_)
   | (with_reducible refine Br.mkT (fun hb => (by (first | (simp at hb; done) | omega | (simp only [decide_eq_true_eq, decide_eq_false_iff_not, Bool.not_eq_true', Bool.not_eq_false'] at hb; first | omega | fail) | fail))) (fun hb => ?_))
   | (with_reducible refine Br.mkF (fun hb => (by (first | (simp at hb; done) | omega | (simp only [decide_eq_true_eq, decide_eq_false_iff_not, Bool.not_eq_true', Bool.not_eq_false'] at hb; first | omega | fail) | fail))) (fun hb => ?_))
   | ((with_reducible refine Or.inl ?_); (conv => whnf); (with_reducible refine And.intro LitSl.mk ?_))
   | refine Br.t ?_
   | refine Br.f ?_
   | (with_reducible refine Br.mk (fun hb => ?_) (fun hb => ?_) <;> (try rw [hb]) <;> (try simp only [List.length_map, decide_eq_true_eq, decide_eq_false_iff_not, Bool.not_eq_true', Bool.not_eq_false', Int.ofNat_lt, Int.ofNat_le, Int.not_lt, Int.not_le, Int.toNat_natCast] at hb))
   | ((with_reducible first | refine Or.inl (And.intro ?_ ?_) | refine And.intro ?_ ?_); (focus (first | with_reducible rfl | exact trivial | (exact ⟨rfl, trivial⟩) | (exact ⟨rfl, rfl, trivial⟩) | omega | (intro r hr; simp only [List.mem_singleton] at hr; subst hr; rfl)  | ((simp only [in64, maxLen] at *; omega)) | (simp only [in64]; omega) | assumption | (simp; done) | (simp [V.cells]; done) | (simp [in64, maxLen, limK] at *; omega) | ((show confB _ _ = true); kernel_rfl) | rfl)))
   | (intro row hrow; (try simp only [Int.toNat_natCast, List.length_map, toNat_pred, toNat_succ', toNat_zero', toNat_one'] at hrow); (first | (have hsm := same_map (by assumption) hrow; subst hsm; clear hrow) | (obtain ⟨p, hp, rfl⟩ := of_map hrow; clear hrow)))))
  all_goals (conv => whnf)
  all_goals (refine ⟨[0], ?_⟩)
  all_goals (repeat' (first | (with_reducible rfl) | exact trivial | ((conv => whnf); (first | (with_reducible refine And.intro ?_ ?_) | exact trivial | (intro hb; first | (exfalso; simp_all; done) | skip)))))
  all_goals (first | rfl)

set_option maxRecDepth 100000 in
set_option maxHeartbeats 400000 in
theorem says_5 (e n nx tc : Int) (j : JobV) (he : 0 ≤ j.ep ∧ j.ep ≤ 1000) : FnM Tryd.prog 47 [.ptr 0 0] [.cells [.sl [[.int .i64 1, .int .i64 e, .int .i64 n, .str [], .str []]], .int .i64 5, .int .i64 j.sh, .int .i64 j.ep, .int .i64 j.fr, .int .i64 j.to, .int .i64 j.pc, .int .i64 j.ps, .str j.key, .int .i64 j.ot, .int .i64 j.oe, .int .i64 j.a, .int .i64 j.b, .int .i64 nx, .nils, .int .i64 tc]] (.sl [[.int .i64 17, .int .i64 100, .int .i64 j.fr, .int .i64 j.sh, .int .i64 j.ep, .int .i64 0, .int .i64 0, .int .i64 0, .int .i64 0, .str [], .str [], .str [], .int .i64 0, .nils, .int .i64 0, .str [], .int .i64 0, .nils, .str [], .str [], .nils, .nils, .nils, .str []]]) [.cells [.sl [[.int .i64 1, .int .i64 e, .int .i64 n, .str [], .str []]], .int .i64 5, .int .i64 j.sh, .int .i64 j.ep, .int .i64 j.fr, .int .i64 j.to, .int .i64 j.pc, .int .i64 j.ps, .str j.key, .int .i64 j.ot, .int .i64 j.oe, .int .i64 j.a, .int .i64 j.b, .int .i64 nx, .nils, .int .i64 tc]] := by
  refine FnM.mk' base Tryd.func47 rfl rfl rfl rfl ?_
  repeat' ((conv => whnf); (first
   | (with_reducible first | refine AW.seq ?_ | refine AW.region base (by kernel_rfl) ?_ | refine AW.cond ?_ | refine AW.block ?_ | refine AW.ret ?_ | refine AW.exit ?_ | refine AW.skip ?_ | refine Br.t ?_ | refine Br.f ?_)
   | (with_reducible refine Br.mkT (fun hb => (by (first | (simp at hb; done) | omega | (simp only [decide_eq_true_eq, decide_eq_false_iff_not, Bool.not_eq_true', Bool.not_eq_false'] at hb; first | omega | fail) | fail))) (fun hb => ?_))
   | (with_reducible refine Br.mkF (fun hb => (by (first | (simp at hb; done) | omega | (simp only [decide_eq_true_eq, decide_eq_false_iff_not, Bool.not_eq_true', Bool.not_eq_false'] at hb; first | omega | fail) | fail))) (fun hb => ?_))
   | ((with_reducible refine Or.inl ?_); (conv => whnf); (with_reducible refine And.intro LitSl.mk ?_))
   | refine Br.t ?_
   | refine Br.f ?_
   | (with_reducible refine Br.mk (fun hb => ?_) (fun hb => ?_) <;> (try rw [hb]) <;> (try simp only [List.length_map, decide_eq_true_eq, decide_eq_false_iff_not, Bool.not_eq_true', Bool.not_eq_false', Int.ofNat_lt, Int.ofNat_le, Int.not_lt, Int.not_le, Int.toNat_natCast] at hb))
   | ((with_reducible first | refine Or.inl (And.intro ?_ ?_) | refine And.intro ?_ ?_); (focus (first | with_reducible rfl | exact trivial | (exact ⟨rfl, trivial⟩) | (exact ⟨rfl, rfl, trivial⟩) | omega | (intro r hr; simp only [List.mem_singleton] at hr; subst hr; rfl)  | ((simp only [in64, maxLen] at *; omega)) | (simp only [in64]; omega) | assumption | (simp; done) | (simp [V.cells]; done) | (simp [in64, maxLen, limK] at *; omega) | ((show confB _ _ = true); kernel_rfl) | rfl)))
   | (intro row hrow; (try simp only [Int.toNat_natCast, List.length_map, toNat_pred, toNat_succ', toNat_zero', toNat_one'] at hrow); (first | (have hsm := same_map (by assumption) hrow; subst hsm; clear hrow) | (obtain ⟨p, hp, rfl⟩ := of_map hrow; clear hrow)))))
  all_goals (conv => whnf)
  all_goals (refine ⟨[0], ?_⟩)
  all_goals (repeat' (first | (with_reducible rfl) | exact trivial | ((conv => whnf); (first | (with_reducible refine And.intro ?_ ?_) | exact trivial | (intro hb; first | (exfalso; simp_all; done) | skip)))))
  all_goals (first | rfl)

set_option maxRecDepth 100000 in
set_option maxHeartbeats 400000 in
theorem says_6 (e n nx tc : Int) (j : JobV) (he : 0 ≤ j.ep ∧ j.ep ≤ 1000) : FnM Tryd.prog 47 [.ptr 0 0] [.cells [.sl [[.int .i64 1, .int .i64 e, .int .i64 n, .str [], .str []]], .int .i64 6, .int .i64 j.sh, .int .i64 j.ep, .int .i64 j.fr, .int .i64 j.to, .int .i64 j.pc, .int .i64 j.ps, .str j.key, .int .i64 j.ot, .int .i64 j.oe, .int .i64 j.a, .int .i64 j.b, .int .i64 nx, .nils, .int .i64 tc]] (.sl [[.int .i64 15, .int .i64 100, .int .i64 j.fr, .int .i64 j.sh, .int .i64 j.ep, .int .i64 0, .int .i64 0, .int .i64 0, .int .i64 0, .str [], .str [], .str [], .int .i64 0, .nils, .int .i64 0, .str [], .int .i64 0, .nils, .str [], .str [], .nils, .nils, .nils, .str []]]) [.cells [.sl [[.int .i64 1, .int .i64 e, .int .i64 n, .str [], .str []]], .int .i64 6, .int .i64 j.sh, .int .i64 j.ep, .int .i64 j.fr, .int .i64 j.to, .int .i64 j.pc, .int .i64 j.ps, .str j.key, .int .i64 j.ot, .int .i64 j.oe, .int .i64 j.a, .int .i64 j.b, .int .i64 nx, .nils, .int .i64 tc]] := by
  refine FnM.mk' base Tryd.func47 rfl rfl rfl rfl ?_
  repeat' ((conv => whnf); (first
   | (with_reducible first | refine AW.seq ?_ | refine AW.region base (by kernel_rfl) ?_ | refine AW.cond ?_ | refine AW.block ?_ | refine AW.ret ?_ | refine AW.exit ?_ | refine AW.skip ?_ | refine Br.t ?_ | refine Br.f ?_)
   | (with_reducible refine Br.mkT (fun hb => (by (first | (simp at hb; done) | omega | (simp only [decide_eq_true_eq, decide_eq_false_iff_not, Bool.not_eq_true', Bool.not_eq_false'] at hb; first | omega | fail) | fail))) (fun hb => ?_))
   | (with_reducible refine Br.mkF (fun hb => (by (first | (simp at hb; done) | omega | (simp only [decide_eq_true_eq, decide_eq_false_iff_not, Bool.not_eq_true', Bool.not_eq_false'] at hb; first | omega | fail) | fail))) (fun hb => ?_))
   | ((with_reducible refine Or.inl ?_); (conv => whnf); (with_reducible refine And.intro LitSl.mk ?_))
   | refine Br.t ?_
   | refine Br.f ?_
   | (with_reducible refine Br.mk (fun hb => ?_) (fun hb => ?_) <;> (try rw [hb]) <;> (try simp only [List.length_map, decide_eq_true_eq, decide_eq_false_iff_not, Bool.not_eq_true', Bool.not_eq_false', Int.ofNat_lt, Int.ofNat_le, Int.not_lt, Int.not_le, Int.toNat_natCast] at hb))
   | ((with_reducible first | refine Or.inl (And.intro ?_ ?_) | refine And.intro ?_ ?_); (focus (first | with_reducible rfl | exact trivial | (exact ⟨rfl, trivial⟩) | (exact ⟨rfl, rfl, trivial⟩) | omega | (intro r hr; simp only [List.mem_singleton] at hr; subst hr; rfl)  | ((simp only [in64, maxLen] at *; omega)) | (simp only [in64]; omega) | assumption | (simp; done) | (simp [V.cells]; done) | (simp [in64, maxLen, limK] at *; omega) | ((show confB _ _ = true); kernel_rfl) | rfl)))
   | (intro row hrow; (try simp only [Int.toNat_natCast, List.length_map, toNat_pred, toNat_succ', toNat_zero', toNat_one'] at hrow); (first | (have hsm := same_map (by assumption) hrow; subst hsm; clear hrow) | (obtain ⟨p, hp, rfl⟩ := of_map hrow; clear hrow)))))
  all_goals (conv => whnf)
  all_goals (refine ⟨[0], ?_⟩)
  all_goals (repeat' (first | (with_reducible rfl) | exact trivial | ((conv => whnf); (first | (with_reducible refine And.intro ?_ ?_) | exact trivial | (intro hb; first | (exfalso; simp_all; done) | skip)))))
  all_goals (first | rfl)

set_option maxRecDepth 100000 in
set_option maxHeartbeats 400000 in
theorem begins_1 (e n nx tc : Int) (j : JobV) (pc : Int) (he : 0 ≤ j.ep ∧ j.ep ≤ 1000) : FnM Tryd.prog 33 [.ptr 0 0, .int .i64 1, .int .i64 pc] [.cells [.sl [[.int .i64 1, .int .i64 e, .int .i64 n, .str [], .str []]], .int .i64 j.ph, .int .i64 j.sh, .int .i64 j.ep, .int .i64 j.fr, .int .i64 j.to, .int .i64 j.pc, .int .i64 j.ps, .str j.key, .int .i64 j.ot, .int .i64 j.oe, .int .i64 j.a, .int .i64 j.b, .int .i64 nx, .nils, .int .i64 tc]] (.sl [[.int .i64 7, .int .i64 100, .int .i64 j.fr, .int .i64 j.sh, .int .i64 j.ep, .int .i64 0, .int .i64 0, .int .i64 0, .int .i64 0, .str [], .str [], .str [], .int .i64 0, .nils, .int .i64 0, .str [], .int .i64 0, .nils, .str [], .str [], .nils, .nils, .nils, .str []]]) [.cells [.sl [[.int .i64 1, .int .i64 e, .int .i64 n, .str [], .str []]], .int .i64 1, .int .i64 j.sh, .int .i64 j.ep, .int .i64 j.fr, .int .i64 j.to, .int .i64 pc, .int .i64 j.ps, .str j.key, .int .i64 j.ot, .int .i64 j.oe, .int .i64 j.a, .int .i64 j.b, .int .i64 nx, .nils, .int .i64 0]] := by
  refine FnM.mk' base Tryd.func33 rfl rfl rfl rfl ?_
  repeat' ((conv => whnf); (first
   | (with_reducible first | refine AW.seq ?_ | refine AW.region base (by kernel_rfl) ?_ | refine AW.cond ?_ | refine AW.block ?_ | refine AW.ret ?_ | refine AW.exit ?_ | refine AW.skip ?_ | refine Br.t ?_ | refine Br.f ?_)
   | (with_reducible refine Br.mkT (fun hb => (by (first | (simp at hb; done) | omega | (simp only [decide_eq_true_eq, decide_eq_false_iff_not, Bool.not_eq_true', Bool.not_eq_false'] at hb; first | omega | fail) | fail))) (fun hb => ?_))
   | (with_reducible refine Br.mkF (fun hb => (by (first | (simp at hb; done) | omega | (simp only [decide_eq_true_eq, decide_eq_false_iff_not, Bool.not_eq_true', Bool.not_eq_false'] at hb; first | omega | fail) | fail))) (fun hb => ?_))
   | ((with_reducible refine Or.inl ?_); (conv => whnf); (with_reducible refine And.intro LitSl.mk ?_))
   | refine Br.t ?_
   | refine Br.f ?_
   | (with_reducible refine Or.inr ⟨[?_], _, _, _, _, says_1 e n nx 0 ⟨1, j.sh, j.ep, j.fr, j.to, pc, j.ps, j.key, j.ot, j.oe, j.a, j.b⟩ he, ?_⟩)
   | (with_reducible refine Or.inr (Or.inr ⟨[?_], _, _, _, _, says_1 e n nx 0 ⟨1, j.sh, j.ep, j.fr, j.to, pc, j.ps, j.key, j.ot, j.oe, j.a, j.b⟩ he, ?_⟩))
   | (with_reducible refine Br.mk (fun hb => ?_) (fun hb => ?_) <;> (try rw [hb]) <;> (try simp only [List.length_map, decide_eq_true_eq, decide_eq_false_iff_not, Bool.not_eq_true', Bool.not_eq_false', Int.ofNat_lt, Int.ofNat_le, Int.not_lt, Int.not_le, Int.toNat_natCast] at hb))
   | ((with_reducible first | refine Or.inl (And.intro ?_ ?_) | refine And.intro ?_ ?_); (focus (first | with_reducible rfl | exact trivial | (exact ⟨rfl, trivial⟩) | (exact ⟨rfl, rfl, trivial⟩) | omega | (intro r hr; simp only [List.mem_singleton] at hr; subst hr; rfl)  | ((simp only [in64, maxLen] at *; omega)) | (simp only [in64]; omega) | assumption | (simp; done) | (simp [V.cells]; done) | (simp [in64, maxLen, limK] at *; omega) | ((show confB _ _ = true); kernel_rfl) | rfl)))
   | (intro row hrow; (try simp only [Int.toNat_natCast, List.length_map, toNat_pred, toNat_succ', toNat_zero', toNat_one'] at hrow); (first | (have hsm := same_map (by assumption) hrow; subst hsm; clear hrow) | (obtain ⟨p, hp, rfl⟩ := of_map hrow; clear hrow)))))
  all_goals (conv => whnf)
  all_goals (refine ⟨[0], ?_⟩)
  all_goals (repeat' (first | (with_reducible rfl) | exact trivial | ((conv => whnf); (first | (with_reducible refine And.intro ?_ ?_) | exact trivial | (intro hb; first | (exfalso; simp_all; done) | skip)))))
  all_goals (first | rfl)

set_option maxRecDepth 100000 in
set_option maxHeartbeats 400000 in
theorem begins_2 (e n nx tc : Int) (j : JobV) (pc : Int) (he : 0 ≤ j.ep ∧ j.ep ≤ 1000) : FnM Tryd.prog 33 [.ptr 0 0, .int .i64 2, .int .i64 pc] [.cells [.sl [[.int .i64 1, .int .i64 e, .int .i64 n, .str [], .str []]], .int .i64 j.ph, .int .i64 j.sh, .int .i64 j.ep, .int .i64 j.fr, .int .i64 j.to, .int .i64 j.pc, .int .i64 j.ps, .str j.key, .int .i64 j.ot, .int .i64 j.oe, .int .i64 j.a, .int .i64 j.b, .int .i64 nx, .nils, .int .i64 tc]] (.sl [[.int .i64 9, .int .i64 100, .int .i64 j.fr, .int .i64 j.sh, .int .i64 j.ep, .int .i64 pc, .int .i64 0, .int .i64 0, .int .i64 0, .str [], .str [], .str [], .int .i64 0, .nils, .int .i64 0, .str [], .int .i64 0, .nils, .str [], .str [], .nils, .nils, .nils, .str []]]) [.cells [.sl [[.int .i64 1, .int .i64 e, .int .i64 n, .str [], .str []]], .int .i64 2, .int .i64 j.sh, .int .i64 j.ep, .int .i64 j.fr, .int .i64 j.to, .int .i64 pc, .int .i64 j.ps, .str j.key, .int .i64 j.ot, .int .i64 j.oe, .int .i64 j.a, .int .i64 j.b, .int .i64 nx, .nils, .int .i64 0]] := by
  refine FnM.mk' base Tryd.func33 rfl rfl rfl rfl ?_
  repeat' ((conv => whnf); (first
   | (with_reducible first | refine AW.seq ?_ | refine AW.region base (by kernel_rfl) ?_ | refine AW.cond ?_ | refine AW.block ?_ | refine AW.ret ?_ | refine AW.exit ?_ | refine AW.skip ?_ | refine Br.t ?_ | refine Br.f ?_)
   | (with_reducible refine Br.mkT (fun hb => (by (first | (simp at hb; done) | omega | (simp only [decide_eq_true_eq, decide_eq_false_iff_not, Bool.not_eq_true', Bool.not_eq_false'] at hb; first | omega | fail) | fail))) (fun hb => ?_))
   | (with_reducible refine Br.mkF (fun hb => (by (first | (simp at hb; done) | omega | (simp only [decide_eq_true_eq, decide_eq_false_iff_not, Bool.not_eq_true', Bool.not_eq_false'] at hb; first | omega | fail) | fail))) (fun hb => ?_))
   | ((with_reducible refine Or.inl ?_); (conv => whnf); (with_reducible refine And.intro LitSl.mk ?_))
   | refine Br.t ?_
   | refine Br.f ?_
   | (with_reducible refine Or.inr ⟨[?_], _, _, _, _, says_2 e n nx 0 ⟨2, j.sh, j.ep, j.fr, j.to, pc, j.ps, j.key, j.ot, j.oe, j.a, j.b⟩ he, ?_⟩)
   | (with_reducible refine Or.inr (Or.inr ⟨[?_], _, _, _, _, says_2 e n nx 0 ⟨2, j.sh, j.ep, j.fr, j.to, pc, j.ps, j.key, j.ot, j.oe, j.a, j.b⟩ he, ?_⟩))
   | (with_reducible refine Br.mk (fun hb => ?_) (fun hb => ?_) <;> (try rw [hb]) <;> (try simp only [List.length_map, decide_eq_true_eq, decide_eq_false_iff_not, Bool.not_eq_true', Bool.not_eq_false', Int.ofNat_lt, Int.ofNat_le, Int.not_lt, Int.not_le, Int.toNat_natCast] at hb))
   | ((with_reducible first | refine Or.inl (And.intro ?_ ?_) | refine And.intro ?_ ?_); (focus (first | with_reducible rfl | exact trivial | (exact ⟨rfl, trivial⟩) | (exact ⟨rfl, rfl, trivial⟩) | omega | (intro r hr; simp only [List.mem_singleton] at hr; subst hr; rfl)  | ((simp only [in64, maxLen] at *; omega)) | (simp only [in64]; omega) | assumption | (simp; done) | (simp [V.cells]; done) | (simp [in64, maxLen, limK] at *; omega) | ((show confB _ _ = true); kernel_rfl) | rfl)))
   | (intro row hrow; (try simp only [Int.toNat_natCast, List.length_map, toNat_pred, toNat_succ', toNat_zero', toNat_one'] at hrow); (first | (have hsm := same_map (by assumption) hrow; subst hsm; clear hrow) | (obtain ⟨p, hp, rfl⟩ := of_map hrow; clear hrow)))))
  all_goals (conv => whnf)
  all_goals (refine ⟨[0], ?_⟩)
  all_goals (repeat' (first | (with_reducible rfl) | exact trivial | ((conv => whnf); (first | (with_reducible refine And.intro ?_ ?_) | exact trivial | (intro hb; first | (exfalso; simp_all; done) | skip)))))
  all_goals (first | rfl)

set_option maxRecDepth 100000 in
set_option maxHeartbeats 400000 in
theorem begins_4 (e n nx tc : Int) (j : JobV) (pc : Int) (he : 0 ≤ j.ep ∧ j.ep ≤ 1000) : FnM Tryd.prog 33 [.ptr 0 0, .int .i64 4, .int .i64 pc] [.cells [.sl [[.int .i64 1, .int .i64 e, .int .i64 n, .str [], .str []]], .int .i64 j.ph, .int .i64 j.sh, .int .i64 j.ep, .int .i64 j.fr, .int .i64 j.to, .int .i64 j.pc, .int .i64 j.ps, .str j.key, .int .i64 j.ot, .int .i64 j.oe, .int .i64 j.a, .int .i64 j.b, .int .i64 nx, .nils, .int .i64 tc]] (.sl [[.int .i64 13, .int .i64 100, .int .i64 j.to, .int .i64 j.sh, .int .i64 (j.ep + 1), .int .i64 j.ps, .int .i64 0, .int .i64 0, .int .i64 0, .str [], .str [], .str [], .int .i64 0, .nils, .int .i64 0, .str [], .int .i64 0, .nils, .str [], .str [], .nils, .nils, .nils, .str []]]) [.cells [.sl [[.int .i64 1, .int .i64 e, .int .i64 n, .str [], .str []]], .int .i64 4, .int .i64 j.sh, .int .i64 j.ep, .int .i64 j.fr, .int .i64 j.to, .int .i64 pc, .int .i64 j.ps, .str j.key, .int .i64 j.ot, .int .i64 j.oe, .int .i64 j.a, .int .i64 j.b, .int .i64 nx, .nils, .int .i64 0]] := by
  refine FnM.mk' base Tryd.func33 rfl rfl rfl rfl ?_
  repeat' ((conv => whnf); (first
   | (with_reducible first | refine AW.seq ?_ | refine AW.region base (by kernel_rfl) ?_ | refine AW.cond ?_ | refine AW.block ?_ | refine AW.ret ?_ | refine AW.exit ?_ | refine AW.skip ?_ | refine Br.t ?_ | refine Br.f ?_)
   | (with_reducible refine Br.mkT (fun hb => (by (first | (simp at hb; done) | omega | (simp only [decide_eq_true_eq, decide_eq_false_iff_not, Bool.not_eq_true', Bool.not_eq_false'] at hb; first | omega | fail) | fail))) (fun hb => ?_))
   | (with_reducible refine Br.mkF (fun hb => (by (first | (simp at hb; done) | omega | (simp only [decide_eq_true_eq, decide_eq_false_iff_not, Bool.not_eq_true', Bool.not_eq_false'] at hb; first | omega | fail) | fail))) (fun hb => ?_))
   | ((with_reducible refine Or.inl ?_); (conv => whnf); (with_reducible refine And.intro LitSl.mk ?_))
   | refine Br.t ?_
   | refine Br.f ?_
   | (with_reducible refine Or.inr ⟨[?_], _, _, _, _, says_4 e n nx 0 ⟨4, j.sh, j.ep, j.fr, j.to, pc, j.ps, j.key, j.ot, j.oe, j.a, j.b⟩ he, ?_⟩)
   | (with_reducible refine Or.inr (Or.inr ⟨[?_], _, _, _, _, says_4 e n nx 0 ⟨4, j.sh, j.ep, j.fr, j.to, pc, j.ps, j.key, j.ot, j.oe, j.a, j.b⟩ he, ?_⟩))
   | (with_reducible refine Br.mk (fun hb => ?_) (fun hb => ?_) <;> (try rw [hb]) <;> (try simp only [List.length_map, decide_eq_true_eq, decide_eq_false_iff_not, Bool.not_eq_true', Bool.not_eq_false', Int.ofNat_lt, Int.ofNat_le, Int.not_lt, Int.not_le, Int.toNat_natCast] at hb))
   | ((with_reducible first | refine Or.inl (And.intro ?_ ?_) | refine And.intro ?_ ?_); (focus (first | with_reducible rfl | exact trivial | (exact ⟨rfl, trivial⟩) | (exact ⟨rfl, rfl, trivial⟩) | omega | (intro r hr; simp only [List.mem_singleton] at hr; subst hr; rfl)  | ((simp only [in64, maxLen] at *; omega)) | (simp only [in64]; omega) | assumption | (simp; done) | (simp [V.cells]; done) | (simp [in64, maxLen, limK] at *; omega) | ((show confB _ _ = true); kernel_rfl) | rfl)))
   | (intro row hrow; (try simp only [Int.toNat_natCast, List.length_map, toNat_pred, toNat_succ', toNat_zero', toNat_one'] at hrow); (first | (have hsm := same_map (by assumption) hrow; subst hsm; clear hrow) | (obtain ⟨p, hp, rfl⟩ := of_map hrow; clear hrow)))))
  all_goals (conv => whnf)
  all_goals (refine ⟨[0], ?_⟩)
  all_goals (repeat' (first | (with_reducible rfl) | exact trivial | ((conv => whnf); (first | (with_reducible refine And.intro ?_ ?_) | exact trivial | (intro hb; first | (exfalso; simp_all; done) | skip)))))
  all_goals (first | rfl)

set_option maxRecDepth 100000 in
set_option maxHeartbeats 400000 in
theorem begins_5 (e n nx tc : Int) (j : JobV) (pc : Int) (he : 0 ≤ j.ep ∧ j.ep ≤ 1000) : FnM Tryd.prog 33 [.ptr 0 0, .int .i64 5, .int .i64 pc] [.cells [.sl [[.int .i64 1, .int .i64 e, .int .i64 n, .str [], .str []]], .int .i64 j.ph, .int .i64 j.sh, .int .i64 j.ep, .int .i64 j.fr, .int .i64 j.to, .int .i64 j.pc, .int .i64 j.ps, .str j.key, .int .i64 j.ot, .int .i64 j.oe, .int .i64 j.a, .int .i64 j.b, .int .i64 nx, .nils, .int .i64 tc]] (.sl [[.int .i64 17, .int .i64 100, .int .i64 j.fr, .int .i64 j.sh, .int .i64 j.ep, .int .i64 0, .int .i64 0, .int .i64 0, .int .i64 0, .str [], .str [], .str [], .int .i64 0, .nils, .int .i64 0, .str [], .int .i64 0, .nils, .str [], .str [], .nils, .nils, .nils, .str []]]) [.cells [.sl [[.int .i64 1, .int .i64 e, .int .i64 n, .str [], .str []]], .int .i64 5, .int .i64 j.sh, .int .i64 j.ep, .int .i64 j.fr, .int .i64 j.to, .int .i64 pc, .int .i64 j.ps, .str j.key, .int .i64 j.ot, .int .i64 j.oe, .int .i64 j.a, .int .i64 j.b, .int .i64 nx, .nils, .int .i64 0]] := by
  refine FnM.mk' base Tryd.func33 rfl rfl rfl rfl ?_
  repeat' ((conv => whnf); (first
   | (with_reducible first | refine AW.seq ?_ | refine AW.region base (by kernel_rfl) ?_ | refine AW.cond ?_ | refine AW.block ?_ | refine AW.ret ?_ | refine AW.exit ?_ | refine AW.skip ?_ | refine Br.t ?_ | refine Br.f ?_)
   | (with_reducible refine Br.mkT (fun hb => (by (first | (simp at hb; done) | omega | (simp only [decide_eq_true_eq, decide_eq_false_iff_not, Bool.not_eq_true', Bool.not_eq_false'] at hb; first | omega | fail) | fail))) (fun hb => ?_))
   | (with_reducible refine Br.mkF (fun hb => (by (first | (simp at hb; done) | omega | (simp only [decide_eq_true_eq, decide_eq_false_iff_not, Bool.not_eq_true', Bool.not_eq_false'] at hb; first | omega | fail) | fail))) (fun hb => ?_))
   | ((with_reducible refine Or.inl ?_); (conv => whnf); (with_reducible refine And.intro LitSl.mk ?_))
   | refine Br.t ?_
   | refine Br.f ?_
   | (with_reducible refine Or.inr ⟨[?_], _, _, _, _, says_5 e n nx 0 ⟨5, j.sh, j.ep, j.fr, j.to, pc, j.ps, j.key, j.ot, j.oe, j.a, j.b⟩ he, ?_⟩)
   | (with_reducible refine Or.inr (Or.inr ⟨[?_], _, _, _, _, says_5 e n nx 0 ⟨5, j.sh, j.ep, j.fr, j.to, pc, j.ps, j.key, j.ot, j.oe, j.a, j.b⟩ he, ?_⟩))
   | (with_reducible refine Br.mk (fun hb => ?_) (fun hb => ?_) <;> (try rw [hb]) <;> (try simp only [List.length_map, decide_eq_true_eq, decide_eq_false_iff_not, Bool.not_eq_true', Bool.not_eq_false', Int.ofNat_lt, Int.ofNat_le, Int.not_lt, Int.not_le, Int.toNat_natCast] at hb))
   | ((with_reducible first | refine Or.inl (And.intro ?_ ?_) | refine And.intro ?_ ?_); (focus (first | with_reducible rfl | exact trivial | (exact ⟨rfl, trivial⟩) | (exact ⟨rfl, rfl, trivial⟩) | omega | (intro r hr; simp only [List.mem_singleton] at hr; subst hr; rfl)  | ((simp only [in64, maxLen] at *; omega)) | (simp only [in64]; omega) | assumption | (simp; done) | (simp [V.cells]; done) | (simp [in64, maxLen, limK] at *; omega) | ((show confB _ _ = true); kernel_rfl) | rfl)))
   | (intro row hrow; (try simp only [Int.toNat_natCast, List.length_map, toNat_pred, toNat_succ', toNat_zero', toNat_one'] at hrow); (first | (have hsm := same_map (by assumption) hrow; subst hsm; clear hrow) | (obtain ⟨p, hp, rfl⟩ := of_map hrow; clear hrow)))))
  all_goals (conv => whnf)
  all_goals (refine ⟨[0], ?_⟩)
  all_goals (repeat' (first | (with_reducible rfl) | exact trivial | ((conv => whnf); (first | (with_reducible refine And.intro ?_ ?_) | exact trivial | (intro hb; first | (exfalso; simp_all; done) | skip)))))
  all_goals (first | rfl)

set_option maxRecDepth 100000 in
set_option maxHeartbeats 400000 in
theorem begins_6 (e n nx tc : Int) (j : JobV) (pc : Int) (he : 0 ≤ j.ep ∧ j.ep ≤ 1000) : FnM Tryd.prog 33 [.ptr 0 0, .int .i64 6, .int .i64 pc] [.cells [.sl [[.int .i64 1, .int .i64 e, .int .i64 n, .str [], .str []]], .int .i64 j.ph, .int .i64 j.sh, .int .i64 j.ep, .int .i64 j.fr, .int .i64 j.to, .int .i64 j.pc, .int .i64 j.ps, .str j.key, .int .i64 j.ot, .int .i64 j.oe, .int .i64 j.a, .int .i64 j.b, .int .i64 nx, .nils, .int .i64 tc]] (.sl [[.int .i64 15, .int .i64 100, .int .i64 j.fr, .int .i64 j.sh, .int .i64 j.ep, .int .i64 0, .int .i64 0, .int .i64 0, .int .i64 0, .str [], .str [], .str [], .int .i64 0, .nils, .int .i64 0, .str [], .int .i64 0, .nils, .str [], .str [], .nils, .nils, .nils, .str []]]) [.cells [.sl [[.int .i64 1, .int .i64 e, .int .i64 n, .str [], .str []]], .int .i64 6, .int .i64 j.sh, .int .i64 j.ep, .int .i64 j.fr, .int .i64 j.to, .int .i64 pc, .int .i64 j.ps, .str j.key, .int .i64 j.ot, .int .i64 j.oe, .int .i64 j.a, .int .i64 j.b, .int .i64 nx, .nils, .int .i64 0]] := by
  refine FnM.mk' base Tryd.func33 rfl rfl rfl rfl ?_
  repeat' ((conv => whnf); (first
   | (with_reducible first | refine AW.seq ?_ | refine AW.region base (by kernel_rfl) ?_ | refine AW.cond ?_ | refine AW.block ?_ | refine AW.ret ?_ | refine AW.exit ?_ | refine AW.skip ?_ | refine Br.t ?_ | refine Br.f ?_)
   | (with_reducible refine Br.mkT (fun hb => (by (first | (simp at hb; done) | omega | (simp only [decide_eq_true_eq, decide_eq_false_iff_not, Bool.not_eq_true', Bool.not_eq_false'] at hb; first | omega | fail) | fail))) (fun hb => ?_))
   | (with_reducible refine Br.mkF (fun hb => (by (first | (simp at hb; done) | omega | (simp only [decide_eq_true_eq, decide_eq_false_iff_not, Bool.not_eq_true', Bool.not_eq_false'] at hb; first | omega | fail) | fail))) (fun hb => ?_))
   | ((with_reducible refine Or.inl ?_); (conv => whnf); (with_reducible refine And.intro LitSl.mk ?_))
   | refine Br.t ?_
   | refine Br.f ?_
   | (with_reducible refine Or.inr ⟨[?_], _, _, _, _, says_6 e n nx 0 ⟨6, j.sh, j.ep, j.fr, j.to, pc, j.ps, j.key, j.ot, j.oe, j.a, j.b⟩ he, ?_⟩)
   | (with_reducible refine Or.inr (Or.inr ⟨[?_], _, _, _, _, says_6 e n nx 0 ⟨6, j.sh, j.ep, j.fr, j.to, pc, j.ps, j.key, j.ot, j.oe, j.a, j.b⟩ he, ?_⟩))
   | (with_reducible refine Br.mk (fun hb => ?_) (fun hb => ?_) <;> (try rw [hb]) <;> (try simp only [List.length_map, decide_eq_true_eq, decide_eq_false_iff_not, Bool.not_eq_true', Bool.not_eq_false', Int.ofNat_lt, Int.ofNat_le, Int.not_lt, Int.not_le, Int.toNat_natCast] at hb))
   | ((with_reducible first | refine Or.inl (And.intro ?_ ?_) | refine And.intro ?_ ?_); (focus (first | with_reducible rfl | exact trivial | (exact ⟨rfl, trivial⟩) | (exact ⟨rfl, rfl, trivial⟩) | omega | (intro r hr; simp only [List.mem_singleton] at hr; subst hr; rfl)  | ((simp only [in64, maxLen] at *; omega)) | (simp only [in64]; omega) | assumption | (simp; done) | (simp [V.cells]; done) | (simp [in64, maxLen, limK] at *; omega) | ((show confB _ _ = true); kernel_rfl) | rfl)))
   | (intro row hrow; (try simp only [Int.toNat_natCast, List.length_map, toNat_pred, toNat_succ', toNat_zero', toNat_one'] at hrow); (first | (have hsm := same_map (by assumption) hrow; subst hsm; clear hrow) | (obtain ⟨p, hp, rfl⟩ := of_map hrow; clear hrow)))))
  all_goals (conv => whnf)
  all_goals (refine ⟨[0], ?_⟩)
  all_goals (repeat' (first | (with_reducible rfl) | exact trivial | ((conv => whnf); (first | (with_reducible refine And.intro ?_ ?_) | exact trivial | (intro hb; first | (exfalso; simp_all; done) | skip)))))
  all_goals (first | rfl)
end Go.Proofs.YtgjbhkbjdihddaaDoor
