/-
  Laws of plans: what is known. No conditions.
-/
import Derived.Test.YtmlfknmpapbpgaaLaw20p
namespace Go.Proofs.Ytmlfknmpapbpgaa
open Go.RowKit
set_option linter.unusedSimpArgs false
set_option linter.unusedVariables false

theorem k_split : Fn Try.prog 7 [.sl [[.int .i64 1, .int .i64 1, .int .i64 0, .str [], .str []]], .int .i64 1, .str [109], .int .i64 2, .int .i64 3] (.sl [[.int .i64 2, .int .i64 1, .int .i64 0, .str [], .str [109]], [.int .i64 3, .int .i64 1, .int .i64 0, .str [109], .str []]]) := by
  have h := splitG_fn ([⟨1, 1, 0, [], []⟩] : List Plc) 1 2 3 [109] (by decide)
  rw [show splitP ([⟨1, 1, 0, [], []⟩] : List Plc) 1 [109] 2 3 = ([⟨2, 1, 0, [], [109]⟩, ⟨3, 1, 0, [109], []⟩] : List Plc) from by decide] at h
  exact h

theorem k_move : Fn Try.prog 9 [.sl [[.int .i64 2, .int .i64 1, .int .i64 0, .str [], .str [109]], [.int .i64 3, .int .i64 1, .int .i64 0, .str [109], .str []]], .int .i64 3, .int .i64 2, .int .i64 1] (.sl [[.int .i64 2, .int .i64 1, .int .i64 0, .str [], .str [109]], [.int .i64 3, .int .i64 2, .int .i64 1, .str [109], .str []]]) := by
  have h := moveG_fn ([⟨2, 1, 0, [], [109]⟩, ⟨3, 1, 0, [109], []⟩] : List Plc) 3 2 1 (by decide)
  rw [show moveP ([⟨2, 1, 0, [], [109]⟩, ⟨3, 1, 0, [109], []⟩] : List Plc) 3 2 1 = ([⟨2, 1, 0, [], [109]⟩, ⟨3, 2, 1, [109], []⟩] : List Plc) from by decide] at h
  exact h

theorem k_join : Fn Try.prog 8 [.sl [[.int .i64 2, .int .i64 1, .int .i64 0, .str [], .str [109]], [.int .i64 3, .int .i64 2, .int .i64 1, .str [109], .str []]], .int .i64 2, .int .i64 3, .int .i64 4] (.sl [[.int .i64 4, .int .i64 1, .int .i64 0, .str [], .str []]]) := by
  have h := joinG_fn ([⟨2, 1, 0, [], [109]⟩, ⟨3, 2, 1, [109], []⟩] : List Plc) 2 3 4 (by decide)
  rw [show joinP ([⟨2, 1, 0, [], [109]⟩, ⟨3, 2, 1, [109], []⟩] : List Plc) 2 3 4 = ([⟨4, 1, 0, [], []⟩] : List Plc) from by decide] at h
  exact h

theorem k_at : Fn Try.prog 11 [.sl [[.int .i64 2, .int .i64 1, .int .i64 0, .str [], .str [109]], [.int .i64 3, .int .i64 1, .int .i64 0, .str [109], .str []]], .str [122]] (.tup [.agg [.int .i64 3, .int .i64 1, .int .i64 0, .str [109], .str []], .bool true]) := atG_yes (l := ([⟨2, 1, 0, [], [109]⟩, ⟨3, 1, 0, [109], []⟩] : List Plc)) (p := ⟨3, 1, 0, [109], []⟩) (by decide)
theorem k_above : Fn Try.prog 13 [.sl [[.int .i64 2, .int .i64 1, .int .i64 0, .str [], .str [109]], [.int .i64 3, .int .i64 1, .int .i64 0, .str [109], .str []]], .int .i64 2] (.tup [.agg [.int .i64 3, .int .i64 1, .int .i64 0, .str [109], .str []], .bool true]) := aboveG_yes ([⟨2, 1, 0, [], [109]⟩, ⟨3, 1, 0, [109], []⟩] : List Plc) 2 (by decide) 0 (by decide) ⟨3, 1, 0, [109], []⟩ rfl
theorem k_is1 : Fn Try.prog 10 [.sl [[.int .i64 1, .int .i64 1, .int .i64 0, .str [], .str []]]] (.bool true) := planIsG_fn ([⟨1, 1, 0, [], []⟩] : List Plc) (good_new.isPlan (by decide) (by decide))
theorem k_is2 : Fn Try.prog 10 [.sl [[.int .i64 2, .int .i64 1, .int .i64 0, .str [], .str [109]], [.int .i64 3, .int .i64 1, .int .i64 0, .str [109], .str []]]] (.bool true) := planIsG_fn ([⟨2, 1, 0, [], [109]⟩, ⟨3, 1, 0, [109], []⟩] : List Plc) (Good.isPlan (n := 4) (e := 1) ⟨by decide, by decide, by simp, by decide⟩ (by decide) (by decide))
theorem k_is3 : Fn Try.prog 10 [.sl [[.int .i64 4, .int .i64 1, .int .i64 0, .str [], .str []]]] (.bool true) := planIsG_fn ([⟨4, 1, 0, [], []⟩] : List Plc) (Good.isPlan (n := 5) (e := 1) ⟨by decide, by decide, by simp, by decide⟩ (by decide) (by decide))

set_option maxRecDepth 100000 in
set_option maxHeartbeats 400000 in
theorem planNew_fn  : Fn Try.prog 6 [] (.sl [[.int .i64 1, .int .i64 1, .int .i64 0, .str [], .str []]]) := by
  refine Fn.mk' base Try.func6 rfl rfl rfl ?_
  repeat' ((conv => whnf); (first
   | (with_reducible first | refine AW.seq ?_ | refine AW.region base (by kernel_rfl) ?_ | refine AW.cond ?_ | refine AW.block ?_ | refine AW.ret ?_ | refine AW.exit ?_ | refine AW.skip ?_ | refine Br.t ?_ | refine Br.f ?_)
   | (with_reducible refine Br.mkT (fun hb => (by (first | (simp at hb; done) | omega | (simp at hb; omega) | (simp only [List.length_map, decide_eq_true_eq, decide_eq_false_iff_not, Bool.not_eq_true', Bool.not_eq_false'] at hb; first | omega | fail) | fail))) (fun hb => ?_))
   | (with_reducible refine Br.mkF (fun hb => (by (first | (simp at hb; done) | omega | (simp at hb; omega) | (simp only [List.length_map, decide_eq_true_eq, decide_eq_false_iff_not, Bool.not_eq_true', Bool.not_eq_false'] at hb; first | omega | fail) | fail))) (fun hb => ?_))
   | ((with_reducible refine Or.inl ?_); (conv => whnf); (with_reducible refine And.intro LitSl.mk ?_))
   | refine Br.t ?_
   | refine Br.f ?_
   | (with_reducible refine Br.mk (fun hb => ?_) (fun hb => ?_) <;> (try rw [hb]) <;> (try simp only [List.length_map, decide_eq_true_eq, decide_eq_false_iff_not, Bool.not_eq_true', Bool.not_eq_false', Int.ofNat_lt, Int.ofNat_le, Int.not_lt, Int.not_le, Int.toNat_natCast] at hb))
   | ((with_reducible first | refine Or.inl (And.intro ?_ ?_) | refine And.intro ?_ ?_); (focus (first | with_reducible rfl | exact trivial | (exact ⟨rfl, trivial⟩) | (exact ⟨rfl, rfl, trivial⟩) | omega | (intro r hr; simp only [List.mem_singleton] at hr; subst hr; rfl)  | ((simp only [in64, maxLen] at *; omega)) | ((simp only [List.length_map] at *; omega)) | ((simp only [in64, maxLen, List.length_map] at *; omega)) | (simp only [in64]; omega) | assumption | (simp; done) | (simp [V.cells]; done) | (simp [in64, maxLen, limK] at *; omega) | ((show confB _ _ = true); kernel_rfl) | rfl)))
   | (intro row hrow; (try simp only [Int.toNat_natCast, List.length_map, toNat_pred, toNat_succ', toNat_zero', toNat_one'] at hrow); (first | (have hsm := same_map (by assumption) hrow; subst hsm; clear hrow) | (obtain ⟨p, hp, rfl⟩ := of_map hrow; clear hrow)))))
  all_goals (conv => whnf)
  all_goals (first | rfl | (simp only [V.bool.injEq, V.tup.injEq, V.agg.injEq, V.str.injEq, V.int.injEq, V.sl.injEq, V.ifc.injEq, List.cons.injEq, and_true, true_and, and_self]; done) | (simp only [V.bool.injEq, V.tup.injEq, V.agg.injEq, V.str.injEq, V.int.injEq, V.sl.injEq, V.ifc.injEq, List.cons.injEq, and_true, true_and, and_self]; grind) | (simp  at *; done) | (simp  at *; grind))

set_option maxRecDepth 100000 in
set_option maxHeartbeats 400000 in
theorem k_isnil  : Fn Try.prog 10 [.nils] (.bool false) := by
  refine Fn.mk' base Try.func10 rfl rfl rfl ?_
  repeat' ((conv => whnf); (first
   | (with_reducible first | refine AW.seq ?_ | refine AW.region base (by kernel_rfl) ?_ | refine AW.cond ?_ | refine AW.block ?_ | refine AW.ret ?_ | refine AW.exit ?_ | refine AW.skip ?_ | refine Br.t ?_ | refine Br.f ?_)
   | (with_reducible refine Br.mkT (fun hb => (by (first | (simp at hb; done) | omega | (simp at hb; omega) | (simp only [List.length_map, decide_eq_true_eq, decide_eq_false_iff_not, Bool.not_eq_true', Bool.not_eq_false'] at hb; first | omega | fail) | fail))) (fun hb => ?_))
   | (with_reducible refine Br.mkF (fun hb => (by (first | (simp at hb; done) | omega | (simp at hb; omega) | (simp only [List.length_map, decide_eq_true_eq, decide_eq_false_iff_not, Bool.not_eq_true', Bool.not_eq_false'] at hb; first | omega | fail) | fail))) (fun hb => ?_))
   | ((with_reducible refine Or.inl ?_); (conv => whnf); (with_reducible refine And.intro LitSl.mk ?_))
   | refine Br.t ?_
   | refine Br.f ?_
   | (with_reducible refine Br.mk (fun hb => ?_) (fun hb => ?_) <;> (try rw [hb]) <;> (try simp only [List.length_map, decide_eq_true_eq, decide_eq_false_iff_not, Bool.not_eq_true', Bool.not_eq_false', Int.ofNat_lt, Int.ofNat_le, Int.not_lt, Int.not_le, Int.toNat_natCast] at hb))
   | ((with_reducible first | refine Or.inl (And.intro ?_ ?_) | refine And.intro ?_ ?_); (focus (first | with_reducible rfl | exact trivial | (exact ⟨rfl, trivial⟩) | (exact ⟨rfl, rfl, trivial⟩) | omega | (intro r hr; simp only [List.mem_singleton] at hr; subst hr; rfl)  | ((simp only [in64, maxLen] at *; omega)) | ((simp only [List.length_map] at *; omega)) | ((simp only [in64, maxLen, List.length_map] at *; omega)) | (simp only [in64]; omega) | assumption | (simp; done) | (simp [V.cells]; done) | (simp [in64, maxLen, limK] at *; omega) | ((show confB _ _ = true); kernel_rfl) | rfl)))
   | (intro row hrow; (try simp only [Int.toNat_natCast, List.length_map, toNat_pred, toNat_succ', toNat_zero', toNat_one'] at hrow); (first | (have hsm := same_map (by assumption) hrow; subst hsm; clear hrow) | (obtain ⟨p, hp, rfl⟩ := of_map hrow; clear hrow)))))
  all_goals (conv => whnf)
  all_goals (first | rfl | (simp only [V.bool.injEq, V.tup.injEq, V.agg.injEq, V.str.injEq, V.int.injEq, V.sl.injEq, V.ifc.injEq, List.cons.injEq, and_true, true_and, and_self]; done) | (simp only [V.bool.injEq, V.tup.injEq, V.agg.injEq, V.str.injEq, V.int.injEq, V.sl.injEq, V.ifc.injEq, List.cons.injEq, and_true, true_and, and_self]; grind) | (simp  at *; done) | (simp  at *; grind))

set_option maxRecDepth 100000 in
set_option maxHeartbeats 400000 in
theorem known20_fn  : Fn Try.prog 5 [] (.bool true) := by
  refine Fn.mk' base Try.func5 rfl rfl rfl ?_
  repeat' ((conv => whnf); (first
   | (with_reducible first | refine AW.seq ?_ | refine AW.region base (by kernel_rfl) ?_ | refine AW.cond ?_ | refine AW.block ?_ | refine AW.ret ?_ | refine AW.exit ?_ | refine AW.skip ?_ | refine Br.t ?_ | refine Br.f ?_)
   | (with_reducible refine Br.mkT (fun hb => (by (first | (simp at hb; done) | omega | (simp at hb; omega) | (simp only [List.length_map, decide_eq_true_eq, decide_eq_false_iff_not, Bool.not_eq_true', Bool.not_eq_false'] at hb; first | omega | fail) | fail))) (fun hb => ?_))
   | (with_reducible refine Br.mkF (fun hb => (by (first | (simp at hb; done) | omega | (simp at hb; omega) | (simp only [List.length_map, decide_eq_true_eq, decide_eq_false_iff_not, Bool.not_eq_true', Bool.not_eq_false'] at hb; first | omega | fail) | fail))) (fun hb => ?_))
   | ((with_reducible refine Or.inl ?_); (conv => whnf); (with_reducible refine And.intro LitSl.mk ?_))
   | refine Br.t ?_
   | refine Br.f ?_
   | (intro row hrow; have e0 := Option.some.inj (show some _ = some row from hrow); subst e0)
   | ((with_reducible refine Or.inl ?_); (conv => whnf); (first | (with_reducible first | refine ⟨_, planNew_fn, ?_⟩ | refine ⟨_, k_split, ?_⟩ | refine ⟨_, k_move, ?_⟩ | refine ⟨_, k_join, ?_⟩ | refine ⟨_, k_at, ?_⟩ | refine ⟨_, k_above, ?_⟩ | refine ⟨_, k_is1, ?_⟩ | refine ⟨_, k_is2, ?_⟩ | refine ⟨_, k_is3, ?_⟩ | refine ⟨_, k_isnil, ?_⟩)))
   | (with_reducible refine Br.mk (fun hb => ?_) (fun hb => ?_) <;> (try rw [hb]) <;> (try simp only [List.length_map, decide_eq_true_eq, decide_eq_false_iff_not, Bool.not_eq_true', Bool.not_eq_false', Int.ofNat_lt, Int.ofNat_le, Int.not_lt, Int.not_le, Int.toNat_natCast] at hb))
   | ((with_reducible first | refine Or.inl (And.intro ?_ ?_) | refine And.intro ?_ ?_); (focus (first | with_reducible rfl | exact trivial | (exact ⟨rfl, trivial⟩) | (exact ⟨rfl, rfl, trivial⟩) | omega | (intro r hr; simp only [List.mem_singleton] at hr; subst hr; rfl)  | ((simp only [in64, maxLen] at *; omega)) | ((simp only [List.length_map] at *; omega)) | ((simp only [in64, maxLen, List.length_map] at *; omega)) | (simp only [in64]; omega) | assumption | (simp; done) | (simp [V.cells]; done) | (simp [in64, maxLen, limK] at *; omega) | ((show confB _ _ = true); kernel_rfl) | rfl)))
   | (intro row hrow; (try simp only [Int.toNat_natCast, List.length_map, toNat_pred, toNat_succ', toNat_zero', toNat_one'] at hrow); (first | (have hsm := same_map (by assumption) hrow; subst hsm; clear hrow) | (obtain ⟨p, hp, rfl⟩ := of_map hrow; clear hrow)))))
  all_goals (conv => whnf)
  all_goals (first | rfl | (simp only [V.bool.injEq, V.tup.injEq, V.agg.injEq, V.str.injEq, V.int.injEq, V.sl.injEq, V.ifc.injEq, List.cons.injEq, and_true, true_and, and_self]; done) | (simp only [V.bool.injEq, V.tup.injEq, V.agg.injEq, V.str.injEq, V.int.injEq, V.sl.injEq, V.ifc.injEq, List.cons.injEq, and_true, true_and, and_self]; grind) | (simp  at *; done) | (simp  at *; grind))
end Go.Proofs.Ytmlfknmpapbpgaa
