/-
  Walks of package mover: what fits no more. No conditions.
-/
import Derived.Test.YtgjbhkbjdihddaaDoorMovR
namespace Go.Proofs.YtgjbhkbjdihddaaDoor
open Go.RowKit
set_option linter.unusedSimpArgs false
set_option linter.unusedVariables false

theorem isr_all : Fn Tryd.prog 43 [.agg [.str [], .str []]] (.bool true) := isr_fn ⟨[], []⟩

set_option maxRecDepth 100000 in
set_option maxHeartbeats 400000 in
theorem ris_fn (e n : Int) (he : 1 ≤ e ∧ e ≤ 1000) (hn : 0 ≤ n ∧ n < 3) : Fn Tryd.prog 16 [.sl [[.int .i64 1, .int .i64 e, .int .i64 n, .str [], .str []]]] (.bool true) := by
  refine Fn.mk' base Tryd.func16 rfl rfl rfl ?_
  repeat' ((conv => whnf); (first
   | ((with_reducible show AW _ _ _ (Code.loop _) _ _ _); (refine AW.rounds 2 ?_))
   | (with_reducible first | refine AW.seq ?_ | refine AW.region base (by kernel_rfl) ?_ | refine AW.cond ?_ | refine AW.block ?_ | refine AW.ret ?_ | refine AW.exit ?_ | refine AW.skip ?_ | refine Br.t ?_ | refine Br.f ?_)
   | (with_reducible refine Br.mkT (fun hb => (by (first | (simp at hb; done) | omega | (simp only [decide_eq_true_eq, decide_eq_false_iff_not, Bool.not_eq_true', Bool.not_eq_false'] at hb; first | omega | fail) | fail))) (fun hb => ?_))
   | (with_reducible refine Br.mkF (fun hb => (by (first | (simp at hb; done) | omega | (simp only [decide_eq_true_eq, decide_eq_false_iff_not, Bool.not_eq_true', Bool.not_eq_false'] at hb; first | omega | fail) | fail))) (fun hb => ?_))
   | ((with_reducible refine Or.inl ?_); (conv => whnf); (with_reducible refine And.intro LitSl.mk ?_))
   | refine Br.t ?_
   | refine Br.f ?_
   | (intro row hrow; have e0 := Option.some.inj (show some _ = some row from hrow); subst e0)
   | ((with_reducible refine Or.inl ?_); (conv => whnf); (first | (with_reducible first | refine ⟨_, isr_all, ?_⟩)))
   | (with_reducible refine Br.mk (fun hb => ?_) (fun hb => ?_) <;> (try rw [hb]) <;> (try simp only [List.length_map, decide_eq_true_eq, decide_eq_false_iff_not, Bool.not_eq_true', Bool.not_eq_false', Int.ofNat_lt, Int.ofNat_le, Int.not_lt, Int.not_le, Int.toNat_natCast] at hb))
   | ((with_reducible first | refine Or.inl (And.intro ?_ ?_) | refine And.intro ?_ ?_); (focus (first | with_reducible rfl | exact trivial | (exact ⟨rfl, trivial⟩) | (exact ⟨rfl, rfl, trivial⟩) | omega | (intro r hr; simp only [List.mem_singleton] at hr; subst hr; rfl)  | ((simp only [in64, maxLen] at *; omega)) | ((simp [in64]; done)) | (simp only [in64]; omega) | assumption | (simp; done) | (simp [V.cells]; done) | (simp [in64, maxLen, limK] at *; omega) | ((show confB _ _ = true); kernel_rfl) | rfl)))
   | (intro row hrow; (try simp only [Int.toNat_natCast, List.length_map, toNat_pred, toNat_succ', toNat_zero', toNat_one'] at hrow); (first | (have hsm := same_map (by assumption) hrow; subst hsm; clear hrow) | (obtain ⟨p, hp, rfl⟩ := of_map hrow; clear hrow)))))
  all_goals (conv => whnf)
  all_goals (first | rfl | (simp only [V.bool.injEq, V.tup.injEq, V.agg.injEq, V.str.injEq, V.int.injEq, V.sl.injEq, V.ifc.injEq, List.cons.injEq, and_true, true_and, and_self]; done) | (simp only [V.bool.injEq, V.tup.injEq, V.agg.injEq, V.str.injEq, V.int.injEq, V.sl.injEq, V.ifc.injEq, List.cons.injEq, and_true, true_and, and_self]; grind) | (simp  at *; done) | (simp  at *; grind))

set_option maxRecDepth 100000 in
set_option maxHeartbeats 400000 in
theorem plan_o (e n nx tc : Int) (j : JobV) (ps : List Bs) (hps : ps.length ≤ 10)  : FnM Tryd.prog 17 [.ptr 0 0] [.cells [.sl [[.int .i64 1, .int .i64 e, .int .i64 n, .str [], .str []]], .int .i64 j.ph, .int .i64 j.sh, .int .i64 j.ep, .int .i64 j.fr, .int .i64 j.to, .int .i64 j.pc, .int .i64 j.ps, .str j.key, .int .i64 j.ot, .int .i64 j.oe, .int .i64 j.a, .int .i64 j.b, .int .i64 nx, .own 1, .int .i64 tc], .rows 9 (ps.map encP)] (.own 2) [.cells [.sl [[.int .i64 1, .int .i64 e, .int .i64 n, .str [], .str []]], .int .i64 j.ph, .int .i64 j.sh, .int .i64 j.ep, .int .i64 j.fr, .int .i64 j.to, .int .i64 j.pc, .int .i64 j.ps, .str j.key, .int .i64 j.ot, .int .i64 j.oe, .int .i64 j.a, .int .i64 j.b, .int .i64 nx, .own 1, .int .i64 tc], .rows 9 (ps.map encP), .rows 58 [[.int .i64 1, .int .i64 e, .int .i64 n, .str [], .str []]]] := by
  refine FnM.mk' base Tryd.func17 rfl rfl rfl rfl ?_
  repeat' ((conv => whnf); (first
   | (with_reducible first | refine AW.seq ?_ | refine AW.region base (by kernel_rfl) ?_ | refine AW.cond ?_ | refine AW.block ?_ | refine AW.ret ?_ | refine AW.exit ?_ | refine AW.skip ?_ | refine Br.t ?_ | refine Br.f ?_)
   | (with_reducible refine Br.mkT (fun hb => (by (first | (simp at hb; done) | omega | (simp only [decide_eq_true_eq, decide_eq_false_iff_not, Bool.not_eq_true', Bool.not_eq_false'] at hb; first | omega | fail) | fail))) (fun hb => ?_))
   | (with_reducible refine Br.mkF (fun hb => (by (first | (simp at hb; done) | omega | (simp only [decide_eq_true_eq, decide_eq_false_iff_not, Bool.not_eq_true', Bool.not_eq_false'] at hb; first | omega | fail) | fail))) (fun hb => ?_))
   | ((with_reducible refine Or.inl ?_); (conv => whnf); (with_reducible refine And.intro LitSl.mk ?_))
   | refine Br.t ?_
   | refine Br.f ?_
   | (with_reducible refine Or.inr ⟨[], _, _, _, _, cloneP1_fn e n, ?_⟩)
   | (with_reducible refine Or.inr (Or.inr ⟨[], _, _, _, _, cloneP1_fn e n, ?_⟩))
   | (with_reducible refine Br.mk (fun hb => ?_) (fun hb => ?_) <;> (try rw [hb]) <;> (try simp only [List.length_map, decide_eq_true_eq, decide_eq_false_iff_not, Bool.not_eq_true', Bool.not_eq_false', Int.ofNat_lt, Int.ofNat_le, Int.not_lt, Int.not_le, Int.toNat_natCast] at hb))
   | ((with_reducible first | refine Or.inl (And.intro ?_ ?_) | refine And.intro ?_ ?_); (focus (first | with_reducible rfl | exact trivial | (exact ⟨rfl, trivial⟩) | (exact ⟨rfl, rfl, trivial⟩) | omega | (intro r hr; simp only [List.mem_singleton] at hr; subst hr; rfl)  | ((simp only [in64, maxLen] at *; omega)) | ((simp only [List.length_map]; omega)) | ((exact ⟨by omega, by simp only [List.length_map]; omega⟩)) | (simp only [in64]; omega) | assumption | (simp; done) | (simp [V.cells]; done) | (simp [in64, maxLen, limK] at *; omega) | ((show confB _ _ = true); kernel_rfl) | rfl)))
   | (intro row hrow; (try simp only [Int.toNat_natCast, List.length_map, toNat_pred, toNat_succ', toNat_zero', toNat_one'] at hrow); (first | (have hsm := same_map (by assumption) hrow; subst hsm; clear hrow) | (obtain ⟨p, hp, rfl⟩ := of_map hrow; clear hrow)))))
  all_goals (conv => whnf)
  all_goals (refine ⟨[0, 1, ?_], ?_⟩)
  all_goals (repeat' (first | (with_reducible rfl) | exact trivial | ((conv => whnf); (first | (with_reducible refine And.intro ?_ ?_) | exact trivial | (intro hb; first | (exfalso; simp_all; done) | skip)))))
  all_goals (first | rfl)

set_option maxRecDepth 100000 in
set_option maxHeartbeats 400000 in
theorem nofit_2_8 (e n nx tc : Int) (j : JobV) (ps : List Bs) (hps : ps.length ≤ 10) (he : 0 ≤ j.ep ∧ j.ep ≤ 1000) (f0 a0 a1 x2 : Int) (dt : Bs)  : FnM Tryd.prog 36 [.ptr 0 0, .agg [.int .i64 8, .int .i64 f0, .int .i64 100, .int .i64 a0, .int .i64 a1, .int .i64 x2, .int .i64 0, .int .i64 0, .int .i64 0, .str [], .str [], .str [], .int .i64 0, .nils, .int .i64 0, .str [], .int .i64 0, .nils, .str [], .str [], .nils, .nils, .nils, .str dt]] [.cells [.sl [[.int .i64 1, .int .i64 e, .int .i64 n, .str [], .str []]], .int .i64 2, .int .i64 j.sh, .int .i64 j.ep, .int .i64 j.fr, .int .i64 j.to, .int .i64 j.pc, .int .i64 j.ps, .str j.key, .int .i64 j.ot, .int .i64 j.oe, .int .i64 j.a, .int .i64 j.b, .int .i64 nx, .own 1, .int .i64 tc], .rows 9 (ps.map encP)] (.bool false) [.cells [.sl [[.int .i64 1, .int .i64 e, .int .i64 n, .str [], .str []]], .int .i64 2, .int .i64 j.sh, .int .i64 j.ep, .int .i64 j.fr, .int .i64 j.to, .int .i64 j.pc, .int .i64 j.ps, .str j.key, .int .i64 j.ot, .int .i64 j.oe, .int .i64 j.a, .int .i64 j.b, .int .i64 nx, .own 1, .int .i64 tc], .rows 9 (ps.map encP)] := by
  refine FnM.mk' base Tryd.func36 rfl rfl rfl rfl ?_
  repeat' ((conv => whnf); (first
   | (with_reducible first | refine AW.seq ?_ | refine AW.region base (by kernel_rfl) ?_ | refine AW.cond ?_ | refine AW.block ?_ | refine AW.ret ?_ | refine AW.exit ?_ | refine AW.skip ?_ | refine Br.t ?_ | refine Br.f ?_)
   | (with_reducible refine Br.mkT (fun hb => (by (first | (simp at hb; done) | omega | (simp only [decide_eq_true_eq, decide_eq_false_iff_not, Bool.not_eq_true', Bool.not_eq_false'] at hb; first | omega | fail) | fail))) (fun hb => ?_))
   | (with_reducible refine Br.mkF (fun hb => (by (first | (simp at hb; done) | omega | (simp only [decide_eq_true_eq, decide_eq_false_iff_not, Bool.not_eq_true', Bool.not_eq_false'] at hb; first | omega | fail) | fail))) (fun hb => ?_))
   | ((with_reducible refine Or.inl ?_); (conv => whnf); (with_reducible refine And.intro LitSl.mk ?_))
   | refine Br.t ?_
   | refine Br.f ?_
   | (intro row hrow; have e0 := Option.some.inj (show some _ = some row from hrow); subst e0)
   | ((with_reducible refine Or.inl ?_); (conv => whnf); (first | (with_reducible first | refine ⟨_, ans_fn 9 (by decide) (by decide), ?_⟩)))
   | (with_reducible refine Or.inr ⟨[?_, ?_], _, _, _, _, says_2o e n nx tc ⟨2, j.sh, j.ep, j.fr, j.to, j.pc, j.ps, j.key, j.ot, j.oe, j.a, j.b⟩ ps hps he, ?_⟩)
   | (with_reducible refine Or.inr (Or.inr ⟨[?_, ?_], _, _, _, _, says_2o e n nx tc ⟨2, j.sh, j.ep, j.fr, j.to, j.pc, j.ps, j.key, j.ot, j.oe, j.a, j.b⟩ ps hps he, ?_⟩))
   | (with_reducible refine Br.mk (fun hb => ?_) (fun hb => ?_) <;> (try rw [hb]) <;> (try simp only [List.length_map, decide_eq_true_eq, decide_eq_false_iff_not, Bool.not_eq_true', Bool.not_eq_false', Int.ofNat_lt, Int.ofNat_le, Int.not_lt, Int.not_le, Int.toNat_natCast] at hb))
   | ((with_reducible first | refine Or.inl (And.intro ?_ ?_) | refine And.intro ?_ ?_); (focus (first | with_reducible rfl | exact trivial | (exact ⟨rfl, trivial⟩) | (exact ⟨rfl, rfl, trivial⟩) | omega | (intro r hr; simp only [List.mem_singleton] at hr; subst hr; rfl)  | ((simp only [in64, maxLen] at *; omega)) | ((simp only [List.length_map]; omega)) | ((exact ⟨by omega, by simp only [List.length_map]; omega⟩)) | (simp only [in64]; omega) | assumption | (simp; done) | (simp [V.cells]; done) | (simp [in64, maxLen, limK] at *; omega) | ((show confB _ _ = true); kernel_rfl) | rfl)))
   | (intro row hrow; (try simp only [Int.toNat_natCast, List.length_map, toNat_pred, toNat_succ', toNat_zero', toNat_one'] at hrow); (first | (have hsm := same_map (by assumption) hrow; subst hsm; clear hrow) | (obtain ⟨p, hp, rfl⟩ := of_map hrow; clear hrow)))))
  all_goals (conv => whnf)
  all_goals (refine ⟨[0, 1], ?_⟩)
  all_goals (repeat' (first | (with_reducible rfl) | exact trivial | ((conv => whnf); (first | (with_reducible refine And.intro ?_ ?_) | exact trivial | (intro hb; first | (exfalso; simp_all; done) | skip)))))
  all_goals (first | rfl)

set_option maxRecDepth 100000 in
set_option maxHeartbeats 400000 in
theorem notake_2_8 (e n nx tc : Int) (j : JobV) (ps : List Bs) (hps : ps.length ≤ 10) (he : 0 ≤ j.ep ∧ j.ep ≤ 1000) (f0 a0 a1 x2 : Int) (dt : Bs)  : FnM Tryd.prog 14 [.ptr 0 0, .agg [.int .i64 8, .int .i64 f0, .int .i64 100, .int .i64 a0, .int .i64 a1, .int .i64 x2, .int .i64 0, .int .i64 0, .int .i64 0, .str [], .str [], .str [], .int .i64 0, .nils, .int .i64 0, .str [], .int .i64 0, .nils, .str [], .str [], .nils, .nils, .nils, .str dt]] [.cells [.sl [[.int .i64 1, .int .i64 e, .int .i64 n, .str [], .str []]], .int .i64 2, .int .i64 j.sh, .int .i64 j.ep, .int .i64 j.fr, .int .i64 j.to, .int .i64 j.pc, .int .i64 j.ps, .str j.key, .int .i64 j.ot, .int .i64 j.oe, .int .i64 j.a, .int .i64 j.b, .int .i64 nx, .own 1, .int .i64 tc], .rows 9 (ps.map encP)] (.nils) [.cells [.sl [[.int .i64 1, .int .i64 e, .int .i64 n, .str [], .str []]], .int .i64 2, .int .i64 j.sh, .int .i64 j.ep, .int .i64 j.fr, .int .i64 j.to, .int .i64 j.pc, .int .i64 j.ps, .str j.key, .int .i64 j.ot, .int .i64 j.oe, .int .i64 j.a, .int .i64 j.b, .int .i64 nx, .own 1, .int .i64 tc], .rows 9 (ps.map encP)] := by
  refine FnM.mk' base Tryd.func14 rfl rfl rfl rfl ?_
  repeat' ((conv => whnf); (first
   | (with_reducible first | refine AW.seq ?_ | refine AW.region base (by kernel_rfl) ?_ | refine AW.cond ?_ | refine AW.block ?_ | refine AW.ret ?_ | refine AW.exit ?_ | refine AW.skip ?_ | refine Br.t ?_ | refine Br.f ?_)
   | (with_reducible refine Br.mkT (fun hb => (by (first | (simp at hb; done) | omega | (simp only [decide_eq_true_eq, decide_eq_false_iff_not, Bool.not_eq_true', Bool.not_eq_false'] at hb; first | omega | fail) | fail))) (fun hb => ?_))
   | (with_reducible refine Br.mkF (fun hb => (by (first | (simp at hb; done) | omega | (simp only [decide_eq_true_eq, decide_eq_false_iff_not, Bool.not_eq_true', Bool.not_eq_false'] at hb; first | omega | fail) | fail))) (fun hb => ?_))
   | ((with_reducible refine Or.inl ?_); (conv => whnf); (with_reducible refine And.intro LitSl.mk ?_))
   | refine Br.t ?_
   | refine Br.f ?_
   | (with_reducible refine Or.inr ⟨[?_, ?_], _, _, _, _, nofit_2_8 e n nx tc ⟨2, j.sh, j.ep, j.fr, j.to, j.pc, j.ps, j.key, j.ot, j.oe, j.a, j.b⟩ ps hps he f0 a0 a1 x2 dt, ?_⟩)
   | (with_reducible refine Or.inr (Or.inr ⟨[?_, ?_], _, _, _, _, nofit_2_8 e n nx tc ⟨2, j.sh, j.ep, j.fr, j.to, j.pc, j.ps, j.key, j.ot, j.oe, j.a, j.b⟩ ps hps he f0 a0 a1 x2 dt, ?_⟩))
   | (with_reducible refine Br.mk (fun hb => ?_) (fun hb => ?_) <;> (try rw [hb]) <;> (try simp only [List.length_map, decide_eq_true_eq, decide_eq_false_iff_not, Bool.not_eq_true', Bool.not_eq_false', Int.ofNat_lt, Int.ofNat_le, Int.not_lt, Int.not_le, Int.toNat_natCast] at hb))
   | ((with_reducible first | refine Or.inl (And.intro ?_ ?_) | refine And.intro ?_ ?_); (focus (first | with_reducible rfl | exact trivial | (exact ⟨rfl, trivial⟩) | (exact ⟨rfl, rfl, trivial⟩) | omega | (intro r hr; simp only [List.mem_singleton] at hr; subst hr; rfl)  | ((simp only [in64, maxLen] at *; omega)) | ((simp only [List.length_map]; omega)) | ((exact ⟨by omega, by simp only [List.length_map]; omega⟩)) | (simp only [in64]; omega) | assumption | (simp; done) | (simp [V.cells]; done) | (simp [in64, maxLen, limK] at *; omega) | ((show confB _ _ = true); kernel_rfl) | rfl)))
   | (intro row hrow; (try simp only [Int.toNat_natCast, List.length_map, toNat_pred, toNat_succ', toNat_zero', toNat_one'] at hrow); (first | (have hsm := same_map (by assumption) hrow; subst hsm; clear hrow) | (obtain ⟨p, hp, rfl⟩ := of_map hrow; clear hrow)))))
  all_goals (conv => whnf)
  all_goals (refine ⟨[0, 1], ?_⟩)
  all_goals (repeat' (first | (with_reducible rfl) | exact trivial | ((conv => whnf); (first | (with_reducible refine And.intro ?_ ?_) | exact trivial | (intro hb; first | (exfalso; simp_all; done) | skip)))))
  all_goals (first | rfl)

set_option maxRecDepth 100000 in
set_option maxHeartbeats 400000 in
theorem nofit_3_10 (e n nx tc : Int) (j : JobV) (ps : List Bs) (hps : ps.length ≤ 10) (he : 0 ≤ j.ep ∧ j.ep ≤ 1000) (f0 a0 a1 x2 : Int) (dt : Bs) (data : Bs) (hp0 : 0 ≤ j.pc) (hp : ps[j.pc.toNat]? = some data)  : FnM Tryd.prog 36 [.ptr 0 0, .agg [.int .i64 10, .int .i64 f0, .int .i64 100, .int .i64 a0, .int .i64 a1, .int .i64 x2, .int .i64 0, .int .i64 0, .int .i64 0, .str [], .str [], .str [], .int .i64 0, .nils, .int .i64 0, .str [], .int .i64 0, .nils, .str [], .str [], .nils, .nils, .nils, .str dt]] [.cells [.sl [[.int .i64 1, .int .i64 e, .int .i64 n, .str [], .str []]], .int .i64 3, .int .i64 j.sh, .int .i64 j.ep, .int .i64 j.fr, .int .i64 j.to, .int .i64 j.pc, .int .i64 j.ps, .str j.key, .int .i64 j.ot, .int .i64 j.oe, .int .i64 j.a, .int .i64 j.b, .int .i64 nx, .own 1, .int .i64 tc], .rows 9 (ps.map encP)] (.bool false) [.cells [.sl [[.int .i64 1, .int .i64 e, .int .i64 n, .str [], .str []]], .int .i64 3, .int .i64 j.sh, .int .i64 j.ep, .int .i64 j.fr, .int .i64 j.to, .int .i64 j.pc, .int .i64 j.ps, .str j.key, .int .i64 j.ot, .int .i64 j.oe, .int .i64 j.a, .int .i64 j.b, .int .i64 nx, .own 1, .int .i64 tc], .rows 9 (ps.map encP)] := by
  refine FnM.mk' base Tryd.func36 rfl rfl rfl rfl ?_
  repeat' ((conv => whnf); (first
   | (with_reducible first | refine AW.seq ?_ | refine AW.region base (by kernel_rfl) ?_ | refine AW.cond ?_ | refine AW.block ?_ | refine AW.ret ?_ | refine AW.exit ?_ | refine AW.skip ?_ | refine Br.t ?_ | refine Br.f ?_)
   | (with_reducible refine Br.mkT (fun hb => (by (first | (simp at hb; done) | omega | (simp only [decide_eq_true_eq, decide_eq_false_iff_not, Bool.not_eq_true', Bool.not_eq_false'] at hb; first | omega | fail) | fail))) (fun hb => ?_))
   | (with_reducible refine Br.mkF (fun hb => (by (first | (simp at hb; done) | omega | (simp only [decide_eq_true_eq, decide_eq_false_iff_not, Bool.not_eq_true', Bool.not_eq_false'] at hb; first | omega | fail) | fail))) (fun hb => ?_))
   | ((with_reducible refine Or.inl ?_); (conv => whnf); (with_reducible refine And.intro LitSl.mk ?_))
   | refine Br.t ?_
   | refine Br.f ?_
   | (intro row hrow; have e0 := Option.some.inj (show some _ = some row from hrow); subst e0)
   | ((with_reducible refine Or.inl ?_); (conv => whnf); (first | (with_reducible first | refine ⟨_, ans_fn 11 (by decide) (by decide), ?_⟩)))
   | (with_reducible refine Or.inr ⟨[?_, ?_], _, _, _, _, says_3o e n nx tc ⟨3, j.sh, j.ep, j.fr, j.to, j.pc, j.ps, j.key, j.ot, j.oe, j.a, j.b⟩ ps hps he data hp0 hp, ?_⟩)
   | (with_reducible refine Or.inr (Or.inr ⟨[?_, ?_], _, _, _, _, says_3o e n nx tc ⟨3, j.sh, j.ep, j.fr, j.to, j.pc, j.ps, j.key, j.ot, j.oe, j.a, j.b⟩ ps hps he data hp0 hp, ?_⟩))
   | (with_reducible refine Br.mk (fun hb => ?_) (fun hb => ?_) <;> (try rw [hb]) <;> (try simp only [List.length_map, decide_eq_true_eq, decide_eq_false_iff_not, Bool.not_eq_true', Bool.not_eq_false', Int.ofNat_lt, Int.ofNat_le, Int.not_lt, Int.not_le, Int.toNat_natCast] at hb))
   | ((with_reducible first | refine Or.inl (And.intro ?_ ?_) | refine And.intro ?_ ?_); (focus (first | with_reducible rfl | exact trivial | (exact ⟨rfl, trivial⟩) | (exact ⟨rfl, rfl, trivial⟩) | omega | (intro r hr; simp only [List.mem_singleton] at hr; subst hr; rfl)  | ((simp only [in64, maxLen] at *; omega)) | ((simp only [List.length_map]; omega)) | ((exact ⟨by omega, by simp only [List.length_map]; omega⟩)) | (simp only [in64]; omega) | assumption | (simp; done) | (simp [V.cells]; done) | (simp [in64, maxLen, limK] at *; omega) | ((show confB _ _ = true); kernel_rfl) | rfl)))
   | (intro row hrow; (try simp only [Int.toNat_natCast, List.length_map, toNat_pred, toNat_succ', toNat_zero', toNat_one'] at hrow); (first | (have hsm := same_map (by assumption) hrow; subst hsm; clear hrow) | (obtain ⟨p, hp, rfl⟩ := of_map hrow; clear hrow)))))
  all_goals (conv => whnf)
  all_goals (refine ⟨[0, 1], ?_⟩)
  all_goals (repeat' (first | (with_reducible rfl) | exact trivial | ((conv => whnf); (first | (with_reducible refine And.intro ?_ ?_) | exact trivial | (intro hb; first | (exfalso; simp_all; done) | skip)))))
  all_goals (first | rfl)

set_option maxRecDepth 100000 in
set_option maxHeartbeats 400000 in
theorem notake_3_10 (e n nx tc : Int) (j : JobV) (ps : List Bs) (hps : ps.length ≤ 10) (he : 0 ≤ j.ep ∧ j.ep ≤ 1000) (f0 a0 a1 x2 : Int) (dt : Bs) (data : Bs) (hp0 : 0 ≤ j.pc) (hp : ps[j.pc.toNat]? = some data)  : FnM Tryd.prog 14 [.ptr 0 0, .agg [.int .i64 10, .int .i64 f0, .int .i64 100, .int .i64 a0, .int .i64 a1, .int .i64 x2, .int .i64 0, .int .i64 0, .int .i64 0, .str [], .str [], .str [], .int .i64 0, .nils, .int .i64 0, .str [], .int .i64 0, .nils, .str [], .str [], .nils, .nils, .nils, .str dt]] [.cells [.sl [[.int .i64 1, .int .i64 e, .int .i64 n, .str [], .str []]], .int .i64 3, .int .i64 j.sh, .int .i64 j.ep, .int .i64 j.fr, .int .i64 j.to, .int .i64 j.pc, .int .i64 j.ps, .str j.key, .int .i64 j.ot, .int .i64 j.oe, .int .i64 j.a, .int .i64 j.b, .int .i64 nx, .own 1, .int .i64 tc], .rows 9 (ps.map encP)] (.nils) [.cells [.sl [[.int .i64 1, .int .i64 e, .int .i64 n, .str [], .str []]], .int .i64 3, .int .i64 j.sh, .int .i64 j.ep, .int .i64 j.fr, .int .i64 j.to, .int .i64 j.pc, .int .i64 j.ps, .str j.key, .int .i64 j.ot, .int .i64 j.oe, .int .i64 j.a, .int .i64 j.b, .int .i64 nx, .own 1, .int .i64 tc], .rows 9 (ps.map encP)] := by
  refine FnM.mk' base Tryd.func14 rfl rfl rfl rfl ?_
  repeat' ((conv => whnf); (first
   | (with_reducible first | refine AW.seq ?_ | refine AW.region base (by kernel_rfl) ?_ | refine AW.cond ?_ | refine AW.block ?_ | refine AW.ret ?_ | refine AW.exit ?_ | refine AW.skip ?_ | refine Br.t ?_ | refine Br.f ?_)
   | (with_reducible refine Br.mkT (fun hb => (by (first | (simp at hb; done) | omega | (simp only [decide_eq_true_eq, decide_eq_false_iff_not, Bool.not_eq_true', Bool.not_eq_false'] at hb; first | omega | fail) | fail))) (fun hb => ?_))
   | (with_reducible refine Br.mkF (fun hb => (by (first | (simp at hb; done) | omega | (simp only [decide_eq_true_eq, decide_eq_false_iff_not, Bool.not_eq_true', Bool.not_eq_false'] at hb; first | omega | fail) | fail))) (fun hb => ?_))
   | ((with_reducible refine Or.inl ?_); (conv => whnf); (with_reducible refine And.intro LitSl.mk ?_))
   | refine Br.t ?_
   | refine Br.f ?_
   | (with_reducible refine Or.inr ⟨[?_, ?_], _, _, _, _, nofit_3_10 e n nx tc ⟨3, j.sh, j.ep, j.fr, j.to, j.pc, j.ps, j.key, j.ot, j.oe, j.a, j.b⟩ ps hps he f0 a0 a1 x2 dt data hp0 hp, ?_⟩)
   | (with_reducible refine Or.inr (Or.inr ⟨[?_, ?_], _, _, _, _, nofit_3_10 e n nx tc ⟨3, j.sh, j.ep, j.fr, j.to, j.pc, j.ps, j.key, j.ot, j.oe, j.a, j.b⟩ ps hps he f0 a0 a1 x2 dt data hp0 hp, ?_⟩))
   | (with_reducible refine Br.mk (fun hb => ?_) (fun hb => ?_) <;> (try rw [hb]) <;> (try simp only [List.length_map, decide_eq_true_eq, decide_eq_false_iff_not, Bool.not_eq_true', Bool.not_eq_false', Int.ofNat_lt, Int.ofNat_le, Int.not_lt, Int.not_le, Int.toNat_natCast] at hb))
   | ((with_reducible first | refine Or.inl (And.intro ?_ ?_) | refine And.intro ?_ ?_); (focus (first | with_reducible rfl | exact trivial | (exact ⟨rfl, trivial⟩) | (exact ⟨rfl, rfl, trivial⟩) | omega | (intro r hr; simp only [List.mem_singleton] at hr; subst hr; rfl)  | ((simp only [in64, maxLen] at *; omega)) | ((simp only [List.length_map]; omega)) | ((exact ⟨by omega, by simp only [List.length_map]; omega⟩)) | (simp only [in64]; omega) | assumption | (simp; done) | (simp [V.cells]; done) | (simp [in64, maxLen, limK] at *; omega) | ((show confB _ _ = true); kernel_rfl) | rfl)))
   | (intro row hrow; (try simp only [Int.toNat_natCast, List.length_map, toNat_pred, toNat_succ', toNat_zero', toNat_one'] at hrow); (first | (have hsm := same_map (by assumption) hrow; subst hsm; clear hrow) | (obtain ⟨p, hp, rfl⟩ := of_map hrow; clear hrow)))))
  all_goals (conv => whnf)
  all_goals (refine ⟨[0, 1], ?_⟩)
  all_goals (repeat' (first | (with_reducible rfl) | exact trivial | ((conv => whnf); (first | (with_reducible refine And.intro ?_ ?_) | exact trivial | (intro hb; first | (exfalso; simp_all; done) | skip)))))
  all_goals (first | rfl)

set_option maxRecDepth 100000 in
set_option maxHeartbeats 400000 in
theorem nofit_4_12 (e n nx tc : Int) (j : JobV) (ps : List Bs) (hps : ps.length ≤ 10) (he : 0 ≤ j.ep ∧ j.ep ≤ 1000) (f0 a0 a1 x2 : Int) (dt : Bs)  : FnM Tryd.prog 36 [.ptr 0 0, .agg [.int .i64 12, .int .i64 f0, .int .i64 100, .int .i64 a0, .int .i64 a1, .int .i64 x2, .int .i64 0, .int .i64 0, .int .i64 0, .str [], .str [], .str [], .int .i64 0, .nils, .int .i64 0, .str [], .int .i64 0, .nils, .str [], .str [], .nils, .nils, .nils, .str dt]] [.cells [.sl [[.int .i64 1, .int .i64 e, .int .i64 n, .str [], .str []]], .int .i64 4, .int .i64 j.sh, .int .i64 j.ep, .int .i64 j.fr, .int .i64 j.to, .int .i64 j.pc, .int .i64 j.ps, .str j.key, .int .i64 j.ot, .int .i64 j.oe, .int .i64 j.a, .int .i64 j.b, .int .i64 nx, .own 1, .int .i64 tc], .rows 9 (ps.map encP)] (.bool false) [.cells [.sl [[.int .i64 1, .int .i64 e, .int .i64 n, .str [], .str []]], .int .i64 4, .int .i64 j.sh, .int .i64 j.ep, .int .i64 j.fr, .int .i64 j.to, .int .i64 j.pc, .int .i64 j.ps, .str j.key, .int .i64 j.ot, .int .i64 j.oe, .int .i64 j.a, .int .i64 j.b, .int .i64 nx, .own 1, .int .i64 tc], .rows 9 (ps.map encP)] := by
  refine FnM.mk' base Tryd.func36 rfl rfl rfl rfl ?_
  repeat' ((conv => whnf); (first
   | (with_reducible first | refine AW.seq ?_ | refine AW.region base (by kernel_rfl) ?_ | refine AW.cond ?_ | refine AW.block ?_ | refine AW.ret ?_ | refine AW.exit ?_ | refine AW.skip ?_ | refine Br.t ?_ | refine Br.f ?_)
   | (with_reducible refine Br.mkT (fun hb => (by (first | (simp at hb; done) | omega | (simp only [decide_eq_true_eq, decide_eq_false_iff_not, Bool.not_eq_true', Bool.not_eq_false'] at hb; first | omega | fail) | fail))) (fun hb => ?_))
   | (with_reducible refine Br.mkF (fun hb => (by (first | (simp at hb; done) | omega | (simp only [decide_eq_true_eq, decide_eq_false_iff_not, Bool.not_eq_true', Bool.not_eq_false'] at hb; first | omega | fail) | fail))) (fun hb => ?_))
   | ((with_reducible refine Or.inl ?_); (conv => whnf); (with_reducible refine And.intro LitSl.mk ?_))
   | refine Br.t ?_
   | refine Br.f ?_
   | (intro row hrow; have e0 := Option.some.inj (show some _ = some row from hrow); subst e0)
   | ((with_reducible refine Or.inl ?_); (conv => whnf); (first | (with_reducible first | refine ⟨_, ans_fn 13 (by decide) (by decide), ?_⟩)))
   | (with_reducible refine Or.inr ⟨[?_, ?_], _, _, _, _, says_4o e n nx tc ⟨4, j.sh, j.ep, j.fr, j.to, j.pc, j.ps, j.key, j.ot, j.oe, j.a, j.b⟩ ps hps he, ?_⟩)
   | (with_reducible refine Or.inr (Or.inr ⟨[?_, ?_], _, _, _, _, says_4o e n nx tc ⟨4, j.sh, j.ep, j.fr, j.to, j.pc, j.ps, j.key, j.ot, j.oe, j.a, j.b⟩ ps hps he, ?_⟩))
   | (with_reducible refine Br.mk (fun hb => ?_) (fun hb => ?_) <;> (try rw [hb]) <;> (try simp only [List.length_map, decide_eq_true_eq, decide_eq_false_iff_not, Bool.not_eq_true', Bool.not_eq_false', Int.ofNat_lt, Int.ofNat_le, Int.not_lt, Int.not_le, Int.toNat_natCast] at hb))
   | ((with_reducible first | refine Or.inl (And.intro ?_ ?_) | refine And.intro ?_ ?_); (focus (first | with_reducible rfl | exact trivial | (exact ⟨rfl, trivial⟩) | (exact ⟨rfl, rfl, trivial⟩) | omega | (intro r hr; simp only [List.mem_singleton] at hr; subst hr; rfl)  | ((simp only [in64, maxLen] at *; omega)) | ((simp only [List.length_map]; omega)) | ((exact ⟨by omega, by simp only [List.length_map]; omega⟩)) | (simp only [in64]; omega) | assumption | (simp; done) | (simp [V.cells]; done) | (simp [in64, maxLen, limK] at *; omega) | ((show confB _ _ = true); kernel_rfl) | rfl)))
   | (intro row hrow; (try simp only [Int.toNat_natCast, List.length_map, toNat_pred, toNat_succ', toNat_zero', toNat_one'] at hrow); (first | (have hsm := same_map (by assumption) hrow; subst hsm; clear hrow) | (obtain ⟨p, hp, rfl⟩ := of_map hrow; clear hrow)))))
  all_goals (conv => whnf)
  all_goals (refine ⟨[0, 1], ?_⟩)
  all_goals (repeat' (first | (with_reducible rfl) | exact trivial | ((conv => whnf); (first | (with_reducible refine And.intro ?_ ?_) | exact trivial | (intro hb; first | (exfalso; simp_all; done) | skip)))))
  all_goals (first | rfl)

set_option maxRecDepth 100000 in
set_option maxHeartbeats 400000 in
theorem notake_4_12 (e n nx tc : Int) (j : JobV) (ps : List Bs) (hps : ps.length ≤ 10) (he : 0 ≤ j.ep ∧ j.ep ≤ 1000) (f0 a0 a1 x2 : Int) (dt : Bs)  : FnM Tryd.prog 14 [.ptr 0 0, .agg [.int .i64 12, .int .i64 f0, .int .i64 100, .int .i64 a0, .int .i64 a1, .int .i64 x2, .int .i64 0, .int .i64 0, .int .i64 0, .str [], .str [], .str [], .int .i64 0, .nils, .int .i64 0, .str [], .int .i64 0, .nils, .str [], .str [], .nils, .nils, .nils, .str dt]] [.cells [.sl [[.int .i64 1, .int .i64 e, .int .i64 n, .str [], .str []]], .int .i64 4, .int .i64 j.sh, .int .i64 j.ep, .int .i64 j.fr, .int .i64 j.to, .int .i64 j.pc, .int .i64 j.ps, .str j.key, .int .i64 j.ot, .int .i64 j.oe, .int .i64 j.a, .int .i64 j.b, .int .i64 nx, .own 1, .int .i64 tc], .rows 9 (ps.map encP)] (.nils) [.cells [.sl [[.int .i64 1, .int .i64 e, .int .i64 n, .str [], .str []]], .int .i64 4, .int .i64 j.sh, .int .i64 j.ep, .int .i64 j.fr, .int .i64 j.to, .int .i64 j.pc, .int .i64 j.ps, .str j.key, .int .i64 j.ot, .int .i64 j.oe, .int .i64 j.a, .int .i64 j.b, .int .i64 nx, .own 1, .int .i64 tc], .rows 9 (ps.map encP)] := by
  refine FnM.mk' base Tryd.func14 rfl rfl rfl rfl ?_
  repeat' ((conv => whnf); (first
   | (with_reducible first | refine AW.seq ?_ | refine AW.region base (by kernel_rfl) ?_ | refine AW.cond ?_ | refine AW.block ?_ | refine AW.ret ?_ | refine AW.exit ?_ | refine AW.skip ?_ | refine Br.t ?_ | refine Br.f ?_)
   | (with_reducible refine Br.mkT (fun hb => (by (first | (simp at hb; done) | omega | (simp only [decide_eq_true_eq, decide_eq_false_iff_not, Bool.not_eq_true', Bool.not_eq_false'] at hb; first | omega | fail) | fail))) (fun hb => ?_))
   | (with_reducible refine Br.mkF (fun hb => (by (first | (simp at hb; done) | omega | (simp only [decide_eq_true_eq, decide_eq_false_iff_not, Bool.not_eq_true', Bool.not_eq_false'] at hb; first | omega | fail) | fail))) (fun hb => ?_))
   | ((with_reducible refine Or.inl ?_); (conv => whnf); (with_reducible refine And.intro LitSl.mk ?_))
   | refine Br.t ?_
   | refine Br.f ?_
   | (with_reducible refine Or.inr ⟨[?_, ?_], _, _, _, _, nofit_4_12 e n nx tc ⟨4, j.sh, j.ep, j.fr, j.to, j.pc, j.ps, j.key, j.ot, j.oe, j.a, j.b⟩ ps hps he f0 a0 a1 x2 dt, ?_⟩)
   | (with_reducible refine Or.inr (Or.inr ⟨[?_, ?_], _, _, _, _, nofit_4_12 e n nx tc ⟨4, j.sh, j.ep, j.fr, j.to, j.pc, j.ps, j.key, j.ot, j.oe, j.a, j.b⟩ ps hps he f0 a0 a1 x2 dt, ?_⟩))
   | (with_reducible refine Br.mk (fun hb => ?_) (fun hb => ?_) <;> (try rw [hb]) <;> (try simp only [List.length_map, decide_eq_true_eq, decide_eq_false_iff_not, Bool.not_eq_true', Bool.not_eq_false', Int.ofNat_lt, Int.ofNat_le, Int.not_lt, Int.not_le, Int.toNat_natCast] at hb))
   | ((with_reducible first | refine Or.inl (And.intro ?_ ?_) | refine And.intro ?_ ?_); (focus (first | with_reducible rfl | exact trivial | (exact ⟨rfl, trivial⟩) | (exact ⟨rfl, rfl, trivial⟩) | omega | (intro r hr; simp only [List.mem_singleton] at hr; subst hr; rfl)  | ((simp only [in64, maxLen] at *; omega)) | ((simp only [List.length_map]; omega)) | ((exact ⟨by omega, by simp only [List.length_map]; omega⟩)) | (simp only [in64]; omega) | assumption | (simp; done) | (simp [V.cells]; done) | (simp [in64, maxLen, limK] at *; omega) | ((show confB _ _ = true); kernel_rfl) | rfl)))
   | (intro row hrow; (try simp only [Int.toNat_natCast, List.length_map, toNat_pred, toNat_succ', toNat_zero', toNat_one'] at hrow); (first | (have hsm := same_map (by assumption) hrow; subst hsm; clear hrow) | (obtain ⟨p, hp, rfl⟩ := of_map hrow; clear hrow)))))
  all_goals (conv => whnf)
  all_goals (refine ⟨[0, 1], ?_⟩)
  all_goals (repeat' (first | (with_reducible rfl) | exact trivial | ((conv => whnf); (first | (with_reducible refine And.intro ?_ ?_) | exact trivial | (intro hb; first | (exfalso; simp_all; done) | skip)))))
  all_goals (first | rfl)

set_option maxRecDepth 100000 in
set_option maxHeartbeats 400000 in
theorem nofit_5_14 (e n nx tc : Int) (j : JobV) (ps : List Bs) (hps : ps.length ≤ 10) (he : 0 ≤ j.ep ∧ j.ep ≤ 1000) (f0 a0 a1 x2 : Int) (dt : Bs)  : FnM Tryd.prog 36 [.ptr 0 0, .agg [.int .i64 14, .int .i64 f0, .int .i64 100, .int .i64 a0, .int .i64 a1, .int .i64 x2, .int .i64 0, .int .i64 0, .int .i64 0, .str [], .str [], .str [], .int .i64 0, .nils, .int .i64 0, .str [], .int .i64 0, .nils, .str [], .str [], .nils, .nils, .nils, .str dt]] [.cells [.sl [[.int .i64 1, .int .i64 e, .int .i64 n, .str [], .str []]], .int .i64 5, .int .i64 j.sh, .int .i64 j.ep, .int .i64 j.fr, .int .i64 j.to, .int .i64 j.pc, .int .i64 j.ps, .str j.key, .int .i64 j.ot, .int .i64 j.oe, .int .i64 j.a, .int .i64 j.b, .int .i64 nx, .own 1, .int .i64 tc], .rows 9 (ps.map encP)] (.bool false) [.cells [.sl [[.int .i64 1, .int .i64 e, .int .i64 n, .str [], .str []]], .int .i64 5, .int .i64 j.sh, .int .i64 j.ep, .int .i64 j.fr, .int .i64 j.to, .int .i64 j.pc, .int .i64 j.ps, .str j.key, .int .i64 j.ot, .int .i64 j.oe, .int .i64 j.a, .int .i64 j.b, .int .i64 nx, .own 1, .int .i64 tc], .rows 9 (ps.map encP)] := by
  refine FnM.mk' base Tryd.func36 rfl rfl rfl rfl ?_
  repeat' ((conv => whnf); (first
   | (with_reducible first | refine AW.seq ?_ | refine AW.region base (by kernel_rfl) ?_ | refine AW.cond ?_ | refine AW.block ?_ | refine AW.ret ?_ | refine AW.exit ?_ | refine AW.skip ?_ | refine Br.t ?_ | refine Br.f ?_)
   | (with_reducible refine Br.mkT (fun hb => (by (first | (simp at hb; done) | omega | (simp only [decide_eq_true_eq, decide_eq_false_iff_not, Bool.not_eq_true', Bool.not_eq_false'] at hb; first | omega | fail) | fail))) (fun hb => ?_))
   | (with_reducible refine Br.mkF (fun hb => (by (first | (simp at hb; done) | omega | (simp only [decide_eq_true_eq, decide_eq_false_iff_not, Bool.not_eq_true', Bool.not_eq_false'] at hb; first | omega | fail) | fail))) (fun hb => ?_))
   | ((with_reducible refine Or.inl ?_); (conv => whnf); (with_reducible refine And.intro LitSl.mk ?_))
   | refine Br.t ?_
   | refine Br.f ?_
   | (intro row hrow; have e0 := Option.some.inj (show some _ = some row from hrow); subst e0)
   | ((with_reducible refine Or.inl ?_); (conv => whnf); (first | (with_reducible first | refine ⟨_, ans_fn 17 (by decide) (by decide), ?_⟩)))
   | (with_reducible refine Or.inr ⟨[?_, ?_], _, _, _, _, says_5o e n nx tc ⟨5, j.sh, j.ep, j.fr, j.to, j.pc, j.ps, j.key, j.ot, j.oe, j.a, j.b⟩ ps hps he, ?_⟩)
   | (with_reducible refine Or.inr (Or.inr ⟨[?_, ?_], _, _, _, _, says_5o e n nx tc ⟨5, j.sh, j.ep, j.fr, j.to, j.pc, j.ps, j.key, j.ot, j.oe, j.a, j.b⟩ ps hps he, ?_⟩))
   | (with_reducible refine Br.mk (fun hb => ?_) (fun hb => ?_) <;> (try rw [hb]) <;> (try simp only [List.length_map, decide_eq_true_eq, decide_eq_false_iff_not, Bool.not_eq_true', Bool.not_eq_false', Int.ofNat_lt, Int.ofNat_le, Int.not_lt, Int.not_le, Int.toNat_natCast] at hb))
   | ((with_reducible first | refine Or.inl (And.intro ?_ ?_) | refine And.intro ?_ ?_); (focus (first | with_reducible rfl | exact trivial | (exact ⟨rfl, trivial⟩) | (exact ⟨rfl, rfl, trivial⟩) | omega | (intro r hr; simp only [List.mem_singleton] at hr; subst hr; rfl)  | ((simp only [in64, maxLen] at *; omega)) | ((simp only [List.length_map]; omega)) | ((exact ⟨by omega, by simp only [List.length_map]; omega⟩)) | (simp only [in64]; omega) | assumption | (simp; done) | (simp [V.cells]; done) | (simp [in64, maxLen, limK] at *; omega) | ((show confB _ _ = true); kernel_rfl) | rfl)))
   | (intro row hrow; (try simp only [Int.toNat_natCast, List.length_map, toNat_pred, toNat_succ', toNat_zero', toNat_one'] at hrow); (first | (have hsm := same_map (by assumption) hrow; subst hsm; clear hrow) | (obtain ⟨p, hp, rfl⟩ := of_map hrow; clear hrow)))))
  all_goals (conv => whnf)
  all_goals (refine ⟨[0, 1], ?_⟩)
  all_goals (repeat' (first | (with_reducible rfl) | exact trivial | ((conv => whnf); (first | (with_reducible refine And.intro ?_ ?_) | exact trivial | (intro hb; first | (exfalso; simp_all; done) | skip)))))
  all_goals (first | rfl)

set_option maxRecDepth 100000 in
set_option maxHeartbeats 400000 in
theorem notake_5_14 (e n nx tc : Int) (j : JobV) (ps : List Bs) (hps : ps.length ≤ 10) (he : 0 ≤ j.ep ∧ j.ep ≤ 1000) (f0 a0 a1 x2 : Int) (dt : Bs)  : FnM Tryd.prog 14 [.ptr 0 0, .agg [.int .i64 14, .int .i64 f0, .int .i64 100, .int .i64 a0, .int .i64 a1, .int .i64 x2, .int .i64 0, .int .i64 0, .int .i64 0, .str [], .str [], .str [], .int .i64 0, .nils, .int .i64 0, .str [], .int .i64 0, .nils, .str [], .str [], .nils, .nils, .nils, .str dt]] [.cells [.sl [[.int .i64 1, .int .i64 e, .int .i64 n, .str [], .str []]], .int .i64 5, .int .i64 j.sh, .int .i64 j.ep, .int .i64 j.fr, .int .i64 j.to, .int .i64 j.pc, .int .i64 j.ps, .str j.key, .int .i64 j.ot, .int .i64 j.oe, .int .i64 j.a, .int .i64 j.b, .int .i64 nx, .own 1, .int .i64 tc], .rows 9 (ps.map encP)] (.nils) [.cells [.sl [[.int .i64 1, .int .i64 e, .int .i64 n, .str [], .str []]], .int .i64 5, .int .i64 j.sh, .int .i64 j.ep, .int .i64 j.fr, .int .i64 j.to, .int .i64 j.pc, .int .i64 j.ps, .str j.key, .int .i64 j.ot, .int .i64 j.oe, .int .i64 j.a, .int .i64 j.b, .int .i64 nx, .own 1, .int .i64 tc], .rows 9 (ps.map encP)] := by
  refine FnM.mk' base Tryd.func14 rfl rfl rfl rfl ?_
  repeat' ((conv => whnf); (first
   | (with_reducible first | refine AW.seq ?_ | refine AW.region base (by kernel_rfl) ?_ | refine AW.cond ?_ | refine AW.block ?_ | refine AW.ret ?_ | refine AW.exit ?_ | refine AW.skip ?_ | refine Br.t ?_ | refine Br.f ?_)
   | (with_reducible refine Br.mkT (fun hb => (by (first | (simp at hb; done) | omega | (simp only [decide_eq_true_eq, decide_eq_false_iff_not, Bool.not_eq_true', Bool.not_eq_false'] at hb; first | omega | fail) | fail))) (fun hb => ?_))
   | (with_reducible refine Br.mkF (fun hb => (by (first | (simp at hb; done) | omega | (simp only [decide_eq_true_eq, decide_eq_false_iff_not, Bool.not_eq_true', Bool.not_eq_false'] at hb; first | omega | fail) | fail))) (fun hb => ?_))
   | ((with_reducible refine Or.inl ?_); (conv => whnf); (with_reducible refine And.intro LitSl.mk ?_))
   | refine Br.t ?_
   | refine Br.f ?_
   | (with_reducible refine Or.inr ⟨[?_, ?_], _, _, _, _, nofit_5_14 e n nx tc ⟨5, j.sh, j.ep, j.fr, j.to, j.pc, j.ps, j.key, j.ot, j.oe, j.a, j.b⟩ ps hps he f0 a0 a1 x2 dt, ?_⟩)
   | (with_reducible refine Or.inr (Or.inr ⟨[?_, ?_], _, _, _, _, nofit_5_14 e n nx tc ⟨5, j.sh, j.ep, j.fr, j.to, j.pc, j.ps, j.key, j.ot, j.oe, j.a, j.b⟩ ps hps he f0 a0 a1 x2 dt, ?_⟩))
   | (with_reducible refine Br.mk (fun hb => ?_) (fun hb => ?_) <;> (try rw [hb]) <;> (try simp only [List.length_map, decide_eq_true_eq, decide_eq_false_iff_not, Bool.not_eq_true', Bool.not_eq_false', Int.ofNat_lt, Int.ofNat_le, Int.not_lt, Int.not_le, Int.toNat_natCast] at hb))
   | ((with_reducible first | refine Or.inl (And.intro ?_ ?_) | refine And.intro ?_ ?_); (focus (first | with_reducible rfl | exact trivial | (exact ⟨rfl, trivial⟩) | (exact ⟨rfl, rfl, trivial⟩) | omega | (intro r hr; simp only [List.mem_singleton] at hr; subst hr; rfl)  | ((simp only [in64, maxLen] at *; omega)) | ((simp only [List.length_map]; omega)) | ((exact ⟨by omega, by simp only [List.length_map]; omega⟩)) | (simp only [in64]; omega) | assumption | (simp; done) | (simp [V.cells]; done) | (simp [in64, maxLen, limK] at *; omega) | ((show confB _ _ = true); kernel_rfl) | rfl)))
   | (intro row hrow; (try simp only [Int.toNat_natCast, List.length_map, toNat_pred, toNat_succ', toNat_zero', toNat_one'] at hrow); (first | (have hsm := same_map (by assumption) hrow; subst hsm; clear hrow) | (obtain ⟨p, hp, rfl⟩ := of_map hrow; clear hrow)))))
  all_goals (conv => whnf)
  all_goals (refine ⟨[0, 1], ?_⟩)
  all_goals (repeat' (first | (with_reducible rfl) | exact trivial | ((conv => whnf); (first | (with_reducible refine And.intro ?_ ?_) | exact trivial | (intro hb; first | (exfalso; simp_all; done) | skip)))))
  all_goals (first | rfl)

set_option maxRecDepth 100000 in
set_option maxHeartbeats 400000 in
theorem nofit_2_10 (e n nx tc : Int) (j : JobV) (ps : List Bs) (hps : ps.length ≤ 10) (he : 0 ≤ j.ep ∧ j.ep ≤ 1000) (x2 : Int) (hx : ¬ x2 = j.pc) (dt : Bs)  : FnM Tryd.prog 36 [.ptr 0 0, .agg [.int .i64 10, .int .i64 j.fr, .int .i64 100, .int .i64 j.sh, .int .i64 j.ep, .int .i64 x2, .int .i64 0, .int .i64 0, .int .i64 0, .str [], .str [], .str [], .int .i64 0, .nils, .int .i64 0, .str [], .int .i64 0, .nils, .str [], .str [], .nils, .nils, .nils, .str dt]] [.cells [.sl [[.int .i64 1, .int .i64 e, .int .i64 n, .str [], .str []]], .int .i64 2, .int .i64 j.sh, .int .i64 j.ep, .int .i64 j.fr, .int .i64 j.to, .int .i64 j.pc, .int .i64 j.ps, .str j.key, .int .i64 j.ot, .int .i64 j.oe, .int .i64 j.a, .int .i64 j.b, .int .i64 nx, .own 1, .int .i64 tc], .rows 9 (ps.map encP)] (.bool false) [.cells [.sl [[.int .i64 1, .int .i64 e, .int .i64 n, .str [], .str []]], .int .i64 2, .int .i64 j.sh, .int .i64 j.ep, .int .i64 j.fr, .int .i64 j.to, .int .i64 j.pc, .int .i64 j.ps, .str j.key, .int .i64 j.ot, .int .i64 j.oe, .int .i64 j.a, .int .i64 j.b, .int .i64 nx, .own 1, .int .i64 tc], .rows 9 (ps.map encP)] := by
  refine FnM.mk' base Tryd.func36 rfl rfl rfl rfl ?_
  repeat' ((conv => whnf); (first
   | (with_reducible first | refine AW.seq ?_ | refine AW.region base (by kernel_rfl) ?_ | refine AW.cond ?_ | refine AW.block ?_ | refine AW.ret ?_ | refine AW.exit ?_ | refine AW.skip ?_ | refine Br.t ?_ | refine Br.f ?_)
   | (with_reducible refine Br.mkT (fun hb => (by (first | (simp at hb; done) | omega | (simp only [decide_eq_true_eq, decide_eq_false_iff_not, Bool.not_eq_true', Bool.not_eq_false'] at hb; first | omega | fail) | fail))) (fun hb => ?_))
   | (with_reducible refine Br.mkF (fun hb => (by (first | (simp at hb; done) | omega | (simp only [decide_eq_true_eq, decide_eq_false_iff_not, Bool.not_eq_true', Bool.not_eq_false'] at hb; first | omega | fail) | fail))) (fun hb => ?_))
   | ((with_reducible refine Or.inl ?_); (conv => whnf); (with_reducible refine And.intro LitSl.mk ?_))
   | refine Br.t ?_
   | refine Br.f ?_
   | (intro row hrow; have e0 := Option.some.inj (show some _ = some row from hrow); subst e0)
   | ((with_reducible refine Or.inl ?_); (conv => whnf); (first | (with_reducible first | refine ⟨_, ans_fn 9 (by decide) (by decide), ?_⟩)))
   | (with_reducible refine Or.inr ⟨[?_, ?_], _, _, _, _, says_2o e n nx tc ⟨2, j.sh, j.ep, j.fr, j.to, j.pc, j.ps, j.key, j.ot, j.oe, j.a, j.b⟩ ps hps he, ?_⟩)
   | (with_reducible refine Or.inr (Or.inr ⟨[?_, ?_], _, _, _, _, says_2o e n nx tc ⟨2, j.sh, j.ep, j.fr, j.to, j.pc, j.ps, j.key, j.ot, j.oe, j.a, j.b⟩ ps hps he, ?_⟩))
   | (with_reducible refine Br.mk (fun hb => ?_) (fun hb => ?_) <;> (try rw [hb]) <;> (try simp only [List.length_map, decide_eq_true_eq, decide_eq_false_iff_not, Bool.not_eq_true', Bool.not_eq_false', Int.ofNat_lt, Int.ofNat_le, Int.not_lt, Int.not_le, Int.toNat_natCast] at hb))
   | ((with_reducible first | refine Or.inl (And.intro ?_ ?_) | refine And.intro ?_ ?_); (focus (first | with_reducible rfl | exact trivial | (exact ⟨rfl, trivial⟩) | (exact ⟨rfl, rfl, trivial⟩) | omega | (intro r hr; simp only [List.mem_singleton] at hr; subst hr; rfl)  | ((simp only [in64, maxLen] at *; omega)) | ((simp only [List.length_map]; omega)) | ((exact ⟨by omega, by simp only [List.length_map]; omega⟩)) | (simp only [in64]; omega) | assumption | (simp; done) | (simp [V.cells]; done) | (simp [in64, maxLen, limK] at *; omega) | ((show confB _ _ = true); kernel_rfl) | rfl)))
   | (intro row hrow; (try simp only [Int.toNat_natCast, List.length_map, toNat_pred, toNat_succ', toNat_zero', toNat_one'] at hrow); (first | (have hsm := same_map (by assumption) hrow; subst hsm; clear hrow) | (obtain ⟨p, hp, rfl⟩ := of_map hrow; clear hrow)))))
  all_goals (conv => whnf)
  all_goals (refine ⟨[0, 1], ?_⟩)
  all_goals (repeat' (first | (with_reducible rfl) | exact trivial | ((conv => whnf); (first | (with_reducible refine And.intro ?_ ?_) | exact trivial | (intro hb; first | (exfalso; simp_all; done) | skip)))))
  all_goals (first | rfl | (exact congrArg V.bool (decide_eq_false hx)))

set_option maxRecDepth 100000 in
set_option maxHeartbeats 400000 in
theorem notake_2_10 (e n nx tc : Int) (j : JobV) (ps : List Bs) (hps : ps.length ≤ 10) (he : 0 ≤ j.ep ∧ j.ep ≤ 1000) (x2 : Int) (hx : ¬ x2 = j.pc) (dt : Bs)  : FnM Tryd.prog 14 [.ptr 0 0, .agg [.int .i64 10, .int .i64 j.fr, .int .i64 100, .int .i64 j.sh, .int .i64 j.ep, .int .i64 x2, .int .i64 0, .int .i64 0, .int .i64 0, .str [], .str [], .str [], .int .i64 0, .nils, .int .i64 0, .str [], .int .i64 0, .nils, .str [], .str [], .nils, .nils, .nils, .str dt]] [.cells [.sl [[.int .i64 1, .int .i64 e, .int .i64 n, .str [], .str []]], .int .i64 2, .int .i64 j.sh, .int .i64 j.ep, .int .i64 j.fr, .int .i64 j.to, .int .i64 j.pc, .int .i64 j.ps, .str j.key, .int .i64 j.ot, .int .i64 j.oe, .int .i64 j.a, .int .i64 j.b, .int .i64 nx, .own 1, .int .i64 tc], .rows 9 (ps.map encP)] (.nils) [.cells [.sl [[.int .i64 1, .int .i64 e, .int .i64 n, .str [], .str []]], .int .i64 2, .int .i64 j.sh, .int .i64 j.ep, .int .i64 j.fr, .int .i64 j.to, .int .i64 j.pc, .int .i64 j.ps, .str j.key, .int .i64 j.ot, .int .i64 j.oe, .int .i64 j.a, .int .i64 j.b, .int .i64 nx, .own 1, .int .i64 tc], .rows 9 (ps.map encP)] := by
  refine FnM.mk' base Tryd.func14 rfl rfl rfl rfl ?_
  repeat' ((conv => whnf); (first
   | (with_reducible first | refine AW.seq ?_ | refine AW.region base (by kernel_rfl) ?_ | refine AW.cond ?_ | refine AW.block ?_ | refine AW.ret ?_ | refine AW.exit ?_ | refine AW.skip ?_ | refine Br.t ?_ | refine Br.f ?_)
   | (with_reducible refine Br.mkT (fun hb => (by (first | (simp at hb; done) | omega | (simp only [decide_eq_true_eq, decide_eq_false_iff_not, Bool.not_eq_true', Bool.not_eq_false'] at hb; first | omega | fail) | fail))) (fun hb => ?_))
   | (with_reducible refine Br.mkF (fun hb => (by (first | (simp at hb; done) | omega | (simp only [decide_eq_true_eq, decide_eq_false_iff_not, Bool.not_eq_true', Bool.not_eq_false'] at hb; first | omega | fail) | fail))) (fun hb => ?_))
   | ((with_reducible refine Or.inl ?_); (conv => whnf); (with_reducible refine And.intro LitSl.mk ?_))
   | refine Br.t ?_
   | refine Br.f ?_
   | (with_reducible refine Or.inr ⟨[?_, ?_], _, _, _, _, nofit_2_10 e n nx tc ⟨2, j.sh, j.ep, j.fr, j.to, j.pc, j.ps, j.key, j.ot, j.oe, j.a, j.b⟩ ps hps he x2 hx dt, ?_⟩)
   | (with_reducible refine Or.inr (Or.inr ⟨[?_, ?_], _, _, _, _, nofit_2_10 e n nx tc ⟨2, j.sh, j.ep, j.fr, j.to, j.pc, j.ps, j.key, j.ot, j.oe, j.a, j.b⟩ ps hps he x2 hx dt, ?_⟩))
   | (with_reducible refine Br.mk (fun hb => ?_) (fun hb => ?_) <;> (try rw [hb]) <;> (try simp only [List.length_map, decide_eq_true_eq, decide_eq_false_iff_not, Bool.not_eq_true', Bool.not_eq_false', Int.ofNat_lt, Int.ofNat_le, Int.not_lt, Int.not_le, Int.toNat_natCast] at hb))
   | ((with_reducible first | refine Or.inl (And.intro ?_ ?_) | refine And.intro ?_ ?_); (focus (first | with_reducible rfl | exact trivial | (exact ⟨rfl, trivial⟩) | (exact ⟨rfl, rfl, trivial⟩) | omega | (intro r hr; simp only [List.mem_singleton] at hr; subst hr; rfl)  | ((simp only [in64, maxLen] at *; omega)) | ((simp only [List.length_map]; omega)) | ((exact ⟨by omega, by simp only [List.length_map]; omega⟩)) | (simp only [in64]; omega) | assumption | (simp; done) | (simp [V.cells]; done) | (simp [in64, maxLen, limK] at *; omega) | ((show confB _ _ = true); kernel_rfl) | rfl)))
   | (intro row hrow; (try simp only [Int.toNat_natCast, List.length_map, toNat_pred, toNat_succ', toNat_zero', toNat_one'] at hrow); (first | (have hsm := same_map (by assumption) hrow; subst hsm; clear hrow) | (obtain ⟨p, hp, rfl⟩ := of_map hrow; clear hrow)))))
  all_goals (conv => whnf)
  all_goals (refine ⟨[0, 1], ?_⟩)
  all_goals (repeat' (first | (with_reducible rfl) | exact trivial | ((conv => whnf); (first | (with_reducible refine And.intro ?_ ?_) | exact trivial | (intro hb; first | (exfalso; simp_all; done) | skip)))))
  all_goals (first | rfl)

set_option maxRecDepth 100000 in
set_option maxHeartbeats 400000 in
theorem nofit_3_12 (e n nx tc : Int) (j : JobV) (ps : List Bs) (hps : ps.length ≤ 10) (he : 0 ≤ j.ep ∧ j.ep ≤ 1000) (x2 : Int) (hx : ¬ x2 = j.pc) (dt : Bs) (data : Bs) (hp0 : 0 ≤ j.pc) (hp : ps[j.pc.toNat]? = some data)  : FnM Tryd.prog 36 [.ptr 0 0, .agg [.int .i64 12, .int .i64 j.to, .int .i64 100, .int .i64 j.sh, .int .i64 (j.ep + 1), .int .i64 x2, .int .i64 0, .int .i64 0, .int .i64 0, .str [], .str [], .str [], .int .i64 0, .nils, .int .i64 0, .str [], .int .i64 0, .nils, .str [], .str [], .nils, .nils, .nils, .str dt]] [.cells [.sl [[.int .i64 1, .int .i64 e, .int .i64 n, .str [], .str []]], .int .i64 3, .int .i64 j.sh, .int .i64 j.ep, .int .i64 j.fr, .int .i64 j.to, .int .i64 j.pc, .int .i64 j.ps, .str j.key, .int .i64 j.ot, .int .i64 j.oe, .int .i64 j.a, .int .i64 j.b, .int .i64 nx, .own 1, .int .i64 tc], .rows 9 (ps.map encP)] (.bool false) [.cells [.sl [[.int .i64 1, .int .i64 e, .int .i64 n, .str [], .str []]], .int .i64 3, .int .i64 j.sh, .int .i64 j.ep, .int .i64 j.fr, .int .i64 j.to, .int .i64 j.pc, .int .i64 j.ps, .str j.key, .int .i64 j.ot, .int .i64 j.oe, .int .i64 j.a, .int .i64 j.b, .int .i64 nx, .own 1, .int .i64 tc], .rows 9 (ps.map encP)] := by
  refine FnM.mk' base Tryd.func36 rfl rfl rfl rfl ?_
  repeat' ((conv => whnf); (first
   | (with_reducible first | refine AW.seq ?_ | refine AW.region base (by kernel_rfl) ?_ | refine AW.cond ?_ | refine AW.block ?_ | refine AW.ret ?_ | refine AW.exit ?_ | refine AW.skip ?_ | refine Br.t ?_ | refine Br.f ?_)
   | (with_reducible refine Br.mkT (fun hb => (by (first | (simp at hb; done) | omega | (simp only [decide_eq_true_eq, decide_eq_false_iff_not, Bool.not_eq_true', Bool.not_eq_false'] at hb; first | omega | fail) | fail))) (fun hb => ?_))
   | (with_reducible refine Br.mkF (fun hb => (by (first | (simp at hb; done) | omega | (simp only [decide_eq_true_eq, decide_eq_false_iff_not, Bool.not_eq_true', Bool.not_eq_false'] at hb; first | omega | fail) | fail))) (fun hb => ?_))
   | ((with_reducible refine Or.inl ?_); (conv => whnf); (with_reducible refine And.intro LitSl.mk ?_))
   | refine Br.t ?_
   | refine Br.f ?_
   | (intro row hrow; have e0 := Option.some.inj (show some _ = some row from hrow); subst e0)
   | ((with_reducible refine Or.inl ?_); (conv => whnf); (first | (with_reducible first | refine ⟨_, ans_fn 11 (by decide) (by decide), ?_⟩)))
   | (with_reducible refine Or.inr ⟨[?_, ?_], _, _, _, _, says_3o e n nx tc ⟨3, j.sh, j.ep, j.fr, j.to, j.pc, j.ps, j.key, j.ot, j.oe, j.a, j.b⟩ ps hps he data hp0 hp, ?_⟩)
   | (with_reducible refine Or.inr (Or.inr ⟨[?_, ?_], _, _, _, _, says_3o e n nx tc ⟨3, j.sh, j.ep, j.fr, j.to, j.pc, j.ps, j.key, j.ot, j.oe, j.a, j.b⟩ ps hps he data hp0 hp, ?_⟩))
   | (with_reducible refine Br.mk (fun hb => ?_) (fun hb => ?_) <;> (try rw [hb]) <;> (try simp only [List.length_map, decide_eq_true_eq, decide_eq_false_iff_not, Bool.not_eq_true', Bool.not_eq_false', Int.ofNat_lt, Int.ofNat_le, Int.not_lt, Int.not_le, Int.toNat_natCast] at hb))
   | ((with_reducible first | refine Or.inl (And.intro ?_ ?_) | refine And.intro ?_ ?_); (focus (first | with_reducible rfl | exact trivial | (exact ⟨rfl, trivial⟩) | (exact ⟨rfl, rfl, trivial⟩) | omega | (intro r hr; simp only [List.mem_singleton] at hr; subst hr; rfl)  | ((simp only [in64, maxLen] at *; omega)) | ((simp only [List.length_map]; omega)) | ((exact ⟨by omega, by simp only [List.length_map]; omega⟩)) | (simp only [in64]; omega) | assumption | (simp; done) | (simp [V.cells]; done) | (simp [in64, maxLen, limK] at *; omega) | ((show confB _ _ = true); kernel_rfl) | rfl)))
   | (intro row hrow; (try simp only [Int.toNat_natCast, List.length_map, toNat_pred, toNat_succ', toNat_zero', toNat_one'] at hrow); (first | (have hsm := same_map (by assumption) hrow; subst hsm; clear hrow) | (obtain ⟨p, hp, rfl⟩ := of_map hrow; clear hrow)))))
  all_goals (conv => whnf)
  all_goals (refine ⟨[0, 1], ?_⟩)
  all_goals (repeat' (first | (with_reducible rfl) | exact trivial | ((conv => whnf); (first | (with_reducible refine And.intro ?_ ?_) | exact trivial | (intro hb; first | (exfalso; simp_all; done) | skip)))))
  all_goals (first | rfl | (exact congrArg V.bool (decide_eq_false hx)))

set_option maxRecDepth 100000 in
set_option maxHeartbeats 400000 in
theorem notake_3_12 (e n nx tc : Int) (j : JobV) (ps : List Bs) (hps : ps.length ≤ 10) (he : 0 ≤ j.ep ∧ j.ep ≤ 1000) (x2 : Int) (hx : ¬ x2 = j.pc) (dt : Bs) (data : Bs) (hp0 : 0 ≤ j.pc) (hp : ps[j.pc.toNat]? = some data)  : FnM Tryd.prog 14 [.ptr 0 0, .agg [.int .i64 12, .int .i64 j.to, .int .i64 100, .int .i64 j.sh, .int .i64 (j.ep + 1), .int .i64 x2, .int .i64 0, .int .i64 0, .int .i64 0, .str [], .str [], .str [], .int .i64 0, .nils, .int .i64 0, .str [], .int .i64 0, .nils, .str [], .str [], .nils, .nils, .nils, .str dt]] [.cells [.sl [[.int .i64 1, .int .i64 e, .int .i64 n, .str [], .str []]], .int .i64 3, .int .i64 j.sh, .int .i64 j.ep, .int .i64 j.fr, .int .i64 j.to, .int .i64 j.pc, .int .i64 j.ps, .str j.key, .int .i64 j.ot, .int .i64 j.oe, .int .i64 j.a, .int .i64 j.b, .int .i64 nx, .own 1, .int .i64 tc], .rows 9 (ps.map encP)] (.nils) [.cells [.sl [[.int .i64 1, .int .i64 e, .int .i64 n, .str [], .str []]], .int .i64 3, .int .i64 j.sh, .int .i64 j.ep, .int .i64 j.fr, .int .i64 j.to, .int .i64 j.pc, .int .i64 j.ps, .str j.key, .int .i64 j.ot, .int .i64 j.oe, .int .i64 j.a, .int .i64 j.b, .int .i64 nx, .own 1, .int .i64 tc], .rows 9 (ps.map encP)] := by
  refine FnM.mk' base Tryd.func14 rfl rfl rfl rfl ?_
  repeat' ((conv => whnf); (first
   | (with_reducible first | refine AW.seq ?_ | refine AW.region base (by kernel_rfl) ?_ | refine AW.cond ?_ | refine AW.block ?_ | refine AW.ret ?_ | refine AW.exit ?_ | refine AW.skip ?_ | refine Br.t ?_ | refine Br.f ?_)
   | (with_reducible refine Br.mkT (fun hb => (by (first | (simp at hb; done) | omega | (simp only [decide_eq_true_eq, decide_eq_false_iff_not, Bool.not_eq_true', Bool.not_eq_false'] at hb; first | omega | fail) | fail))) (fun hb => ?_))
   | (with_reducible refine Br.mkF (fun hb => (by (first | (simp at hb; done) | omega | (simp only [decide_eq_true_eq, decide_eq_false_iff_not, Bool.not_eq_true', Bool.not_eq_false'] at hb; first | omega | fail) | fail))) (fun hb => ?_))
   | ((with_reducible refine Or.inl ?_); (conv => whnf); (with_reducible refine And.intro LitSl.mk ?_))
   | refine Br.t ?_
   | refine Br.f ?_
   | (with_reducible refine Or.inr ⟨[?_, ?_], _, _, _, _, nofit_3_12 e n nx tc ⟨3, j.sh, j.ep, j.fr, j.to, j.pc, j.ps, j.key, j.ot, j.oe, j.a, j.b⟩ ps hps he x2 hx dt data hp0 hp, ?_⟩)
   | (with_reducible refine Or.inr (Or.inr ⟨[?_, ?_], _, _, _, _, nofit_3_12 e n nx tc ⟨3, j.sh, j.ep, j.fr, j.to, j.pc, j.ps, j.key, j.ot, j.oe, j.a, j.b⟩ ps hps he x2 hx dt data hp0 hp, ?_⟩))
   | (with_reducible refine Br.mk (fun hb => ?_) (fun hb => ?_) <;> (try rw [hb]) <;> (try simp only [List.length_map, decide_eq_true_eq, decide_eq_false_iff_not, Bool.not_eq_true', Bool.not_eq_false', Int.ofNat_lt, Int.ofNat_le, Int.not_lt, Int.not_le, Int.toNat_natCast] at hb))
   | ((with_reducible first | refine Or.inl (And.intro ?_ ?_) | refine And.intro ?_ ?_); (focus (first | with_reducible rfl | exact trivial | (exact ⟨rfl, trivial⟩) | (exact ⟨rfl, rfl, trivial⟩) | omega | (intro r hr; simp only [List.mem_singleton] at hr; subst hr; rfl)  | ((simp only [in64, maxLen] at *; omega)) | ((simp only [List.length_map]; omega)) | ((exact ⟨by omega, by simp only [List.length_map]; omega⟩)) | (simp only [in64]; omega) | assumption | (simp; done) | (simp [V.cells]; done) | (simp [in64, maxLen, limK] at *; omega) | ((show confB _ _ = true); kernel_rfl) | rfl)))
   | (intro row hrow; (try simp only [Int.toNat_natCast, List.length_map, toNat_pred, toNat_succ', toNat_zero', toNat_one'] at hrow); (first | (have hsm := same_map (by assumption) hrow; subst hsm; clear hrow) | (obtain ⟨p, hp, rfl⟩ := of_map hrow; clear hrow)))))
  all_goals (conv => whnf)
  all_goals (refine ⟨[0, 1], ?_⟩)
  all_goals (repeat' (first | (with_reducible rfl) | exact trivial | ((conv => whnf); (first | (with_reducible refine And.intro ?_ ?_) | exact trivial | (intro hb; first | (exfalso; simp_all; done) | skip)))))
  all_goals (first | rfl)

set_option maxRecDepth 100000 in
set_option maxHeartbeats 400000 in
theorem nofit_0_18 (e n nx tc : Int) (j : JobV) (f0 a0 a1 x2 : Int) (dt : Bs)  : FnM Tryd.prog 36 [.ptr 0 0, .agg [.int .i64 18, .int .i64 f0, .int .i64 100, .int .i64 a0, .int .i64 a1, .int .i64 x2, .int .i64 0, .int .i64 0, .int .i64 0, .str [], .str [], .str [], .int .i64 0, .nils, .int .i64 0, .str [], .int .i64 0, .nils, .str [], .str [], .nils, .nils, .nils, .str dt]] [.cells [.sl [[.int .i64 1, .int .i64 e, .int .i64 n, .str [], .str []]], .int .i64 0, .int .i64 j.sh, .int .i64 j.ep, .int .i64 j.fr, .int .i64 j.to, .int .i64 j.pc, .int .i64 j.ps, .str j.key, .int .i64 j.ot, .int .i64 j.oe, .int .i64 j.a, .int .i64 j.b, .int .i64 nx, .nils, .int .i64 tc]] (.bool false) [.cells [.sl [[.int .i64 1, .int .i64 e, .int .i64 n, .str [], .str []]], .int .i64 0, .int .i64 j.sh, .int .i64 j.ep, .int .i64 j.fr, .int .i64 j.to, .int .i64 j.pc, .int .i64 j.ps, .str j.key, .int .i64 j.ot, .int .i64 j.oe, .int .i64 j.a, .int .i64 j.b, .int .i64 nx, .nils, .int .i64 tc]] := by
  refine FnM.mk' base Tryd.func36 rfl rfl rfl rfl ?_
  repeat' ((conv => whnf); (first
   | (with_reducible first | refine AW.seq ?_ | refine AW.region base (by kernel_rfl) ?_ | refine AW.cond ?_ | refine AW.block ?_ | refine AW.ret ?_ | refine AW.exit ?_ | refine AW.skip ?_ | refine Br.t ?_ | refine Br.f ?_)
   | (with_reducible refine Br.mkT (fun hb => (by (first | (simp at hb; done) | omega | (simp only [decide_eq_true_eq, decide_eq_false_iff_not, Bool.not_eq_true', Bool.not_eq_false'] at hb; first | omega | fail) | fail))) (fun hb => ?_))
   | (with_reducible refine Br.mkF (fun hb => (by (first | (simp at hb; done) | omega | (simp only [decide_eq_true_eq, decide_eq_false_iff_not, Bool.not_eq_true', Bool.not_eq_false'] at hb; first | omega | fail) | fail))) (fun hb => ?_))
   | ((with_reducible refine Or.inl ?_); (conv => whnf); (with_reducible refine And.intro LitSl.mk ?_))
   | refine Br.t ?_
   | refine Br.f ?_
   | (with_reducible refine Or.inr ⟨[?_], _, _, _, _, says_0 e n nx tc j, ?_⟩)
   | (with_reducible refine Or.inr (Or.inr ⟨[?_], _, _, _, _, says_0 e n nx tc j, ?_⟩))
   | (with_reducible refine Br.mk (fun hb => ?_) (fun hb => ?_) <;> (try rw [hb]) <;> (try simp only [List.length_map, decide_eq_true_eq, decide_eq_false_iff_not, Bool.not_eq_true', Bool.not_eq_false', Int.ofNat_lt, Int.ofNat_le, Int.not_lt, Int.not_le, Int.toNat_natCast] at hb))
   | ((with_reducible first | refine Or.inl (And.intro ?_ ?_) | refine And.intro ?_ ?_); (focus (first | with_reducible rfl | exact trivial | (exact ⟨rfl, trivial⟩) | (exact ⟨rfl, rfl, trivial⟩) | omega | (intro r hr; simp only [List.mem_singleton] at hr; subst hr; rfl)  | ((simp only [in64, maxLen] at *; omega)) | ((simp only [List.length_map]; omega)) | ((exact ⟨by omega, by simp only [List.length_map]; omega⟩)) | (simp only [in64]; omega) | assumption | (simp; done) | (simp [V.cells]; done) | (simp [in64, maxLen, limK] at *; omega) | ((show confB _ _ = true); kernel_rfl) | rfl)))
   | (intro row hrow; (try simp only [Int.toNat_natCast, List.length_map, toNat_pred, toNat_succ', toNat_zero', toNat_one'] at hrow); (first | (have hsm := same_map (by assumption) hrow; subst hsm; clear hrow) | (obtain ⟨p, hp, rfl⟩ := of_map hrow; clear hrow)))))
  all_goals (conv => whnf)
  all_goals (refine ⟨[0], ?_⟩)
  all_goals (repeat' (first | (with_reducible rfl) | exact trivial | ((conv => whnf); (first | (with_reducible refine And.intro ?_ ?_) | exact trivial | (intro hb; first | (exfalso; simp_all; done) | skip)))))
  all_goals (first | rfl)

set_option maxRecDepth 100000 in
set_option maxHeartbeats 400000 in
theorem notake_0_18 (e n nx tc : Int) (j : JobV) (f0 a0 a1 x2 : Int) (dt : Bs)  : FnM Tryd.prog 14 [.ptr 0 0, .agg [.int .i64 18, .int .i64 f0, .int .i64 100, .int .i64 a0, .int .i64 a1, .int .i64 x2, .int .i64 0, .int .i64 0, .int .i64 0, .str [], .str [], .str [], .int .i64 0, .nils, .int .i64 0, .str [], .int .i64 0, .nils, .str [], .str [], .nils, .nils, .nils, .str dt]] [.cells [.sl [[.int .i64 1, .int .i64 e, .int .i64 n, .str [], .str []]], .int .i64 0, .int .i64 j.sh, .int .i64 j.ep, .int .i64 j.fr, .int .i64 j.to, .int .i64 j.pc, .int .i64 j.ps, .str j.key, .int .i64 j.ot, .int .i64 j.oe, .int .i64 j.a, .int .i64 j.b, .int .i64 nx, .nils, .int .i64 tc]] (.nils) [.cells [.sl [[.int .i64 1, .int .i64 e, .int .i64 n, .str [], .str []]], .int .i64 0, .int .i64 j.sh, .int .i64 j.ep, .int .i64 j.fr, .int .i64 j.to, .int .i64 j.pc, .int .i64 j.ps, .str j.key, .int .i64 j.ot, .int .i64 j.oe, .int .i64 j.a, .int .i64 j.b, .int .i64 nx, .nils, .int .i64 tc]] := by
  refine FnM.mk' base Tryd.func14 rfl rfl rfl rfl ?_
  repeat' ((conv => whnf); (first
   | (with_reducible first | refine AW.seq ?_ | refine AW.region base (by kernel_rfl) ?_ | refine AW.cond ?_ | refine AW.block ?_ | refine AW.ret ?_ | refine AW.exit ?_ | refine AW.skip ?_ | refine Br.t ?_ | refine Br.f ?_)
   | (with_reducible refine Br.mkT (fun hb => (by (first | (simp at hb; done) | omega | (simp only [decide_eq_true_eq, decide_eq_false_iff_not, Bool.not_eq_true', Bool.not_eq_false'] at hb; first | omega | fail) | fail))) (fun hb => ?_))
   | (with_reducible refine Br.mkF (fun hb => (by (first | (simp at hb; done) | omega | (simp only [decide_eq_true_eq, decide_eq_false_iff_not, Bool.not_eq_true', Bool.not_eq_false'] at hb; first | omega | fail) | fail))) (fun hb => ?_))
   | ((with_reducible refine Or.inl ?_); (conv => whnf); (with_reducible refine And.intro LitSl.mk ?_))
   | refine Br.t ?_
   | refine Br.f ?_
   | (with_reducible refine Or.inr ⟨[?_], _, _, _, _, nofit_0_18 e n nx tc j f0 a0 a1 x2 dt, ?_⟩)
   | (with_reducible refine Or.inr (Or.inr ⟨[?_], _, _, _, _, nofit_0_18 e n nx tc j f0 a0 a1 x2 dt, ?_⟩))
   | (with_reducible refine Br.mk (fun hb => ?_) (fun hb => ?_) <;> (try rw [hb]) <;> (try simp only [List.length_map, decide_eq_true_eq, decide_eq_false_iff_not, Bool.not_eq_true', Bool.not_eq_false', Int.ofNat_lt, Int.ofNat_le, Int.not_lt, Int.not_le, Int.toNat_natCast] at hb))
   | ((with_reducible first | refine Or.inl (And.intro ?_ ?_) | refine And.intro ?_ ?_); (focus (first | with_reducible rfl | exact trivial | (exact ⟨rfl, trivial⟩) | (exact ⟨rfl, rfl, trivial⟩) | omega | (intro r hr; simp only [List.mem_singleton] at hr; subst hr; rfl)  | ((simp only [in64, maxLen] at *; omega)) | ((simp only [List.length_map]; omega)) | ((exact ⟨by omega, by simp only [List.length_map]; omega⟩)) | (simp only [in64]; omega) | assumption | (simp; done) | (simp [V.cells]; done) | (simp [in64, maxLen, limK] at *; omega) | ((show confB _ _ = true); kernel_rfl) | rfl)))
   | (intro row hrow; (try simp only [Int.toNat_natCast, List.length_map, toNat_pred, toNat_succ', toNat_zero', toNat_one'] at hrow); (first | (have hsm := same_map (by assumption) hrow; subst hsm; clear hrow) | (obtain ⟨p, hp, rfl⟩ := of_map hrow; clear hrow)))))
  all_goals (conv => whnf)
  all_goals (refine ⟨[0], ?_⟩)
  all_goals (repeat' (first | (with_reducible rfl) | exact trivial | ((conv => whnf); (first | (with_reducible refine And.intro ?_ ?_) | exact trivial | (intro hb; first | (exfalso; simp_all; done) | skip)))))
  all_goals (first | rfl)
end Go.Proofs.YtgjbhkbjdihddaaDoor
