/-
  Walks of package mover: jobs, what ends them. No conditions.
-/
import Derived.Test.YtgjbhkbjdihddaaDoorMovA
namespace Go.Proofs.YtgjbhkbjdihddaaDoor
open Go.RowKit
set_option linter.unusedSimpArgs false
set_option linter.unusedVariables false

set_option maxRecDepth 100000 in
set_option maxHeartbeats 400000 in
theorem moveTo_ok (e n nx tc : Int) (j : JobV) (key : Bs) (hk : isKeyB key = true) (d : Int) (h0 : 0 ≤ d ∧ d < 3) (hd : ¬ n = d) (he : 0 ≤ e ∧ e ≤ 1000) : FnM Tryd.prog 11 [.ptr 0 0, .str key, .int .i64 d] [.cells [.sl [[.int .i64 1, .int .i64 e, .int .i64 n, .str [], .str []]], .int .i64 0, .int .i64 j.sh, .int .i64 j.ep, .int .i64 j.fr, .int .i64 j.to, .int .i64 j.pc, .int .i64 j.ps, .str j.key, .int .i64 j.ot, .int .i64 j.oe, .int .i64 j.a, .int .i64 j.b, .int .i64 nx, .nils, .int .i64 tc]] (.tup [.sl [[.int .i64 7, .int .i64 100, .int .i64 n, .int .i64 1, .int .i64 e, .int .i64 0, .int .i64 0, .int .i64 0, .int .i64 0, .str [], .str [], .str [], .int .i64 0, .nils, .int .i64 0, .str [], .int .i64 0, .nils, .str [], .str [], .nils, .nils, .nils, .str []]], noErr]) [.cells [.sl [[.int .i64 1, .int .i64 e, .int .i64 n, .str [], .str []]], .int .i64 1, .int .i64 1, .int .i64 e, .int .i64 n, .int .i64 d, .int .i64 0, .int .i64 0, .str [], .int .i64 0, .int .i64 0, .int .i64 0, .int .i64 0, .int .i64 nx, .nils, .int .i64 0]] := by
  refine FnM.mk' base Tryd.func11 rfl rfl rfl rfl ?_
  repeat' ((conv => whnf); (first
   | (with_reducible first | refine AW.seq ?_ | refine AW.region base (by kernel_rfl) ?_ | refine AW.cond ?_ | refine AW.block ?_ | refine AW.ret ?_ | refine AW.exit ?_ | refine AW.skip ?_ | refine Br.t ?_ | refine Br.f ?_)
   | (with_reducible refine Br.mkT (fun hb => (by (first | (simp at hb; done) | omega | (simp only [decide_eq_true_eq, decide_eq_false_iff_not, Bool.not_eq_true', Bool.not_eq_false'] at hb; first | omega | fail) | fail))) (fun hb => ?_))
   | (with_reducible refine Br.mkF (fun hb => (by (first | (simp at hb; done) | omega | (simp only [decide_eq_true_eq, decide_eq_false_iff_not, Bool.not_eq_true', Bool.not_eq_false'] at hb; first | omega | fail) | fail))) (fun hb => ?_))
   | ((with_reducible refine Or.inl ?_); (conv => whnf); (with_reducible refine And.intro LitSl.mk ?_))
   | refine Br.t ?_
   | refine Br.f ?_
   | ((with_reducible refine Or.inl ?_); (conv => whnf); (first | (with_reducible first | refine ⟨_, of_fn e n, ?_⟩ | refine ⟨_, isE_nil _, ?_⟩)))
   | (with_reducible refine Or.inr ⟨[?_], _, _, _, _, at_yes e n nx tc j key hk, ?_⟩)
   | (with_reducible refine Or.inr (Or.inr ⟨[?_], _, _, _, _, at_yes e n nx tc j key hk, ?_⟩))
   | (with_reducible refine Or.inr ⟨[?_], _, _, _, _, begins_1 e n nx tc ⟨0, 1, e, n, d, 0, 0, [], 0, 0, 0, 0⟩ 0 he, ?_⟩)
   | (with_reducible refine Or.inr (Or.inr ⟨[?_], _, _, _, _, begins_1 e n nx tc ⟨0, 1, e, n, d, 0, 0, [], 0, 0, 0, 0⟩ 0 he, ?_⟩))
   | (with_reducible refine Br.mk (fun hb => ?_) (fun hb => ?_) <;> (try rw [hb]) <;> (try simp only [List.length_map, decide_eq_true_eq, decide_eq_false_iff_not, Bool.not_eq_true', Bool.not_eq_false', Int.ofNat_lt, Int.ofNat_le, Int.not_lt, Int.not_le, Int.toNat_natCast] at hb))
   | ((with_reducible first | refine Or.inl (And.intro ?_ ?_) | refine And.intro ?_ ?_); (focus (first | with_reducible rfl | exact trivial | (exact ⟨rfl, trivial⟩) | (exact ⟨rfl, rfl, trivial⟩) | omega | (intro r hr; simp only [List.mem_singleton] at hr; subst hr; rfl)  | ((simp only [in64, maxLen] at *; omega)) | (simp only [in64]; omega) | assumption | (simp; done) | (simp [V.cells]; done) | (simp [in64, maxLen, limK] at *; omega) | ((show confB _ _ = true); kernel_rfl) | rfl)))
   | (intro row hrow; (try simp only [Int.toNat_natCast, List.length_map, toNat_pred, toNat_succ', toNat_zero', toNat_one'] at hrow); (first | (have hsm := same_map (by assumption) hrow; subst hsm; clear hrow) | (obtain ⟨p, hp, rfl⟩ := of_map hrow; clear hrow)))))
  all_goals (conv => whnf)
  all_goals (refine ⟨[0], ?_⟩)
  all_goals (repeat' (first | (with_reducible rfl) | exact trivial | ((conv => whnf); (first | (with_reducible refine And.intro ?_ ?_) | exact trivial | (intro hb; first | (exfalso; simp_all; done) | skip)))))
  all_goals (first | rfl)

set_option maxRecDepth 100000 in
set_option maxHeartbeats 400000 in
theorem move_place (e n nx tc : Int) (j : JobV) (key : Bs) (hk : isKeyB key = true) (d : Int) (h0 : d < 0 ∨ 3 ≤ d) : FnM Tryd.prog 11 [.ptr 0 0, .str key, .int .i64 d] [.cells [.sl [[.int .i64 1, .int .i64 e, .int .i64 n, .str [], .str []]], .int .i64 0, .int .i64 j.sh, .int .i64 j.ep, .int .i64 j.fr, .int .i64 j.to, .int .i64 j.pc, .int .i64 j.ps, .str j.key, .int .i64 j.ot, .int .i64 j.oe, .int .i64 j.a, .int .i64 j.b, .int .i64 nx, .nils, .int .i64 tc]] (.tup [.nils, errV [] 23]) [.cells [.sl [[.int .i64 1, .int .i64 e, .int .i64 n, .str [], .str []]], .int .i64 0, .int .i64 j.sh, .int .i64 j.ep, .int .i64 j.fr, .int .i64 j.to, .int .i64 j.pc, .int .i64 j.ps, .str j.key, .int .i64 j.ot, .int .i64 j.oe, .int .i64 j.a, .int .i64 j.b, .int .i64 nx, .nils, .int .i64 tc]] := by
  refine FnM.mk' base Tryd.func11 rfl rfl rfl rfl ?_
  repeat' ((conv => whnf); (first
   | (with_reducible first | refine AW.seq ?_ | refine AW.region base (by kernel_rfl) ?_ | refine AW.cond ?_ | refine AW.block ?_ | refine AW.ret ?_ | refine AW.exit ?_ | refine AW.skip ?_ | refine Br.t ?_ | refine Br.f ?_)
   | (with_reducible refine Br.mkT (fun hb => (by (first | (simp at hb; done) | omega | (simp only [decide_eq_true_eq, decide_eq_false_iff_not, Bool.not_eq_true', Bool.not_eq_false'] at hb; first | omega | fail) | fail))) (fun hb => ?_))
   | (with_reducible refine Br.mkF (fun hb => (by (first | (simp at hb; done) | omega | (simp only [decide_eq_true_eq, decide_eq_false_iff_not, Bool.not_eq_true', Bool.not_eq_false'] at hb; first | omega | fail) | fail))) (fun hb => ?_))
   | ((with_reducible refine Or.inl ?_); (conv => whnf); (with_reducible refine And.intro LitSl.mk ?_))
   | refine Br.t ?_
   | refine Br.f ?_
   | ((with_reducible refine Or.inl ?_); (conv => whnf); (first | (with_reducible first | refine ⟨_, isE_nil _, ?_⟩) | refine ⟨_, isE_fn [] 20 _, ?_⟩ | refine ⟨_, isE_fn [] 14 _, ?_⟩))
   | (with_reducible refine Or.inr ⟨[?_], _, _, _, _, at_yes e n nx tc j key hk, ?_⟩)
   | (with_reducible refine Or.inr (Or.inr ⟨[?_], _, _, _, _, at_yes e n nx tc j key hk, ?_⟩))
   | (with_reducible refine Br.mk (fun hb => ?_) (fun hb => ?_) <;> (try rw [hb]) <;> (try simp only [List.length_map, decide_eq_true_eq, decide_eq_false_iff_not, Bool.not_eq_true', Bool.not_eq_false', Int.ofNat_lt, Int.ofNat_le, Int.not_lt, Int.not_le, Int.toNat_natCast] at hb))
   | ((with_reducible first | refine Or.inl (And.intro ?_ ?_) | refine And.intro ?_ ?_); (focus (first | with_reducible rfl | exact trivial | (exact ⟨rfl, trivial⟩) | (exact ⟨rfl, rfl, trivial⟩) | omega | (intro r hr; simp only [List.mem_singleton] at hr; subst hr; rfl)  | ((simp only [in64, maxLen] at *; omega)) | (simp only [in64]; omega) | assumption | (simp; done) | (simp [V.cells]; done) | (simp [in64, maxLen, limK] at *; omega) | ((show confB _ _ = true); kernel_rfl) | rfl)))
   | (intro row hrow; (try simp only [Int.toNat_natCast, List.length_map, toNat_pred, toNat_succ', toNat_zero', toNat_one'] at hrow); (first | (have hsm := same_map (by assumption) hrow; subst hsm; clear hrow) | (obtain ⟨p, hp, rfl⟩ := of_map hrow; clear hrow)))))
  all_goals (conv => whnf)
  all_goals (refine ⟨[0], ?_⟩)
  all_goals (repeat' (first | (with_reducible rfl) | exact trivial | ((conv => whnf); (first | (with_reducible refine And.intro ?_ ?_) | exact trivial | (intro hb; first | (exfalso; simp_all; done) | skip)))))
  all_goals (first | rfl)

set_option maxRecDepth 100000 in
set_option maxHeartbeats 400000 in
theorem move_place2 (e n nx tc : Int) (j : JobV) (key : Bs) (hk : isKeyB key = false) (d : Int) (h0 : d < 0 ∨ 3 ≤ d) : FnM Tryd.prog 11 [.ptr 0 0, .str key, .int .i64 d] [.cells [.sl [[.int .i64 1, .int .i64 e, .int .i64 n, .str [], .str []]], .int .i64 0, .int .i64 j.sh, .int .i64 j.ep, .int .i64 j.fr, .int .i64 j.to, .int .i64 j.pc, .int .i64 j.ps, .str j.key, .int .i64 j.ot, .int .i64 j.oe, .int .i64 j.a, .int .i64 j.b, .int .i64 nx, .nils, .int .i64 tc]] (.tup [.nils, errV [] 23]) [.cells [.sl [[.int .i64 1, .int .i64 e, .int .i64 n, .str [], .str []]], .int .i64 0, .int .i64 j.sh, .int .i64 j.ep, .int .i64 j.fr, .int .i64 j.to, .int .i64 j.pc, .int .i64 j.ps, .str j.key, .int .i64 j.ot, .int .i64 j.oe, .int .i64 j.a, .int .i64 j.b, .int .i64 nx, .nils, .int .i64 tc]] := by
  refine FnM.mk' base Tryd.func11 rfl rfl rfl rfl ?_
  repeat' ((conv => whnf); (first
   | (with_reducible first | refine AW.seq ?_ | refine AW.region base (by kernel_rfl) ?_ | refine AW.cond ?_ | refine AW.block ?_ | refine AW.ret ?_ | refine AW.exit ?_ | refine AW.skip ?_ | refine Br.t ?_ | refine Br.f ?_)
   | (with_reducible refine Br.mkT (fun hb => (by (first | (simp at hb; done) | omega | (simp only [decide_eq_true_eq, decide_eq_false_iff_not, Bool.not_eq_true', Bool.not_eq_false'] at hb; first | omega | fail) | fail))) (fun hb => ?_))
   | (with_reducible refine Br.mkF (fun hb => (by (first | (simp at hb; done) | omega | (simp only [decide_eq_true_eq, decide_eq_false_iff_not, Bool.not_eq_true', Bool.not_eq_false'] at hb; first | omega | fail) | fail))) (fun hb => ?_))
   | ((with_reducible refine Or.inl ?_); (conv => whnf); (with_reducible refine And.intro LitSl.mk ?_))
   | refine Br.t ?_
   | refine Br.f ?_
   | ((with_reducible refine Or.inl ?_); (conv => whnf); (first | (with_reducible first | refine ⟨_, isE_nil _, ?_⟩) | refine ⟨_, isE_fn [] 20 _, ?_⟩ | refine ⟨_, isE_fn [] 14 _, ?_⟩))
   | (with_reducible refine Or.inr ⟨[?_], _, _, _, _, at_no e n nx tc j key hk, ?_⟩)
   | (with_reducible refine Or.inr (Or.inr ⟨[?_], _, _, _, _, at_no e n nx tc j key hk, ?_⟩))
   | (with_reducible refine Br.mk (fun hb => ?_) (fun hb => ?_) <;> (try rw [hb]) <;> (try simp only [List.length_map, decide_eq_true_eq, decide_eq_false_iff_not, Bool.not_eq_true', Bool.not_eq_false', Int.ofNat_lt, Int.ofNat_le, Int.not_lt, Int.not_le, Int.toNat_natCast] at hb))
   | ((with_reducible first | refine Or.inl (And.intro ?_ ?_) | refine And.intro ?_ ?_); (focus (first | with_reducible rfl | exact trivial | (exact ⟨rfl, trivial⟩) | (exact ⟨rfl, rfl, trivial⟩) | omega | (intro r hr; simp only [List.mem_singleton] at hr; subst hr; rfl)  | ((simp only [in64, maxLen] at *; omega)) | (simp only [in64]; omega) | assumption | (simp; done) | (simp [V.cells]; done) | (simp [in64, maxLen, limK] at *; omega) | ((show confB _ _ = true); kernel_rfl) | rfl)))
   | (intro row hrow; (try simp only [Int.toNat_natCast, List.length_map, toNat_pred, toNat_succ', toNat_zero', toNat_one'] at hrow); (first | (have hsm := same_map (by assumption) hrow; subst hsm; clear hrow) | (obtain ⟨p, hp, rfl⟩ := of_map hrow; clear hrow)))))
  all_goals (conv => whnf)
  all_goals (refine ⟨[0], ?_⟩)
  all_goals (repeat' (first | (with_reducible rfl) | exact trivial | ((conv => whnf); (first | (with_reducible refine And.intro ?_ ?_) | exact trivial | (intro hb; first | (exfalso; simp_all; done) | skip)))))
  all_goals (first | rfl)

set_option maxRecDepth 100000 in
set_option maxHeartbeats 400000 in
theorem move_none (e n nx tc : Int) (j : JobV) (key : Bs) (hk : isKeyB key = false) (d : Int) (h0 : 0 ≤ d ∧ d < 3) : FnM Tryd.prog 11 [.ptr 0 0, .str key, .int .i64 d] [.cells [.sl [[.int .i64 1, .int .i64 e, .int .i64 n, .str [], .str []]], .int .i64 0, .int .i64 j.sh, .int .i64 j.ep, .int .i64 j.fr, .int .i64 j.to, .int .i64 j.pc, .int .i64 j.ps, .str j.key, .int .i64 j.ot, .int .i64 j.oe, .int .i64 j.a, .int .i64 j.b, .int .i64 nx, .nils, .int .i64 tc]] (.tup [.nils, errV [] 14]) [.cells [.sl [[.int .i64 1, .int .i64 e, .int .i64 n, .str [], .str []]], .int .i64 0, .int .i64 j.sh, .int .i64 j.ep, .int .i64 j.fr, .int .i64 j.to, .int .i64 j.pc, .int .i64 j.ps, .str j.key, .int .i64 j.ot, .int .i64 j.oe, .int .i64 j.a, .int .i64 j.b, .int .i64 nx, .nils, .int .i64 tc]] := by
  refine FnM.mk' base Tryd.func11 rfl rfl rfl rfl ?_
  repeat' ((conv => whnf); (first
   | (with_reducible first | refine AW.seq ?_ | refine AW.region base (by kernel_rfl) ?_ | refine AW.cond ?_ | refine AW.block ?_ | refine AW.ret ?_ | refine AW.exit ?_ | refine AW.skip ?_ | refine Br.t ?_ | refine Br.f ?_)
   | (with_reducible refine Br.mkT (fun hb => (by (first | (simp at hb; done) | omega | (simp only [decide_eq_true_eq, decide_eq_false_iff_not, Bool.not_eq_true', Bool.not_eq_false'] at hb; first | omega | fail) | fail))) (fun hb => ?_))
   | (with_reducible refine Br.mkF (fun hb => (by (first | (simp at hb; done) | omega | (simp only [decide_eq_true_eq, decide_eq_false_iff_not, Bool.not_eq_true', Bool.not_eq_false'] at hb; first | omega | fail) | fail))) (fun hb => ?_))
   | ((with_reducible refine Or.inl ?_); (conv => whnf); (with_reducible refine And.intro LitSl.mk ?_))
   | refine Br.t ?_
   | refine Br.f ?_
   | ((with_reducible refine Or.inl ?_); (conv => whnf); (first | (with_reducible first | refine ⟨_, isE_nil _, ?_⟩) | refine ⟨_, isE_fn [] 20 _, ?_⟩ | refine ⟨_, isE_fn [] 14 _, ?_⟩))
   | (with_reducible refine Or.inr ⟨[?_], _, _, _, _, at_no e n nx tc j key hk, ?_⟩)
   | (with_reducible refine Or.inr (Or.inr ⟨[?_], _, _, _, _, at_no e n nx tc j key hk, ?_⟩))
   | (with_reducible refine Br.mk (fun hb => ?_) (fun hb => ?_) <;> (try rw [hb]) <;> (try simp only [List.length_map, decide_eq_true_eq, decide_eq_false_iff_not, Bool.not_eq_true', Bool.not_eq_false', Int.ofNat_lt, Int.ofNat_le, Int.not_lt, Int.not_le, Int.toNat_natCast] at hb))
   | ((with_reducible first | refine Or.inl (And.intro ?_ ?_) | refine And.intro ?_ ?_); (focus (first | with_reducible rfl | exact trivial | (exact ⟨rfl, trivial⟩) | (exact ⟨rfl, rfl, trivial⟩) | omega | (intro r hr; simp only [List.mem_singleton] at hr; subst hr; rfl)  | ((simp only [in64, maxLen] at *; omega)) | (simp only [in64]; omega) | assumption | (simp; done) | (simp [V.cells]; done) | (simp [in64, maxLen, limK] at *; omega) | ((show confB _ _ = true); kernel_rfl) | rfl)))
   | (intro row hrow; (try simp only [Int.toNat_natCast, List.length_map, toNat_pred, toNat_succ', toNat_zero', toNat_one'] at hrow); (first | (have hsm := same_map (by assumption) hrow; subst hsm; clear hrow) | (obtain ⟨p, hp, rfl⟩ := of_map hrow; clear hrow)))))
  all_goals (conv => whnf)
  all_goals (refine ⟨[0], ?_⟩)
  all_goals (repeat' (first | (with_reducible rfl) | exact trivial | ((conv => whnf); (first | (with_reducible refine And.intro ?_ ?_) | exact trivial | (intro hb; first | (exfalso; simp_all; done) | skip)))))
  all_goals (first | rfl)

set_option maxRecDepth 100000 in
set_option maxHeartbeats 400000 in
theorem move_same (e n nx tc : Int) (j : JobV) (key : Bs) (hk : isKeyB key = true) (d : Int) (h0 : 0 ≤ d ∧ d < 3) (hd : n = d) : FnM Tryd.prog 11 [.ptr 0 0, .str key, .int .i64 d] [.cells [.sl [[.int .i64 1, .int .i64 e, .int .i64 n, .str [], .str []]], .int .i64 0, .int .i64 j.sh, .int .i64 j.ep, .int .i64 j.fr, .int .i64 j.to, .int .i64 j.pc, .int .i64 j.ps, .str j.key, .int .i64 j.ot, .int .i64 j.oe, .int .i64 j.a, .int .i64 j.b, .int .i64 nx, .nils, .int .i64 tc]] (.tup [.nils, errV [] 14]) [.cells [.sl [[.int .i64 1, .int .i64 e, .int .i64 n, .str [], .str []]], .int .i64 0, .int .i64 j.sh, .int .i64 j.ep, .int .i64 j.fr, .int .i64 j.to, .int .i64 j.pc, .int .i64 j.ps, .str j.key, .int .i64 j.ot, .int .i64 j.oe, .int .i64 j.a, .int .i64 j.b, .int .i64 nx, .nils, .int .i64 tc]] := by
  refine FnM.mk' base Tryd.func11 rfl rfl rfl rfl ?_
  repeat' ((conv => whnf); (first
   | (with_reducible first | refine AW.seq ?_ | refine AW.region base (by kernel_rfl) ?_ | refine AW.cond ?_ | refine AW.block ?_ | refine AW.ret ?_ | refine AW.exit ?_ | refine AW.skip ?_ | refine Br.t ?_ | refine Br.f ?_)
   | (with_reducible refine Br.mkT (fun hb => (by (first | (simp at hb; done) | omega | (simp only [decide_eq_true_eq, decide_eq_false_iff_not, Bool.not_eq_true', Bool.not_eq_false'] at hb; first | omega | fail) | fail))) (fun hb => ?_))
   | (with_reducible refine Br.mkF (fun hb => (by (first | (simp at hb; done) | omega | (simp only [decide_eq_true_eq, decide_eq_false_iff_not, Bool.not_eq_true', Bool.not_eq_false'] at hb; first | omega | fail) | fail))) (fun hb => ?_))
   | ((with_reducible refine Or.inl ?_); (conv => whnf); (with_reducible refine And.intro LitSl.mk ?_))
   | refine Br.t ?_
   | refine Br.f ?_
   | ((with_reducible refine Or.inl ?_); (conv => whnf); (first | (with_reducible first | refine ⟨_, isE_nil _, ?_⟩) | refine ⟨_, isE_fn [] 20 _, ?_⟩ | refine ⟨_, isE_fn [] 14 _, ?_⟩))
   | (with_reducible refine Or.inr ⟨[?_], _, _, _, _, at_yes e n nx tc j key hk, ?_⟩)
   | (with_reducible refine Or.inr (Or.inr ⟨[?_], _, _, _, _, at_yes e n nx tc j key hk, ?_⟩))
   | (with_reducible refine Br.mk (fun hb => ?_) (fun hb => ?_) <;> (try rw [hb]) <;> (try simp only [List.length_map, decide_eq_true_eq, decide_eq_false_iff_not, Bool.not_eq_true', Bool.not_eq_false', Int.ofNat_lt, Int.ofNat_le, Int.not_lt, Int.not_le, Int.toNat_natCast] at hb))
   | ((with_reducible first | refine Or.inl (And.intro ?_ ?_) | refine And.intro ?_ ?_); (focus (first | with_reducible rfl | exact trivial | (exact ⟨rfl, trivial⟩) | (exact ⟨rfl, rfl, trivial⟩) | omega | (intro r hr; simp only [List.mem_singleton] at hr; subst hr; rfl)  | ((simp only [in64, maxLen] at *; omega)) | (simp only [in64]; omega) | assumption | (simp; done) | (simp [V.cells]; done) | (simp [in64, maxLen, limK] at *; omega) | ((show confB _ _ = true); kernel_rfl) | rfl)))
   | (intro row hrow; (try simp only [Int.toNat_natCast, List.length_map, toNat_pred, toNat_succ', toNat_zero', toNat_one'] at hrow); (first | (have hsm := same_map (by assumption) hrow; subst hsm; clear hrow) | (obtain ⟨p, hp, rfl⟩ := of_map hrow; clear hrow)))))
  all_goals (conv => whnf)
  all_goals (refine ⟨[0], ?_⟩)
  all_goals (repeat' (first | (with_reducible rfl) | exact trivial | ((conv => whnf); (first | (with_reducible refine And.intro ?_ ?_) | exact trivial | (intro hb; first | (exfalso; simp_all; done) | skip)))))
  all_goals (first | rfl)

set_option maxRecDepth 100000 in
set_option maxHeartbeats 400000 in
theorem cuts_fn (e n nx tc a b : Int) (key : Bs) : FnM Tryd.prog 64 [.ptr 0 0] [.cells [.sl [[.int .i64 1, .int .i64 e, .int .i64 n, .str [], .str []]], .int .i64 7, .int .i64 1, .int .i64 e, .int .i64 n, .int .i64 n, .int .i64 0, .int .i64 0, .str key, .int .i64 0, .int .i64 0, .int .i64 a, .int .i64 b, .int .i64 nx, .nils, .int .i64 tc]] (.agg [.int .i64 19, .int .i64 0, .int .i64 0, .int .i64 1, .int .i64 e, .int .i64 a, .int .i64 b, .int .i64 0, .int .i64 0, .str [], .str [], .str [], .int .i64 0, .nils, .int .i64 0, .str [], .int .i64 0, .nils, .str key, .str [], .nils, .nils, .nils, .str []]) [.cells [.sl [[.int .i64 1, .int .i64 e, .int .i64 n, .str [], .str []]], .int .i64 7, .int .i64 1, .int .i64 e, .int .i64 n, .int .i64 n, .int .i64 0, .int .i64 0, .str key, .int .i64 0, .int .i64 0, .int .i64 a, .int .i64 b, .int .i64 nx, .nils, .int .i64 tc]] := by
  refine FnM.mk' base Tryd.func64 rfl rfl rfl rfl ?_
  repeat' ((conv => whnf); (first
   | (with_reducible first | refine AW.seq ?_ | refine AW.region base (by kernel_rfl) ?_ | refine AW.cond ?_ | refine AW.block ?_ | refine AW.ret ?_ | refine AW.exit ?_ | refine AW.skip ?_ | refine Br.t ?_ | refine Br.f ?_)
   | (with_reducible refine Br.mkT (fun hb => (by (first | (simp at hb; done) | omega | (simp only [decide_eq_true_eq, decide_eq_false_iff_not, Bool.not_eq_true', Bool.not_eq_false'] at hb; first | omega | fail) | fail))) (fun hb => ?_))
   | (with_reducible refine Br.mkF (fun hb => (by (first | (simp at hb; done) | omega | (simp only [decide_eq_true_eq, decide_eq_false_iff_not, Bool.not_eq_true', Bool.not_eq_false'] at hb; first | omega | fail) | fail))) (fun hb => ?_))
   | ((with_reducible refine Or.inl ?_); (conv => whnf); (with_reducible refine And.intro LitSl.mk ?_))
   | refine Br.t ?_
   | refine Br.f ?_
   | (with_reducible refine Br.mk (fun hb => ?_) (fun hb => ?_) <;> (try rw [hb]) <;> (try simp only [List.length_map, decide_eq_true_eq, decide_eq_false_iff_not, Bool.not_eq_true', Bool.not_eq_false', Int.ofNat_lt, Int.ofNat_le, Int.not_lt, Int.not_le, Int.toNat_natCast] at hb))
   | ((with_reducible first | refine Or.inl (And.intro ?_ ?_) | refine And.intro ?_ ?_); (focus (first | with_reducible rfl | exact trivial | (exact ⟨rfl, trivial⟩) | (exact ⟨rfl, rfl, trivial⟩) | omega | (intro r hr; simp only [List.mem_singleton] at hr; subst hr; rfl)  | ((simp only [in64, maxLen] at *; omega)) | (simp only [in64]; omega) | assumption | (simp; done) | (simp [V.cells]; done) | (simp [in64, maxLen, limK] at *; omega) | ((show confB _ _ = true); kernel_rfl) | rfl)))
   | (intro row hrow; (try simp only [Int.toNat_natCast, List.length_map, toNat_pred, toNat_succ', toNat_zero', toNat_one'] at hrow); (first | (have hsm := same_map (by assumption) hrow; subst hsm; clear hrow) | (obtain ⟨p, hp, rfl⟩ := of_map hrow; clear hrow)))))
  all_goals (conv => whnf)
  all_goals (refine ⟨[0], ?_⟩)
  all_goals (repeat' (first | (with_reducible rfl) | exact trivial | ((conv => whnf); (first | (with_reducible refine And.intro ?_ ?_) | exact trivial | (intro hb; first | (exfalso; simp_all; done) | skip)))))
  all_goals (first | rfl)

set_option maxRecDepth 100000 in
set_option maxHeartbeats 400000 in
theorem says_7 (e n nx tc a b : Int) (key : Bs) : FnM Tryd.prog 47 [.ptr 0 0] [.cells [.sl [[.int .i64 1, .int .i64 e, .int .i64 n, .str [], .str []]], .int .i64 7, .int .i64 1, .int .i64 e, .int .i64 n, .int .i64 n, .int .i64 0, .int .i64 0, .str key, .int .i64 0, .int .i64 0, .int .i64 a, .int .i64 b, .int .i64 nx, .nils, .int .i64 tc]] (.sl [[.int .i64 19, .int .i64 100, .int .i64 n, .int .i64 1, .int .i64 e, .int .i64 a, .int .i64 b, .int .i64 0, .int .i64 0, .str [], .str [], .str [], .int .i64 0, .nils, .int .i64 0, .str [], .int .i64 0, .nils, .str key, .str [], .nils, .nils, .nils, .str []]]) [.cells [.sl [[.int .i64 1, .int .i64 e, .int .i64 n, .str [], .str []]], .int .i64 7, .int .i64 1, .int .i64 e, .int .i64 n, .int .i64 n, .int .i64 0, .int .i64 0, .str key, .int .i64 0, .int .i64 0, .int .i64 a, .int .i64 b, .int .i64 nx, .nils, .int .i64 tc]] := by
  refine FnM.mk' base Tryd.func47 rfl rfl rfl rfl ?_
  repeat' ((conv => whnf); (first
   | (with_reducible first | refine AW.seq ?_ | refine AW.region base (by kernel_rfl) ?_ | refine AW.cond ?_ | refine AW.block ?_ | refine AW.ret ?_ | refine AW.exit ?_ | refine AW.skip ?_ | refine Br.t ?_ | refine Br.f ?_)
   | (with_reducible refine Br.mkT (fun hb => (by (first | (simp at hb; done) | omega | (simp only [decide_eq_true_eq, decide_eq_false_iff_not, Bool.not_eq_true', Bool.not_eq_false'] at hb; first | omega | fail) | fail))) (fun hb => ?_))
   | (with_reducible refine Br.mkF (fun hb => (by (first | (simp at hb; done) | omega | (simp only [decide_eq_true_eq, decide_eq_false_iff_not, Bool.not_eq_true', Bool.not_eq_false'] at hb; first | omega | fail) | fail))) (fun hb => ?_))
   | ((with_reducible refine Or.inl ?_); (conv => whnf); (with_reducible refine And.intro LitSl.mk ?_))
   | refine Br.t ?_
   | refine Br.f ?_
   | (with_reducible refine Or.inr ⟨[?_], _, _, _, _, cuts_fn e n nx tc a b key, ?_⟩)
   | (with_reducible refine Or.inr (Or.inr ⟨[?_], _, _, _, _, cuts_fn e n nx tc a b key, ?_⟩))
   | (with_reducible refine Br.mk (fun hb => ?_) (fun hb => ?_) <;> (try rw [hb]) <;> (try simp only [List.length_map, decide_eq_true_eq, decide_eq_false_iff_not, Bool.not_eq_true', Bool.not_eq_false', Int.ofNat_lt, Int.ofNat_le, Int.not_lt, Int.not_le, Int.toNat_natCast] at hb))
   | ((with_reducible first | refine Or.inl (And.intro ?_ ?_) | refine And.intro ?_ ?_); (focus (first | with_reducible rfl | exact trivial | (exact ⟨rfl, trivial⟩) | (exact ⟨rfl, rfl, trivial⟩) | omega | (intro r hr; simp only [List.mem_singleton] at hr; subst hr; rfl)  | ((simp only [in64, maxLen] at *; omega)) | (simp only [in64]; omega) | assumption | (simp; done) | (simp [V.cells]; done) | (simp [in64, maxLen, limK] at *; omega) | ((show confB _ _ = true); kernel_rfl) | rfl)))
   | (intro row hrow; (try simp only [Int.toNat_natCast, List.length_map, toNat_pred, toNat_succ', toNat_zero', toNat_one'] at hrow); (first | (have hsm := same_map (by assumption) hrow; subst hsm; clear hrow) | (obtain ⟨p, hp, rfl⟩ := of_map hrow; clear hrow)))))
  all_goals (conv => whnf)
  all_goals (refine ⟨[0], ?_⟩)
  all_goals (repeat' (first | (with_reducible rfl) | exact trivial | ((conv => whnf); (first | (with_reducible refine And.intro ?_ ?_) | exact trivial | (intro hb; first | (exfalso; simp_all; done) | skip)))))
  all_goals (first | rfl)

set_option maxRecDepth 100000 in
set_option maxHeartbeats 400000 in
theorem begins_7 (e n nx tc a b : Int) (key : Bs) : FnM Tryd.prog 33 [.ptr 0 0, .int .i64 7, .int .i64 0] [.cells [.sl [[.int .i64 1, .int .i64 e, .int .i64 n, .str [], .str []]], .int .i64 0, .int .i64 1, .int .i64 e, .int .i64 n, .int .i64 n, .int .i64 0, .int .i64 0, .str key, .int .i64 0, .int .i64 0, .int .i64 a, .int .i64 b, .int .i64 nx, .nils, .int .i64 tc]] (.sl [[.int .i64 19, .int .i64 100, .int .i64 n, .int .i64 1, .int .i64 e, .int .i64 a, .int .i64 b, .int .i64 0, .int .i64 0, .str [], .str [], .str [], .int .i64 0, .nils, .int .i64 0, .str [], .int .i64 0, .nils, .str key, .str [], .nils, .nils, .nils, .str []]]) [.cells [.sl [[.int .i64 1, .int .i64 e, .int .i64 n, .str [], .str []]], .int .i64 7, .int .i64 1, .int .i64 e, .int .i64 n, .int .i64 n, .int .i64 0, .int .i64 0, .str key, .int .i64 0, .int .i64 0, .int .i64 a, .int .i64 b, .int .i64 nx, .nils, .int .i64 0]] := by
  refine FnM.mk' base Tryd.func33 rfl rfl rfl rfl ?_
  repeat' ((conv => whnf); (first
   | (with_reducible first | refine AW.seq ?_ | refine AW.region base (by kernel_rfl) ?_ | refine AW.cond ?_ | refine AW.block ?_ | refine AW.ret ?_ | refine AW.exit ?_ | refine AW.skip ?_ | refine Br.t ?_ | refine Br.f ?_)
   | (with_reducible refine Br.mkT (fun hb => (by (first | (simp at hb; done) | omega | (simp only [decide_eq_true_eq, decide_eq_false_iff_not, Bool.not_eq_true', Bool.not_eq_false'] at hb; first | omega | fail) | fail))) (fun hb => ?_))
   | (with_reducible refine Br.mkF (fun hb => (by (first | (simp at hb; done) | omega | (simp only [decide_eq_true_eq, decide_eq_false_iff_not, Bool.not_eq_true', Bool.not_eq_false'] at hb; first | omega | fail) | fail))) (fun hb => ?_))
   | ((with_reducible refine Or.inl ?_); (conv => whnf); (with_reducible refine And.intro LitSl.mk ?_))
   | refine Br.t ?_
   | refine Br.f ?_
   | (with_reducible refine Or.inr ⟨[?_], _, _, _, _, says_7 e n nx 0 a b key, ?_⟩)
   | (with_reducible refine Or.inr (Or.inr ⟨[?_], _, _, _, _, says_7 e n nx 0 a b key, ?_⟩))
   | (with_reducible refine Br.mk (fun hb => ?_) (fun hb => ?_) <;> (try rw [hb]) <;> (try simp only [List.length_map, decide_eq_true_eq, decide_eq_false_iff_not, Bool.not_eq_true', Bool.not_eq_false', Int.ofNat_lt, Int.ofNat_le, Int.not_lt, Int.not_le, Int.toNat_natCast] at hb))
   | ((with_reducible first | refine Or.inl (And.intro ?_ ?_) | refine And.intro ?_ ?_); (focus (first | with_reducible rfl | exact trivial | (exact ⟨rfl, trivial⟩) | (exact ⟨rfl, rfl, trivial⟩) | omega | (intro r hr; simp only [List.mem_singleton] at hr; subst hr; rfl)  | ((simp only [in64, maxLen] at *; omega)) | (simp only [in64]; omega) | assumption | (simp; done) | (simp [V.cells]; done) | (simp [in64, maxLen, limK] at *; omega) | ((show confB _ _ = true); kernel_rfl) | rfl)))
   | (intro row hrow; (try simp only [Int.toNat_natCast, List.length_map, toNat_pred, toNat_succ', toNat_zero', toNat_one'] at hrow); (first | (have hsm := same_map (by assumption) hrow; subst hsm; clear hrow) | (obtain ⟨p, hp, rfl⟩ := of_map hrow; clear hrow)))))
  all_goals (conv => whnf)
  all_goals (refine ⟨[0], ?_⟩)
  all_goals (repeat' (first | (with_reducible rfl) | exact trivial | ((conv => whnf); (first | (with_reducible refine And.intro ?_ ?_) | exact trivial | (intro hb; first | (exfalso; simp_all; done) | skip)))))
  all_goals (first | rfl)

set_option maxRecDepth 100000 in
set_option maxHeartbeats 400000 in
theorem split_ok (e n nx tc : Int) (j : JobV) (key : Bs) (hk : isKeyB key = true) (hne : ¬ key = []) (hn : 0 ≤ nx ∧ nx ≤ 1000) : FnM Tryd.prog 19 [.ptr 0 0, .str key] [.cells [.sl [[.int .i64 1, .int .i64 e, .int .i64 n, .str [], .str []]], .int .i64 0, .int .i64 j.sh, .int .i64 j.ep, .int .i64 j.fr, .int .i64 j.to, .int .i64 j.pc, .int .i64 j.ps, .str j.key, .int .i64 j.ot, .int .i64 j.oe, .int .i64 j.a, .int .i64 j.b, .int .i64 nx, .nils, .int .i64 tc]] (.tup [.sl [[.int .i64 19, .int .i64 100, .int .i64 n, .int .i64 1, .int .i64 e, .int .i64 nx, .int .i64 (nx + 1), .int .i64 0, .int .i64 0, .str [], .str [], .str [], .int .i64 0, .nils, .int .i64 0, .str [], .int .i64 0, .nils, .str key, .str [], .nils, .nils, .nils, .str []]], noErr]) [.cells [.sl [[.int .i64 1, .int .i64 e, .int .i64 n, .str [], .str []]], .int .i64 7, .int .i64 1, .int .i64 e, .int .i64 n, .int .i64 n, .int .i64 0, .int .i64 0, .str key, .int .i64 0, .int .i64 0, .int .i64 nx, .int .i64 (nx + 1), .int .i64 (nx + 1 + 1), .nils, .int .i64 0]] := by
  refine FnM.mk' base Tryd.func19 rfl rfl rfl rfl ?_
  repeat' ((conv => whnf); (first
   | (with_reducible first | refine AW.seq ?_ | refine AW.region base (by kernel_rfl) ?_ | refine AW.cond ?_ | refine AW.block ?_ | refine AW.ret ?_ | refine AW.exit ?_ | refine AW.skip ?_ | refine Br.t ?_ | refine Br.f ?_)
   | (with_reducible refine Br.mkT (fun hb => (by (first | (simp at hb; done) | omega | (simp only [decide_eq_true_eq, decide_eq_false_iff_not, Bool.not_eq_true', Bool.not_eq_false'] at hb; first | omega | exact absurd hb hne | fail) | fail))) (fun hb => ?_))
   | (with_reducible refine Br.mkF (fun hb => (by (first | (simp at hb; done) | omega | (simp only [decide_eq_true_eq, decide_eq_false_iff_not, Bool.not_eq_true', Bool.not_eq_false'] at hb; first | omega | exact absurd hb hne | fail) | fail))) (fun hb => ?_))
   | ((with_reducible refine Or.inl ?_); (conv => whnf); (with_reducible refine And.intro LitSl.mk ?_))
   | refine Br.t ?_
   | refine Br.f ?_
   | ((refine Or.inr (Or.inr ⟨[?_], _, _, _, _, number_fn e n nx tc ⟨0, 1, e, n, n, 0, 0, [], 0, 0, 0, 0⟩ (by omega), ?_⟩)); rotate_right; (repeat ((conv => whnf); (with_reducible refine And.intro ?_ ?_); (focus (first | with_reducible rfl | exact trivial | (exact ⟨rfl, trivial⟩) | (exact ⟨rfl, rfl, trivial⟩) | omega | (intro r hr; simp only [List.mem_singleton] at hr; subst hr; rfl)  | ((simp only [in64, maxLen] at *; omega)) | (simp only [in64]; omega) | assumption | (simp; done) | (simp [V.cells]; done) | (simp [in64, maxLen, limK] at *; omega) | ((show confB _ _ = true); kernel_rfl) | rfl)))); (conv => whnf); (fail_if_success (with_reducible refine And.intro ?_ ?_)))
   | ((refine Or.inr ⟨[?_], _, _, _, _, number_fn e n nx tc ⟨0, 1, e, n, n, 0, 0, [], 0, 0, 0, 0⟩ (by omega), ?_⟩); rotate_right; (repeat ((conv => whnf); (with_reducible refine And.intro ?_ ?_); (focus (first | with_reducible rfl | exact trivial | (exact ⟨rfl, trivial⟩) | (exact ⟨rfl, rfl, trivial⟩) | omega | (intro r hr; simp only [List.mem_singleton] at hr; subst hr; rfl)  | ((simp only [in64, maxLen] at *; omega)) | (simp only [in64]; omega) | assumption | (simp; done) | (simp [V.cells]; done) | (simp [in64, maxLen, limK] at *; omega) | ((show confB _ _ = true); kernel_rfl) | rfl)))); (conv => whnf); (fail_if_success (with_reducible refine And.intro ?_ ?_)))
   | ((refine Or.inr (Or.inr ⟨[?_], _, _, _, _, number_fn e n (nx + 1) tc ⟨0, 1, e, n, n, 0, 0, [], 0, 0, 0, 0⟩ (by omega), ?_⟩)); rotate_right; (repeat ((conv => whnf); (with_reducible refine And.intro ?_ ?_); (focus (first | with_reducible rfl | exact trivial | (exact ⟨rfl, trivial⟩) | (exact ⟨rfl, rfl, trivial⟩) | omega | (intro r hr; simp only [List.mem_singleton] at hr; subst hr; rfl)  | ((simp only [in64, maxLen] at *; omega)) | (simp only [in64]; omega) | assumption | (simp; done) | (simp [V.cells]; done) | (simp [in64, maxLen, limK] at *; omega) | ((show confB _ _ = true); kernel_rfl) | rfl)))); (conv => whnf); (fail_if_success (with_reducible refine And.intro ?_ ?_)))
   | ((refine Or.inr ⟨[?_], _, _, _, _, number_fn e n (nx + 1) tc ⟨0, 1, e, n, n, 0, 0, [], 0, 0, 0, 0⟩ (by omega), ?_⟩); rotate_right; (repeat ((conv => whnf); (with_reducible refine And.intro ?_ ?_); (focus (first | with_reducible rfl | exact trivial | (exact ⟨rfl, trivial⟩) | (exact ⟨rfl, rfl, trivial⟩) | omega | (intro r hr; simp only [List.mem_singleton] at hr; subst hr; rfl)  | ((simp only [in64, maxLen] at *; omega)) | (simp only [in64]; omega) | assumption | (simp; done) | (simp [V.cells]; done) | (simp [in64, maxLen, limK] at *; omega) | ((show confB _ _ = true); kernel_rfl) | rfl)))); (conv => whnf); (fail_if_success (with_reducible refine And.intro ?_ ?_)))
   | ((with_reducible refine Or.inl ?_); (conv => whnf); (first | (with_reducible first | refine ⟨_, of_fn e n, ?_⟩)))
   | (with_reducible refine Or.inr ⟨[?_], _, _, _, _, at_yes e n nx tc j key hk, ?_⟩)
   | (with_reducible refine Or.inr (Or.inr ⟨[?_], _, _, _, _, at_yes e n nx tc j key hk, ?_⟩))
   | (with_reducible refine Or.inr ⟨[?_], _, _, _, _, begins_7 e n (nx + 1 + 1) tc nx (nx + 1) key, ?_⟩)
   | (with_reducible refine Or.inr (Or.inr ⟨[?_], _, _, _, _, begins_7 e n (nx + 1 + 1) tc nx (nx + 1) key, ?_⟩))
   | (with_reducible refine Br.mk (fun hb => ?_) (fun hb => ?_) <;> (try rw [hb]) <;> (try simp only [List.length_map, decide_eq_true_eq, decide_eq_false_iff_not, Bool.not_eq_true', Bool.not_eq_false', Int.ofNat_lt, Int.ofNat_le, Int.not_lt, Int.not_le, Int.toNat_natCast] at hb))
   | ((with_reducible first | refine Or.inl (And.intro ?_ ?_) | refine And.intro ?_ ?_); (focus (first | with_reducible rfl | exact trivial | (exact ⟨rfl, trivial⟩) | (exact ⟨rfl, rfl, trivial⟩) | omega | (intro r hr; simp only [List.mem_singleton] at hr; subst hr; rfl)  | ((simp only [in64, maxLen] at *; omega)) | (simp only [in64]; omega) | assumption | (simp; done) | (simp [V.cells]; done) | (simp [in64, maxLen, limK] at *; omega) | ((show confB _ _ = true); kernel_rfl) | rfl)))
   | (intro row hrow; (try simp only [Int.toNat_natCast, List.length_map, toNat_pred, toNat_succ', toNat_zero', toNat_one'] at hrow); (first | (have hsm := same_map (by assumption) hrow; subst hsm; clear hrow) | (obtain ⟨p, hp, rfl⟩ := of_map hrow; clear hrow)))))
  all_goals (conv => whnf)
  all_goals (refine ⟨[0], ?_⟩)
  all_goals (repeat' (first | (with_reducible rfl) | exact trivial | ((conv => whnf); (first | (with_reducible refine And.intro ?_ ?_) | exact trivial | (intro hb; first | (exfalso; simp_all; done) | skip)))))
  all_goals (first | rfl)

set_option maxRecDepth 100000 in
set_option maxHeartbeats 400000 in
theorem split_none (e n nx tc : Int) (j : JobV) (key : Bs) (hk : isKeyB key = false) : FnM Tryd.prog 19 [.ptr 0 0, .str key] [.cells [.sl [[.int .i64 1, .int .i64 e, .int .i64 n, .str [], .str []]], .int .i64 0, .int .i64 j.sh, .int .i64 j.ep, .int .i64 j.fr, .int .i64 j.to, .int .i64 j.pc, .int .i64 j.ps, .str j.key, .int .i64 j.ot, .int .i64 j.oe, .int .i64 j.a, .int .i64 j.b, .int .i64 nx, .nils, .int .i64 tc]] (.tup [.nils, errV [] 14]) [.cells [.sl [[.int .i64 1, .int .i64 e, .int .i64 n, .str [], .str []]], .int .i64 0, .int .i64 j.sh, .int .i64 j.ep, .int .i64 j.fr, .int .i64 j.to, .int .i64 j.pc, .int .i64 j.ps, .str j.key, .int .i64 j.ot, .int .i64 j.oe, .int .i64 j.a, .int .i64 j.b, .int .i64 nx, .nils, .int .i64 tc]] := by
  refine FnM.mk' base Tryd.func19 rfl rfl rfl rfl ?_
  repeat' ((conv => whnf); (first
   | (with_reducible first | refine AW.seq ?_ | refine AW.region base (by kernel_rfl) ?_ | refine AW.cond ?_ | refine AW.block ?_ | refine AW.ret ?_ | refine AW.exit ?_ | refine AW.skip ?_ | refine Br.t ?_ | refine Br.f ?_)
   | (with_reducible refine Br.mkT (fun hb => (by (first | (simp at hb; done) | omega | (simp only [decide_eq_true_eq, decide_eq_false_iff_not, Bool.not_eq_true', Bool.not_eq_false'] at hb; first | omega | fail) | fail))) (fun hb => ?_))
   | (with_reducible refine Br.mkF (fun hb => (by (first | (simp at hb; done) | omega | (simp only [decide_eq_true_eq, decide_eq_false_iff_not, Bool.not_eq_true', Bool.not_eq_false'] at hb; first | omega | fail) | fail))) (fun hb => ?_))
   | ((with_reducible refine Or.inl ?_); (conv => whnf); (with_reducible refine And.intro LitSl.mk ?_))
   | refine Br.t ?_
   | refine Br.f ?_
   | (with_reducible refine Or.inr ⟨[?_], _, _, _, _, at_no e n nx tc j key hk, ?_⟩)
   | (with_reducible refine Or.inr (Or.inr ⟨[?_], _, _, _, _, at_no e n nx tc j key hk, ?_⟩))
   | (with_reducible refine Br.mk (fun hb => ?_) (fun hb => ?_) <;> (try rw [hb]) <;> (try simp only [List.length_map, decide_eq_true_eq, decide_eq_false_iff_not, Bool.not_eq_true', Bool.not_eq_false', Int.ofNat_lt, Int.ofNat_le, Int.not_lt, Int.not_le, Int.toNat_natCast] at hb))
   | ((with_reducible first | refine Or.inl (And.intro ?_ ?_) | refine And.intro ?_ ?_); (focus (first | with_reducible rfl | exact trivial | (exact ⟨rfl, trivial⟩) | (exact ⟨rfl, rfl, trivial⟩) | omega | (intro r hr; simp only [List.mem_singleton] at hr; subst hr; rfl)  | ((simp only [in64, maxLen] at *; omega)) | (simp only [in64]; omega) | assumption | (simp; done) | (simp [V.cells]; done) | (simp [in64, maxLen, limK] at *; omega) | ((show confB _ _ = true); kernel_rfl) | rfl)))
   | (intro row hrow; (try simp only [Int.toNat_natCast, List.length_map, toNat_pred, toNat_succ', toNat_zero', toNat_one'] at hrow); (first | (have hsm := same_map (by assumption) hrow; subst hsm; clear hrow) | (obtain ⟨p, hp, rfl⟩ := of_map hrow; clear hrow)))))
  all_goals (conv => whnf)
  all_goals (refine ⟨[0], ?_⟩)
  all_goals (repeat' (first | (with_reducible rfl) | exact trivial | ((conv => whnf); (first | (with_reducible refine And.intro ?_ ?_) | exact trivial | (intro hb; first | (exfalso; simp_all; done) | skip)))))
  all_goals (first | rfl)

set_option maxRecDepth 100000 in
set_option maxHeartbeats 400000 in
theorem split_busy (e n nx tc : Int) (j : JobV) (key : Bs) (hj : ¬ j.ph = 0) : FnM Tryd.prog 19 [.ptr 0 0, .str key] [.cells [.sl [[.int .i64 1, .int .i64 e, .int .i64 n, .str [], .str []]], .int .i64 j.ph, .int .i64 j.sh, .int .i64 j.ep, .int .i64 j.fr, .int .i64 j.to, .int .i64 j.pc, .int .i64 j.ps, .str j.key, .int .i64 j.ot, .int .i64 j.oe, .int .i64 j.a, .int .i64 j.b, .int .i64 nx, .nils, .int .i64 tc]] (.tup [.nils, errV [] 20]) [.cells [.sl [[.int .i64 1, .int .i64 e, .int .i64 n, .str [], .str []]], .int .i64 j.ph, .int .i64 j.sh, .int .i64 j.ep, .int .i64 j.fr, .int .i64 j.to, .int .i64 j.pc, .int .i64 j.ps, .str j.key, .int .i64 j.ot, .int .i64 j.oe, .int .i64 j.a, .int .i64 j.b, .int .i64 nx, .nils, .int .i64 tc]] := by
  refine FnM.mk' base Tryd.func19 rfl rfl rfl rfl ?_
  repeat' ((conv => whnf); (first
   | (with_reducible first | refine AW.seq ?_ | refine AW.region base (by kernel_rfl) ?_ | refine AW.cond ?_ | refine AW.block ?_ | refine AW.ret ?_ | refine AW.exit ?_ | refine AW.skip ?_ | refine Br.t ?_ | refine Br.f ?_)
   | (with_reducible refine Br.mkT (fun hb => (by (first | (simp at hb; done) | omega | (simp only [decide_eq_true_eq, decide_eq_false_iff_not, Bool.not_eq_true', Bool.not_eq_false'] at hb; first | omega | fail) | fail))) (fun hb => ?_))
   | (with_reducible refine Br.mkF (fun hb => (by (first | (simp at hb; done) | omega | (simp only [decide_eq_true_eq, decide_eq_false_iff_not, Bool.not_eq_true', Bool.not_eq_false'] at hb; first | omega | fail) | fail))) (fun hb => ?_))
   | ((with_reducible refine Or.inl ?_); (conv => whnf); (with_reducible refine And.intro LitSl.mk ?_))
   | refine Br.t ?_
   | refine Br.f ?_
   | (with_reducible refine Or.inr ⟨[?_], _, _, _, _, at_busy e n nx tc j key hj, ?_⟩)
   | (with_reducible refine Or.inr (Or.inr ⟨[?_], _, _, _, _, at_busy e n nx tc j key hj, ?_⟩))
   | (with_reducible refine Br.mk (fun hb => ?_) (fun hb => ?_) <;> (try rw [hb]) <;> (try simp only [List.length_map, decide_eq_true_eq, decide_eq_false_iff_not, Bool.not_eq_true', Bool.not_eq_false', Int.ofNat_lt, Int.ofNat_le, Int.not_lt, Int.not_le, Int.toNat_natCast] at hb))
   | ((with_reducible first | refine Or.inl (And.intro ?_ ?_) | refine And.intro ?_ ?_); (focus (first | with_reducible rfl | exact trivial | (exact ⟨rfl, trivial⟩) | (exact ⟨rfl, rfl, trivial⟩) | omega | (intro r hr; simp only [List.mem_singleton] at hr; subst hr; rfl)  | ((simp only [in64, maxLen] at *; omega)) | (simp only [in64]; omega) | assumption | (simp; done) | (simp [V.cells]; done) | (simp [in64, maxLen, limK] at *; omega) | ((show confB _ _ = true); kernel_rfl) | rfl)))
   | (intro row hrow; (try simp only [Int.toNat_natCast, List.length_map, toNat_pred, toNat_succ', toNat_zero', toNat_one'] at hrow); (first | (have hsm := same_map (by assumption) hrow; subst hsm; clear hrow) | (obtain ⟨p, hp, rfl⟩ := of_map hrow; clear hrow)))))
  all_goals (conv => whnf)
  all_goals (refine ⟨[0], ?_⟩)
  all_goals (repeat' (first | (with_reducible rfl) | exact trivial | ((conv => whnf); (first | (with_reducible refine And.intro ?_ ?_) | exact trivial | (intro hb; first | (exfalso; simp_all; done) | skip)))))
  all_goals (first | rfl)

set_option maxRecDepth 100000 in
set_option maxHeartbeats 400000 in
theorem join_yes (e n nx tc : Int) (j : JobV) (key : Bs) (hk : isKeyB key = true) : FnM Tryd.prog 26 [.ptr 0 0, .str key] [.cells [.sl [[.int .i64 1, .int .i64 e, .int .i64 n, .str [], .str []]], .int .i64 0, .int .i64 j.sh, .int .i64 j.ep, .int .i64 j.fr, .int .i64 j.to, .int .i64 j.pc, .int .i64 j.ps, .str j.key, .int .i64 j.ot, .int .i64 j.oe, .int .i64 j.a, .int .i64 j.b, .int .i64 nx, .nils, .int .i64 tc]] (.tup [.nils, errV [] 14]) [.cells [.sl [[.int .i64 1, .int .i64 e, .int .i64 n, .str [], .str []]], .int .i64 0, .int .i64 j.sh, .int .i64 j.ep, .int .i64 j.fr, .int .i64 j.to, .int .i64 j.pc, .int .i64 j.ps, .str j.key, .int .i64 j.ot, .int .i64 j.oe, .int .i64 j.a, .int .i64 j.b, .int .i64 nx, .nils, .int .i64 tc]] := by
  refine FnM.mk' base Tryd.func26 rfl rfl rfl rfl ?_
  repeat' ((conv => whnf); (first
   | (with_reducible first | refine AW.seq ?_ | refine AW.region base (by kernel_rfl) ?_ | refine AW.cond ?_ | refine AW.block ?_ | refine AW.ret ?_ | refine AW.exit ?_ | refine AW.skip ?_ | refine Br.t ?_ | refine Br.f ?_)
   | (with_reducible refine Br.mkT (fun hb => (by (first | (simp at hb; done) | omega | (simp only [decide_eq_true_eq, decide_eq_false_iff_not, Bool.not_eq_true', Bool.not_eq_false'] at hb; first | omega | fail) | fail))) (fun hb => ?_))
   | (with_reducible refine Br.mkF (fun hb => (by (first | (simp at hb; done) | omega | (simp only [decide_eq_true_eq, decide_eq_false_iff_not, Bool.not_eq_true', Bool.not_eq_false'] at hb; first | omega | fail) | fail))) (fun hb => ?_))
   | ((with_reducible refine Or.inl ?_); (conv => whnf); (with_reducible refine And.intro LitSl.mk ?_))
   | refine Br.t ?_
   | refine Br.f ?_
   | ((with_reducible refine Or.inl ?_); (conv => whnf); (first | (with_reducible first | refine ⟨_, above_fn e n, ?_⟩)))
   | (with_reducible refine Or.inr ⟨[?_], _, _, _, _, at_yes e n nx tc j key hk, ?_⟩)
   | (with_reducible refine Or.inr (Or.inr ⟨[?_], _, _, _, _, at_yes e n nx tc j key hk, ?_⟩))
   | (with_reducible refine Br.mk (fun hb => ?_) (fun hb => ?_) <;> (try rw [hb]) <;> (try simp only [List.length_map, decide_eq_true_eq, decide_eq_false_iff_not, Bool.not_eq_true', Bool.not_eq_false', Int.ofNat_lt, Int.ofNat_le, Int.not_lt, Int.not_le, Int.toNat_natCast] at hb))
   | ((with_reducible first | refine Or.inl (And.intro ?_ ?_) | refine And.intro ?_ ?_); (focus (first | with_reducible rfl | exact trivial | (exact ⟨rfl, trivial⟩) | (exact ⟨rfl, rfl, trivial⟩) | omega | (intro r hr; simp only [List.mem_singleton] at hr; subst hr; rfl)  | ((simp only [in64, maxLen] at *; omega)) | (simp only [in64]; omega) | assumption | (simp; done) | (simp [V.cells]; done) | (simp [in64, maxLen, limK] at *; omega) | ((show confB _ _ = true); kernel_rfl) | rfl)))
   | (intro row hrow; (try simp only [Int.toNat_natCast, List.length_map, toNat_pred, toNat_succ', toNat_zero', toNat_one'] at hrow); (first | (have hsm := same_map (by assumption) hrow; subst hsm; clear hrow) | (obtain ⟨p, hp, rfl⟩ := of_map hrow; clear hrow)))))
  all_goals (conv => whnf)
  all_goals (refine ⟨[0], ?_⟩)
  all_goals (repeat' (first | (with_reducible rfl) | exact trivial | ((conv => whnf); (first | (with_reducible refine And.intro ?_ ?_) | exact trivial | (intro hb; first | (exfalso; simp_all; done) | skip)))))
  all_goals (first | rfl)

set_option maxRecDepth 100000 in
set_option maxHeartbeats 400000 in
theorem join_no (e n nx tc : Int) (j : JobV) (key : Bs) (hk : isKeyB key = false) : FnM Tryd.prog 26 [.ptr 0 0, .str key] [.cells [.sl [[.int .i64 1, .int .i64 e, .int .i64 n, .str [], .str []]], .int .i64 0, .int .i64 j.sh, .int .i64 j.ep, .int .i64 j.fr, .int .i64 j.to, .int .i64 j.pc, .int .i64 j.ps, .str j.key, .int .i64 j.ot, .int .i64 j.oe, .int .i64 j.a, .int .i64 j.b, .int .i64 nx, .nils, .int .i64 tc]] (.tup [.nils, errV [] 14]) [.cells [.sl [[.int .i64 1, .int .i64 e, .int .i64 n, .str [], .str []]], .int .i64 0, .int .i64 j.sh, .int .i64 j.ep, .int .i64 j.fr, .int .i64 j.to, .int .i64 j.pc, .int .i64 j.ps, .str j.key, .int .i64 j.ot, .int .i64 j.oe, .int .i64 j.a, .int .i64 j.b, .int .i64 nx, .nils, .int .i64 tc]] := by
  refine FnM.mk' base Tryd.func26 rfl rfl rfl rfl ?_
  repeat' ((conv => whnf); (first
   | (with_reducible first | refine AW.seq ?_ | refine AW.region base (by kernel_rfl) ?_ | refine AW.cond ?_ | refine AW.block ?_ | refine AW.ret ?_ | refine AW.exit ?_ | refine AW.skip ?_ | refine Br.t ?_ | refine Br.f ?_)
   | (with_reducible refine Br.mkT (fun hb => (by (first | (simp at hb; done) | omega | (simp only [decide_eq_true_eq, decide_eq_false_iff_not, Bool.not_eq_true', Bool.not_eq_false'] at hb; first | omega | fail) | fail))) (fun hb => ?_))
   | (with_reducible refine Br.mkF (fun hb => (by (first | (simp at hb; done) | omega | (simp only [decide_eq_true_eq, decide_eq_false_iff_not, Bool.not_eq_true', Bool.not_eq_false'] at hb; first | omega | fail) | fail))) (fun hb => ?_))
   | ((with_reducible refine Or.inl ?_); (conv => whnf); (with_reducible refine And.intro LitSl.mk ?_))
   | refine Br.t ?_
   | refine Br.f ?_
   | (with_reducible refine Or.inr ⟨[?_], _, _, _, _, at_no e n nx tc j key hk, ?_⟩)
   | (with_reducible refine Or.inr (Or.inr ⟨[?_], _, _, _, _, at_no e n nx tc j key hk, ?_⟩))
   | (with_reducible refine Br.mk (fun hb => ?_) (fun hb => ?_) <;> (try rw [hb]) <;> (try simp only [List.length_map, decide_eq_true_eq, decide_eq_false_iff_not, Bool.not_eq_true', Bool.not_eq_false', Int.ofNat_lt, Int.ofNat_le, Int.not_lt, Int.not_le, Int.toNat_natCast] at hb))
   | ((with_reducible first | refine Or.inl (And.intro ?_ ?_) | refine And.intro ?_ ?_); (focus (first | with_reducible rfl | exact trivial | (exact ⟨rfl, trivial⟩) | (exact ⟨rfl, rfl, trivial⟩) | omega | (intro r hr; simp only [List.mem_singleton] at hr; subst hr; rfl)  | ((simp only [in64, maxLen] at *; omega)) | (simp only [in64]; omega) | assumption | (simp; done) | (simp [V.cells]; done) | (simp [in64, maxLen, limK] at *; omega) | ((show confB _ _ = true); kernel_rfl) | rfl)))
   | (intro row hrow; (try simp only [Int.toNat_natCast, List.length_map, toNat_pred, toNat_succ', toNat_zero', toNat_one'] at hrow); (first | (have hsm := same_map (by assumption) hrow; subst hsm; clear hrow) | (obtain ⟨p, hp, rfl⟩ := of_map hrow; clear hrow)))))
  all_goals (conv => whnf)
  all_goals (refine ⟨[0], ?_⟩)
  all_goals (repeat' (first | (with_reducible rfl) | exact trivial | ((conv => whnf); (first | (with_reducible refine And.intro ?_ ?_) | exact trivial | (intro hb; first | (exfalso; simp_all; done) | skip)))))
  all_goals (first | rfl)

set_option maxRecDepth 100000 in
set_option maxHeartbeats 400000 in
theorem abort_idle (e n nx tc : Int) (j : JobV)  : FnM Tryd.prog 24 [.ptr 0 0] [.cells [.sl [[.int .i64 1, .int .i64 e, .int .i64 n, .str [], .str []]], .int .i64 0, .int .i64 j.sh, .int .i64 j.ep, .int .i64 j.fr, .int .i64 j.to, .int .i64 j.pc, .int .i64 j.ps, .str j.key, .int .i64 j.ot, .int .i64 j.oe, .int .i64 j.a, .int .i64 j.b, .int .i64 nx, .nils, .int .i64 tc]] (.tup [.nils, errV [] 14]) [.cells [.sl [[.int .i64 1, .int .i64 e, .int .i64 n, .str [], .str []]], .int .i64 0, .int .i64 j.sh, .int .i64 j.ep, .int .i64 j.fr, .int .i64 j.to, .int .i64 j.pc, .int .i64 j.ps, .str j.key, .int .i64 j.ot, .int .i64 j.oe, .int .i64 j.a, .int .i64 j.b, .int .i64 nx, .nils, .int .i64 tc]] := by
  refine FnM.mk' base Tryd.func24 rfl rfl rfl rfl ?_
  repeat' ((conv => whnf); (first
   | (with_reducible first | refine AW.seq ?_ | refine AW.region base (by kernel_rfl) ?_ | refine AW.cond ?_ | refine AW.block ?_ | refine AW.ret ?_ | refine AW.exit ?_ | refine AW.skip ?_ | refine Br.t ?_ | refine Br.f ?_)
   | (with_reducible refine Br.mkT (fun hb => (by (first | (simp at hb; done) | omega | (simp only [decide_eq_true_eq, decide_eq_false_iff_not, Bool.not_eq_true', Bool.not_eq_false'] at hb; first | omega | fail) | fail))) (fun hb => ?_))
   | (with_reducible refine Br.mkF (fun hb => (by (first | (simp at hb; done) | omega | (simp only [decide_eq_true_eq, decide_eq_false_iff_not, Bool.not_eq_true', Bool.not_eq_false'] at hb; first | omega | fail) | fail))) (fun hb => ?_))
   | ((with_reducible refine Or.inl ?_); (conv => whnf); (with_reducible refine And.intro LitSl.mk ?_))
   | refine Br.t ?_
   | refine Br.f ?_
   | (with_reducible refine Br.mk (fun hb => ?_) (fun hb => ?_) <;> (try rw [hb]) <;> (try simp only [List.length_map, decide_eq_true_eq, decide_eq_false_iff_not, Bool.not_eq_true', Bool.not_eq_false', Int.ofNat_lt, Int.ofNat_le, Int.not_lt, Int.not_le, Int.toNat_natCast] at hb))
   | ((with_reducible first | refine Or.inl (And.intro ?_ ?_) | refine And.intro ?_ ?_); (focus (first | with_reducible rfl | exact trivial | (exact ⟨rfl, trivial⟩) | (exact ⟨rfl, rfl, trivial⟩) | omega | (intro r hr; simp only [List.mem_singleton] at hr; subst hr; rfl)  | ((simp only [in64, maxLen] at *; omega)) | (simp only [in64]; omega) | assumption | (simp; done) | (simp [V.cells]; done) | (simp [in64, maxLen, limK] at *; omega) | ((show confB _ _ = true); kernel_rfl) | rfl)))
   | (intro row hrow; (try simp only [Int.toNat_natCast, List.length_map, toNat_pred, toNat_succ', toNat_zero', toNat_one'] at hrow); (first | (have hsm := same_map (by assumption) hrow; subst hsm; clear hrow) | (obtain ⟨p, hp, rfl⟩ := of_map hrow; clear hrow)))))
  all_goals (conv => whnf)
  all_goals (refine ⟨[0], ?_⟩)
  all_goals (repeat' (first | (with_reducible rfl) | exact trivial | ((conv => whnf); (first | (with_reducible refine And.intro ?_ ?_) | exact trivial | (intro hb; first | (exfalso; simp_all; done) | skip)))))
  all_goals (first | rfl)

set_option maxRecDepth 100000 in
set_option maxHeartbeats 400000 in
theorem abort_1 (e n nx tc : Int) (j : JobV) (he : 0 ≤ j.ep ∧ j.ep ≤ 1000) : FnM Tryd.prog 24 [.ptr 0 0] [.cells [.sl [[.int .i64 1, .int .i64 e, .int .i64 n, .str [], .str []]], .int .i64 1, .int .i64 j.sh, .int .i64 j.ep, .int .i64 j.fr, .int .i64 j.to, .int .i64 j.pc, .int .i64 j.ps, .str j.key, .int .i64 j.ot, .int .i64 j.oe, .int .i64 j.a, .int .i64 j.b, .int .i64 nx, .nils, .int .i64 tc]] (.tup [.sl [[.int .i64 15, .int .i64 100, .int .i64 j.fr, .int .i64 j.sh, .int .i64 j.ep, .int .i64 0, .int .i64 0, .int .i64 0, .int .i64 0, .str [], .str [], .str [], .int .i64 0, .nils, .int .i64 0, .str [], .int .i64 0, .nils, .str [], .str [], .nils, .nils, .nils, .str []]], noErr]) [.cells [.sl [[.int .i64 1, .int .i64 e, .int .i64 n, .str [], .str []]], .int .i64 6, .int .i64 j.sh, .int .i64 j.ep, .int .i64 j.fr, .int .i64 j.to, .int .i64 0, .int .i64 j.ps, .str j.key, .int .i64 j.ot, .int .i64 j.oe, .int .i64 j.a, .int .i64 j.b, .int .i64 nx, .nils, .int .i64 0]] := by
  refine FnM.mk' base Tryd.func24 rfl rfl rfl rfl ?_
  repeat' ((conv => whnf); (first
   | (with_reducible first | refine AW.seq ?_ | refine AW.region base (by kernel_rfl) ?_ | refine AW.cond ?_ | refine AW.block ?_ | refine AW.ret ?_ | refine AW.exit ?_ | refine AW.skip ?_ | refine Br.t ?_ | refine Br.f ?_)
   | (with_reducible refine Br.mkT (fun hb => (by (first | (simp at hb; done) | omega | (simp only [decide_eq_true_eq, decide_eq_false_iff_not, Bool.not_eq_true', Bool.not_eq_false'] at hb; first | omega | fail) | fail))) (fun hb => ?_))
   | (with_reducible refine Br.mkF (fun hb => (by (first | (simp at hb; done) | omega | (simp only [decide_eq_true_eq, decide_eq_false_iff_not, Bool.not_eq_true', Bool.not_eq_false'] at hb; first | omega | fail) | fail))) (fun hb => ?_))
   | ((with_reducible refine Or.inl ?_); (conv => whnf); (with_reducible refine And.intro LitSl.mk ?_))
   | refine Br.t ?_
   | refine Br.f ?_
   | (with_reducible refine Or.inr ⟨[?_], _, _, _, _, begins_6 e n nx tc ⟨1, j.sh, j.ep, j.fr, j.to, j.pc, j.ps, j.key, j.ot, j.oe, j.a, j.b⟩ 0 he, ?_⟩)
   | (with_reducible refine Or.inr (Or.inr ⟨[?_], _, _, _, _, begins_6 e n nx tc ⟨1, j.sh, j.ep, j.fr, j.to, j.pc, j.ps, j.key, j.ot, j.oe, j.a, j.b⟩ 0 he, ?_⟩))
   | (with_reducible refine Br.mk (fun hb => ?_) (fun hb => ?_) <;> (try rw [hb]) <;> (try simp only [List.length_map, decide_eq_true_eq, decide_eq_false_iff_not, Bool.not_eq_true', Bool.not_eq_false', Int.ofNat_lt, Int.ofNat_le, Int.not_lt, Int.not_le, Int.toNat_natCast] at hb))
   | ((with_reducible first | refine Or.inl (And.intro ?_ ?_) | refine And.intro ?_ ?_); (focus (first | with_reducible rfl | exact trivial | (exact ⟨rfl, trivial⟩) | (exact ⟨rfl, rfl, trivial⟩) | omega | (intro r hr; simp only [List.mem_singleton] at hr; subst hr; rfl)  | ((simp only [in64, maxLen] at *; omega)) | (simp only [in64]; omega) | assumption | (simp; done) | (simp [V.cells]; done) | (simp [in64, maxLen, limK] at *; omega) | ((show confB _ _ = true); kernel_rfl) | rfl)))
   | (intro row hrow; (try simp only [Int.toNat_natCast, List.length_map, toNat_pred, toNat_succ', toNat_zero', toNat_one'] at hrow); (first | (have hsm := same_map (by assumption) hrow; subst hsm; clear hrow) | (obtain ⟨p, hp, rfl⟩ := of_map hrow; clear hrow)))))
  all_goals (conv => whnf)
  all_goals (refine ⟨[0], ?_⟩)
  all_goals (repeat' (first | (with_reducible rfl) | exact trivial | ((conv => whnf); (first | (with_reducible refine And.intro ?_ ?_) | exact trivial | (intro hb; first | (exfalso; simp_all; done) | skip)))))
  all_goals (first | rfl)

set_option maxRecDepth 100000 in
set_option maxHeartbeats 400000 in
theorem abort_2 (e n nx tc : Int) (j : JobV) (he : 0 ≤ j.ep ∧ j.ep ≤ 1000) : FnM Tryd.prog 24 [.ptr 0 0] [.cells [.sl [[.int .i64 1, .int .i64 e, .int .i64 n, .str [], .str []]], .int .i64 2, .int .i64 j.sh, .int .i64 j.ep, .int .i64 j.fr, .int .i64 j.to, .int .i64 j.pc, .int .i64 j.ps, .str j.key, .int .i64 j.ot, .int .i64 j.oe, .int .i64 j.a, .int .i64 j.b, .int .i64 nx, .nils, .int .i64 tc]] (.tup [.sl [[.int .i64 15, .int .i64 100, .int .i64 j.fr, .int .i64 j.sh, .int .i64 j.ep, .int .i64 0, .int .i64 0, .int .i64 0, .int .i64 0, .str [], .str [], .str [], .int .i64 0, .nils, .int .i64 0, .str [], .int .i64 0, .nils, .str [], .str [], .nils, .nils, .nils, .str []]], noErr]) [.cells [.sl [[.int .i64 1, .int .i64 e, .int .i64 n, .str [], .str []]], .int .i64 6, .int .i64 j.sh, .int .i64 j.ep, .int .i64 j.fr, .int .i64 j.to, .int .i64 0, .int .i64 j.ps, .str j.key, .int .i64 j.ot, .int .i64 j.oe, .int .i64 j.a, .int .i64 j.b, .int .i64 nx, .nils, .int .i64 0]] := by
  refine FnM.mk' base Tryd.func24 rfl rfl rfl rfl ?_
  repeat' ((conv => whnf); (first
   | (with_reducible first | refine AW.seq ?_ | refine AW.region base (by kernel_rfl) ?_ | refine AW.cond ?_ | refine AW.block ?_ | refine AW.ret ?_ | refine AW.exit ?_ | refine AW.skip ?_ | refine Br.t ?_ | refine Br.f ?_)
   | (with_reducible refine Br.mkT (fun hb => (by (first | (simp at hb; done) | omega | (simp only [decide_eq_true_eq, decide_eq_false_iff_not, Bool.not_eq_true', Bool.not_eq_false'] at hb; first | omega | fail) | fail))) (fun hb => ?_))
   | (with_reducible refine Br.mkF (fun hb => (by (first | (simp at hb; done) | omega | (simp only [decide_eq_true_eq, decide_eq_false_iff_not, Bool.not_eq_true', Bool.not_eq_false'] at hb; first | omega | fail) | fail))) (fun hb => ?_))
   | ((with_reducible refine Or.inl ?_); (conv => whnf); (with_reducible refine And.intro LitSl.mk ?_))
   | refine Br.t ?_
   | refine Br.f ?_
   | (with_reducible refine Or.inr ⟨[?_], _, _, _, _, begins_6 e n nx tc ⟨2, j.sh, j.ep, j.fr, j.to, j.pc, j.ps, j.key, j.ot, j.oe, j.a, j.b⟩ 0 he, ?_⟩)
   | (with_reducible refine Or.inr (Or.inr ⟨[?_], _, _, _, _, begins_6 e n nx tc ⟨2, j.sh, j.ep, j.fr, j.to, j.pc, j.ps, j.key, j.ot, j.oe, j.a, j.b⟩ 0 he, ?_⟩))
   | (with_reducible refine Br.mk (fun hb => ?_) (fun hb => ?_) <;> (try rw [hb]) <;> (try simp only [List.length_map, decide_eq_true_eq, decide_eq_false_iff_not, Bool.not_eq_true', Bool.not_eq_false', Int.ofNat_lt, Int.ofNat_le, Int.not_lt, Int.not_le, Int.toNat_natCast] at hb))
   | ((with_reducible first | refine Or.inl (And.intro ?_ ?_) | refine And.intro ?_ ?_); (focus (first | with_reducible rfl | exact trivial | (exact ⟨rfl, trivial⟩) | (exact ⟨rfl, rfl, trivial⟩) | omega | (intro r hr; simp only [List.mem_singleton] at hr; subst hr; rfl)  | ((simp only [in64, maxLen] at *; omega)) | (simp only [in64]; omega) | assumption | (simp; done) | (simp [V.cells]; done) | (simp [in64, maxLen, limK] at *; omega) | ((show confB _ _ = true); kernel_rfl) | rfl)))
   | (intro row hrow; (try simp only [Int.toNat_natCast, List.length_map, toNat_pred, toNat_succ', toNat_zero', toNat_one'] at hrow); (first | (have hsm := same_map (by assumption) hrow; subst hsm; clear hrow) | (obtain ⟨p, hp, rfl⟩ := of_map hrow; clear hrow)))))
  all_goals (conv => whnf)
  all_goals (refine ⟨[0], ?_⟩)
  all_goals (repeat' (first | (with_reducible rfl) | exact trivial | ((conv => whnf); (first | (with_reducible refine And.intro ?_ ?_) | exact trivial | (intro hb; first | (exfalso; simp_all; done) | skip)))))
  all_goals (first | rfl)

set_option maxRecDepth 100000 in
set_option maxHeartbeats 400000 in
theorem tick_idle (e n nx tc : Int) (j : JobV)  : FnM Tryd.prog 20 [.ptr 0 0] [.cells [.sl [[.int .i64 1, .int .i64 e, .int .i64 n, .str [], .str []]], .int .i64 0, .int .i64 j.sh, .int .i64 j.ep, .int .i64 j.fr, .int .i64 j.to, .int .i64 j.pc, .int .i64 j.ps, .str j.key, .int .i64 j.ot, .int .i64 j.oe, .int .i64 j.a, .int .i64 j.b, .int .i64 nx, .nils, .int .i64 tc]] (.nils) [.cells [.sl [[.int .i64 1, .int .i64 e, .int .i64 n, .str [], .str []]], .int .i64 0, .int .i64 j.sh, .int .i64 j.ep, .int .i64 j.fr, .int .i64 j.to, .int .i64 j.pc, .int .i64 j.ps, .str j.key, .int .i64 j.ot, .int .i64 j.oe, .int .i64 j.a, .int .i64 j.b, .int .i64 nx, .nils, .int .i64 tc]] := by
  refine FnM.mk' base Tryd.func20 rfl rfl rfl rfl ?_
  repeat' ((conv => whnf); (first
   | (with_reducible first | refine AW.seq ?_ | refine AW.region base (by kernel_rfl) ?_ | refine AW.cond ?_ | refine AW.block ?_ | refine AW.ret ?_ | refine AW.exit ?_ | refine AW.skip ?_ | refine Br.t ?_ | refine Br.f ?_)
   | (with_reducible refine Br.mkT (fun hb => (by (first | (simp at hb; done) | omega | (simp only [decide_eq_true_eq, decide_eq_false_iff_not, Bool.not_eq_true', Bool.not_eq_false'] at hb; first | omega | fail) | fail))) (fun hb => ?_))
   | (with_reducible refine Br.mkF (fun hb => (by (first | (simp at hb; done) | omega | (simp only [decide_eq_true_eq, decide_eq_false_iff_not, Bool.not_eq_true', Bool.not_eq_false'] at hb; first | omega | fail) | fail))) (fun hb => ?_))
   | ((with_reducible refine Or.inl ?_); (conv => whnf); (with_reducible refine And.intro LitSl.mk ?_))
   | refine Br.t ?_
   | refine Br.f ?_
   | (with_reducible refine Br.mk (fun hb => ?_) (fun hb => ?_) <;> (try rw [hb]) <;> (try simp only [List.length_map, decide_eq_true_eq, decide_eq_false_iff_not, Bool.not_eq_true', Bool.not_eq_false', Int.ofNat_lt, Int.ofNat_le, Int.not_lt, Int.not_le, Int.toNat_natCast] at hb))
   | ((with_reducible first | refine Or.inl (And.intro ?_ ?_) | refine And.intro ?_ ?_); (focus (first | with_reducible rfl | exact trivial | (exact ⟨rfl, trivial⟩) | (exact ⟨rfl, rfl, trivial⟩) | omega | (intro r hr; simp only [List.mem_singleton] at hr; subst hr; rfl)  | ((simp only [in64, maxLen] at *; omega)) | (simp only [in64]; omega) | assumption | (simp; done) | (simp [V.cells]; done) | (simp [in64, maxLen, limK] at *; omega) | ((show confB _ _ = true); kernel_rfl) | rfl)))
   | (intro row hrow; (try simp only [Int.toNat_natCast, List.length_map, toNat_pred, toNat_succ', toNat_zero', toNat_one'] at hrow); (first | (have hsm := same_map (by assumption) hrow; subst hsm; clear hrow) | (obtain ⟨p, hp, rfl⟩ := of_map hrow; clear hrow)))))
  all_goals (conv => whnf)
  all_goals (refine ⟨[0], ?_⟩)
  all_goals (repeat' (first | (with_reducible rfl) | exact trivial | ((conv => whnf); (first | (with_reducible refine And.intro ?_ ?_) | exact trivial | (intro hb; first | (exfalso; simp_all; done) | skip)))))
  all_goals (first | rfl)

set_option maxRecDepth 100000 in
set_option maxHeartbeats 400000 in
theorem tick_1no (e n nx tc : Int) (j : JobV) (ht : 0 ≤ tc ∧ tc ≤ 1000) (h5 : ¬ (tc + 1) % 5 = 0) : FnM Tryd.prog 20 [.ptr 0 0] [.cells [.sl [[.int .i64 1, .int .i64 e, .int .i64 n, .str [], .str []]], .int .i64 1, .int .i64 j.sh, .int .i64 j.ep, .int .i64 j.fr, .int .i64 j.to, .int .i64 j.pc, .int .i64 j.ps, .str j.key, .int .i64 j.ot, .int .i64 j.oe, .int .i64 j.a, .int .i64 j.b, .int .i64 nx, .nils, .int .i64 tc]] (.nils) [.cells [.sl [[.int .i64 1, .int .i64 e, .int .i64 n, .str [], .str []]], .int .i64 1, .int .i64 j.sh, .int .i64 j.ep, .int .i64 j.fr, .int .i64 j.to, .int .i64 j.pc, .int .i64 j.ps, .str j.key, .int .i64 j.ot, .int .i64 j.oe, .int .i64 j.a, .int .i64 j.b, .int .i64 nx, .nils, .int .i64 (tc + 1)]] := by
  refine FnM.mk' base Tryd.func20 rfl rfl rfl rfl ?_
  repeat' ((conv => whnf); (first
   | (with_reducible first | refine AW.seq ?_ | refine AW.region base (by kernel_rfl) ?_ | refine AW.cond ?_ | refine AW.block ?_ | refine AW.ret ?_ | refine AW.exit ?_ | refine AW.skip ?_ | refine Br.t ?_ | refine Br.f ?_)
   | (with_reducible refine Br.mkT (fun hb => (by (first | (simp at hb; done) | omega | (simp only [decide_eq_true_eq, decide_eq_false_iff_not, Bool.not_eq_true', Bool.not_eq_false'] at hb; omega) | fail))) (fun hb => ?_))
   | (with_reducible refine Br.mkF (fun hb => (by (first | (simp at hb; done) | omega | (simp only [decide_eq_true_eq, decide_eq_false_iff_not, Bool.not_eq_true', Bool.not_eq_false'] at hb; omega) | fail))) (fun hb => ?_))
   | ((with_reducible refine Or.inl ?_); (conv => whnf); (with_reducible refine And.intro LitSl.mk ?_))
   | refine Br.t ?_
   | refine Br.f ?_
   | (with_reducible refine Br.mk (fun hb => ?_) (fun hb => ?_) <;> (try rw [hb]) <;> (try simp only [List.length_map, decide_eq_true_eq, decide_eq_false_iff_not, Bool.not_eq_true', Bool.not_eq_false', Int.ofNat_lt, Int.ofNat_le, Int.not_lt, Int.not_le, Int.toNat_natCast] at hb))
   | ((with_reducible first | refine Or.inl (And.intro ?_ ?_) | refine And.intro ?_ ?_); (focus (first | with_reducible rfl | exact trivial | (exact ⟨rfl, trivial⟩) | (exact ⟨rfl, rfl, trivial⟩) | omega | (intro r hr; simp only [List.mem_singleton] at hr; subst hr; rfl)  | ((simp only [in64, maxLen] at *; omega)) | ((exact ⟨by omega, by decide⟩)) | (simp only [in64]; omega) | assumption | (simp; done) | (simp [V.cells]; done) | (simp [in64, maxLen, limK] at *; omega) | ((show confB _ _ = true); kernel_rfl) | rfl)))
   | (intro row hrow; (try simp only [Int.toNat_natCast, List.length_map, toNat_pred, toNat_succ', toNat_zero', toNat_one'] at hrow); (first | (have hsm := same_map (by assumption) hrow; subst hsm; clear hrow) | (obtain ⟨p, hp, rfl⟩ := of_map hrow; clear hrow)))))
  all_goals (conv => whnf)
  all_goals (refine ⟨[0], ?_⟩)
  all_goals (repeat' (first | (with_reducible rfl) | exact trivial | ((conv => whnf); (first | (with_reducible refine And.intro ?_ ?_) | exact trivial | (intro hb; first | (exfalso; simp_all; done) | skip)))))
  all_goals (first | rfl)

set_option maxRecDepth 100000 in
set_option maxHeartbeats 400000 in
theorem tick_1 (e n nx tc : Int) (j : JobV) (ht : 0 ≤ tc ∧ tc ≤ 1000) (h5 : (tc + 1) % 5 = 0) (he : 0 ≤ j.ep ∧ j.ep ≤ 1000) : FnM Tryd.prog 20 [.ptr 0 0] [.cells [.sl [[.int .i64 1, .int .i64 e, .int .i64 n, .str [], .str []]], .int .i64 1, .int .i64 j.sh, .int .i64 j.ep, .int .i64 j.fr, .int .i64 j.to, .int .i64 j.pc, .int .i64 j.ps, .str j.key, .int .i64 j.ot, .int .i64 j.oe, .int .i64 j.a, .int .i64 j.b, .int .i64 nx, .nils, .int .i64 tc]] (.sl [[.int .i64 7, .int .i64 100, .int .i64 j.fr, .int .i64 j.sh, .int .i64 j.ep, .int .i64 0, .int .i64 0, .int .i64 0, .int .i64 0, .str [], .str [], .str [], .int .i64 0, .nils, .int .i64 0, .str [], .int .i64 0, .nils, .str [], .str [], .nils, .nils, .nils, .str []]]) [.cells [.sl [[.int .i64 1, .int .i64 e, .int .i64 n, .str [], .str []]], .int .i64 1, .int .i64 j.sh, .int .i64 j.ep, .int .i64 j.fr, .int .i64 j.to, .int .i64 j.pc, .int .i64 j.ps, .str j.key, .int .i64 j.ot, .int .i64 j.oe, .int .i64 j.a, .int .i64 j.b, .int .i64 nx, .nils, .int .i64 (tc + 1)]] := by
  refine FnM.mk' base Tryd.func20 rfl rfl rfl rfl ?_
  repeat' ((conv => whnf); (first
   | (with_reducible first | refine AW.seq ?_ | refine AW.region base (by kernel_rfl) ?_ | refine AW.cond ?_ | refine AW.block ?_ | refine AW.ret ?_ | refine AW.exit ?_ | refine AW.skip ?_ | refine Br.t ?_ | refine Br.f ?_)
   | (with_reducible refine Br.mkT (fun hb => (by (first | (simp at hb; done) | omega | (simp only [decide_eq_true_eq, decide_eq_false_iff_not, Bool.not_eq_true', Bool.not_eq_false'] at hb; omega) | fail))) (fun hb => ?_))
   | (with_reducible refine Br.mkF (fun hb => (by (first | (simp at hb; done) | omega | (simp only [decide_eq_true_eq, decide_eq_false_iff_not, Bool.not_eq_true', Bool.not_eq_false'] at hb; omega) | fail))) (fun hb => ?_))
   | ((with_reducible refine Or.inl ?_); (conv => whnf); (with_reducible refine And.intro LitSl.mk ?_))
   | refine Br.t ?_
   | refine Br.f ?_
   | (with_reducible refine Or.inr ⟨[?_], _, _, _, _, says_1 e n nx (tc + 1) j he, ?_⟩)
   | (with_reducible refine Or.inr (Or.inr ⟨[?_], _, _, _, _, says_1 e n nx (tc + 1) j he, ?_⟩))
   | (with_reducible refine Br.mk (fun hb => ?_) (fun hb => ?_) <;> (try rw [hb]) <;> (try simp only [List.length_map, decide_eq_true_eq, decide_eq_false_iff_not, Bool.not_eq_true', Bool.not_eq_false', Int.ofNat_lt, Int.ofNat_le, Int.not_lt, Int.not_le, Int.toNat_natCast] at hb))
   | ((with_reducible first | refine Or.inl (And.intro ?_ ?_) | refine And.intro ?_ ?_); (focus (first | with_reducible rfl | exact trivial | (exact ⟨rfl, trivial⟩) | (exact ⟨rfl, rfl, trivial⟩) | omega | (intro r hr; simp only [List.mem_singleton] at hr; subst hr; rfl)  | ((simp only [in64, maxLen] at *; omega)) | ((exact ⟨by omega, by decide⟩)) | (simp only [in64]; omega) | assumption | (simp; done) | (simp [V.cells]; done) | (simp [in64, maxLen, limK] at *; omega) | ((show confB _ _ = true); kernel_rfl) | rfl)))
   | (intro row hrow; (try simp only [Int.toNat_natCast, List.length_map, toNat_pred, toNat_succ', toNat_zero', toNat_one'] at hrow); (first | (have hsm := same_map (by assumption) hrow; subst hsm; clear hrow) | (obtain ⟨p, hp, rfl⟩ := of_map hrow; clear hrow)))))
  all_goals (conv => whnf)
  all_goals (refine ⟨[0], ?_⟩)
  all_goals (repeat' (first | (with_reducible rfl) | exact trivial | ((conv => whnf); (first | (with_reducible refine And.intro ?_ ?_) | exact trivial | (intro hb; first | (exfalso; simp_all; done) | skip)))))
  all_goals (first | rfl)

set_option maxRecDepth 100000 in
set_option maxHeartbeats 400000 in
theorem tick_7no (e n nx tc a b : Int) (key : Bs) (ht : 0 ≤ tc ∧ tc ≤ 1000) (h5 : ¬ (tc + 1) % 5 = 0) : FnM Tryd.prog 20 [.ptr 0 0] [.cells [.sl [[.int .i64 1, .int .i64 e, .int .i64 n, .str [], .str []]], .int .i64 7, .int .i64 1, .int .i64 e, .int .i64 n, .int .i64 n, .int .i64 0, .int .i64 0, .str key, .int .i64 0, .int .i64 0, .int .i64 a, .int .i64 b, .int .i64 nx, .nils, .int .i64 tc]] (.nils) [.cells [.sl [[.int .i64 1, .int .i64 e, .int .i64 n, .str [], .str []]], .int .i64 7, .int .i64 1, .int .i64 e, .int .i64 n, .int .i64 n, .int .i64 0, .int .i64 0, .str key, .int .i64 0, .int .i64 0, .int .i64 a, .int .i64 b, .int .i64 nx, .nils, .int .i64 (tc + 1)]] := by
  refine FnM.mk' base Tryd.func20 rfl rfl rfl rfl ?_
  repeat' ((conv => whnf); (first
   | (with_reducible first | refine AW.seq ?_ | refine AW.region base (by kernel_rfl) ?_ | refine AW.cond ?_ | refine AW.block ?_ | refine AW.ret ?_ | refine AW.exit ?_ | refine AW.skip ?_ | refine Br.t ?_ | refine Br.f ?_)
   | (with_reducible refine Br.mkT (fun hb => (by (first | (simp at hb; done) | omega | (simp only [decide_eq_true_eq, decide_eq_false_iff_not, Bool.not_eq_true', Bool.not_eq_false'] at hb; omega) | fail))) (fun hb => ?_))
   | (with_reducible refine Br.mkF (fun hb => (by (first | (simp at hb; done) | omega | (simp only [decide_eq_true_eq, decide_eq_false_iff_not, Bool.not_eq_true', Bool.not_eq_false'] at hb; omega) | fail))) (fun hb => ?_))
   | ((with_reducible refine Or.inl ?_); (conv => whnf); (with_reducible refine And.intro LitSl.mk ?_))
   | refine Br.t ?_
   | refine Br.f ?_
   | (with_reducible refine Br.mk (fun hb => ?_) (fun hb => ?_) <;> (try rw [hb]) <;> (try simp only [List.length_map, decide_eq_true_eq, decide_eq_false_iff_not, Bool.not_eq_true', Bool.not_eq_false', Int.ofNat_lt, Int.ofNat_le, Int.not_lt, Int.not_le, Int.toNat_natCast] at hb))
   | ((with_reducible first | refine Or.inl (And.intro ?_ ?_) | refine And.intro ?_ ?_); (focus (first | with_reducible rfl | exact trivial | (exact ⟨rfl, trivial⟩) | (exact ⟨rfl, rfl, trivial⟩) | omega | (intro r hr; simp only [List.mem_singleton] at hr; subst hr; rfl)  | ((simp only [in64, maxLen] at *; omega)) | ((exact ⟨by omega, by decide⟩)) | (simp only [in64]; omega) | assumption | (simp; done) | (simp [V.cells]; done) | (simp [in64, maxLen, limK] at *; omega) | ((show confB _ _ = true); kernel_rfl) | rfl)))
   | (intro row hrow; (try simp only [Int.toNat_natCast, List.length_map, toNat_pred, toNat_succ', toNat_zero', toNat_one'] at hrow); (first | (have hsm := same_map (by assumption) hrow; subst hsm; clear hrow) | (obtain ⟨p, hp, rfl⟩ := of_map hrow; clear hrow)))))
  all_goals (conv => whnf)
  all_goals (refine ⟨[0], ?_⟩)
  all_goals (repeat' (first | (with_reducible rfl) | exact trivial | ((conv => whnf); (first | (with_reducible refine And.intro ?_ ?_) | exact trivial | (intro hb; first | (exfalso; simp_all; done) | skip)))))
  all_goals (first | rfl)

set_option maxRecDepth 100000 in
set_option maxHeartbeats 400000 in
theorem tick_7 (e n nx tc a b : Int) (key : Bs) (ht : 0 ≤ tc ∧ tc ≤ 1000) (h5 : (tc + 1) % 5 = 0) : FnM Tryd.prog 20 [.ptr 0 0] [.cells [.sl [[.int .i64 1, .int .i64 e, .int .i64 n, .str [], .str []]], .int .i64 7, .int .i64 1, .int .i64 e, .int .i64 n, .int .i64 n, .int .i64 0, .int .i64 0, .str key, .int .i64 0, .int .i64 0, .int .i64 a, .int .i64 b, .int .i64 nx, .nils, .int .i64 tc]] (.sl [[.int .i64 19, .int .i64 100, .int .i64 n, .int .i64 1, .int .i64 e, .int .i64 a, .int .i64 b, .int .i64 0, .int .i64 0, .str [], .str [], .str [], .int .i64 0, .nils, .int .i64 0, .str [], .int .i64 0, .nils, .str key, .str [], .nils, .nils, .nils, .str []]]) [.cells [.sl [[.int .i64 1, .int .i64 e, .int .i64 n, .str [], .str []]], .int .i64 7, .int .i64 1, .int .i64 e, .int .i64 n, .int .i64 n, .int .i64 0, .int .i64 0, .str key, .int .i64 0, .int .i64 0, .int .i64 a, .int .i64 b, .int .i64 nx, .nils, .int .i64 (tc + 1)]] := by
  refine FnM.mk' base Tryd.func20 rfl rfl rfl rfl ?_
  repeat' ((conv => whnf); (first
   | (with_reducible first | refine AW.seq ?_ | refine AW.region base (by kernel_rfl) ?_ | refine AW.cond ?_ | refine AW.block ?_ | refine AW.ret ?_ | refine AW.exit ?_ | refine AW.skip ?_ | refine Br.t ?_ | refine Br.f ?_)
   | (with_reducible refine Br.mkT (fun hb => (by (first | (simp at hb; done) | omega | (simp only [decide_eq_true_eq, decide_eq_false_iff_not, Bool.not_eq_true', Bool.not_eq_false'] at hb; omega) | fail))) (fun hb => ?_))
   | (with_reducible refine Br.mkF (fun hb => (by (first | (simp at hb; done) | omega | (simp only [decide_eq_true_eq, decide_eq_false_iff_not, Bool.not_eq_true', Bool.not_eq_false'] at hb; omega) | fail))) (fun hb => ?_))
   | ((with_reducible refine Or.inl ?_); (conv => whnf); (with_reducible refine And.intro LitSl.mk ?_))
   | refine Br.t ?_
   | refine Br.f ?_
   | (with_reducible refine Or.inr ⟨[?_], _, _, _, _, says_7 e n nx (tc + 1) a b key, ?_⟩)
   | (with_reducible refine Or.inr (Or.inr ⟨[?_], _, _, _, _, says_7 e n nx (tc + 1) a b key, ?_⟩))
   | (with_reducible refine Br.mk (fun hb => ?_) (fun hb => ?_) <;> (try rw [hb]) <;> (try simp only [List.length_map, decide_eq_true_eq, decide_eq_false_iff_not, Bool.not_eq_true', Bool.not_eq_false', Int.ofNat_lt, Int.ofNat_le, Int.not_lt, Int.not_le, Int.toNat_natCast] at hb))
   | ((with_reducible first | refine Or.inl (And.intro ?_ ?_) | refine And.intro ?_ ?_); (focus (first | with_reducible rfl | exact trivial | (exact ⟨rfl, trivial⟩) | (exact ⟨rfl, rfl, trivial⟩) | omega | (intro r hr; simp only [List.mem_singleton] at hr; subst hr; rfl)  | ((simp only [in64, maxLen] at *; omega)) | ((exact ⟨by omega, by decide⟩)) | (simp only [in64]; omega) | assumption | (simp; done) | (simp [V.cells]; done) | (simp [in64, maxLen, limK] at *; omega) | ((show confB _ _ = true); kernel_rfl) | rfl)))
   | (intro row hrow; (try simp only [Int.toNat_natCast, List.length_map, toNat_pred, toNat_succ', toNat_zero', toNat_one'] at hrow); (first | (have hsm := same_map (by assumption) hrow; subst hsm; clear hrow) | (obtain ⟨p, hp, rfl⟩ := of_map hrow; clear hrow)))))
  all_goals (conv => whnf)
  all_goals (refine ⟨[0], ?_⟩)
  all_goals (repeat' (first | (with_reducible rfl) | exact trivial | ((conv => whnf); (first | (with_reducible refine And.intro ?_ ?_) | exact trivial | (intro hb; first | (exfalso; simp_all; done) | skip)))))
  all_goals (first | rfl)

set_option maxRecDepth 100000 in
set_option maxHeartbeats 400000 in
theorem cloneP1_fn (e n : Int) : FnM Tryd.prog 45 [.sl [[.int .i64 1, .int .i64 e, .int .i64 n, .str [], .str []]]] [] (.own 0) [.rows 58 [[.int .i64 1, .int .i64 e, .int .i64 n, .str [], .str []]]] := by
  refine FnM.mk' base Tryd.func45 rfl rfl rfl rfl ?_
  repeat' ((conv => whnf); (first
   | (with_reducible first | refine AW.seq ?_ | refine AW.region base (by kernel_rfl) ?_ | refine AW.cond ?_ | refine AW.block ?_ | refine AW.ret ?_ | refine AW.exit ?_ | refine AW.skip ?_ | refine Br.t ?_ | refine Br.f ?_)
   | (with_reducible refine Br.mkT (fun hb => (by (first | (simp at hb; done) | omega | (simp only [decide_eq_true_eq, decide_eq_false_iff_not, Bool.not_eq_true', Bool.not_eq_false'] at hb; first | omega | fail) | fail))) (fun hb => ?_))
   | (with_reducible refine Br.mkF (fun hb => (by (first | (simp at hb; done) | omega | (simp only [decide_eq_true_eq, decide_eq_false_iff_not, Bool.not_eq_true', Bool.not_eq_false'] at hb; first | omega | fail) | fail))) (fun hb => ?_))
   | ((with_reducible refine Or.inl ?_); (conv => whnf); (with_reducible refine And.intro LitSl.mk ?_))
   | refine Br.t ?_
   | refine Br.f ?_
   | (with_reducible refine Br.mk (fun hb => ?_) (fun hb => ?_) <;> (try rw [hb]) <;> (try simp only [List.length_map, decide_eq_true_eq, decide_eq_false_iff_not, Bool.not_eq_true', Bool.not_eq_false', Int.ofNat_lt, Int.ofNat_le, Int.not_lt, Int.not_le, Int.toNat_natCast] at hb))
   | ((with_reducible first | refine Or.inl (And.intro ?_ ?_) | refine And.intro ?_ ?_); (focus (first | with_reducible rfl | exact trivial | (exact ⟨rfl, trivial⟩) | (exact ⟨rfl, rfl, trivial⟩) | omega | (intro r hr; simp only [List.mem_singleton] at hr; subst hr; rfl)  | ((intro r hr; simp only [List.mem_cons, List.not_mem_nil, or_false] at hr; subst hr; rfl)) | ((exact ⟨by omega, rfl⟩)) | ((simp; done)) | (simp only [in64]; omega) | assumption | (simp; done) | (simp [V.cells]; done) | (simp [in64, maxLen, limK] at *; omega) | ((show confB _ _ = true); kernel_rfl) | rfl)))
   | (intro row hrow; (try simp only [Int.toNat_natCast, List.length_map, toNat_pred, toNat_succ', toNat_zero', toNat_one'] at hrow); (first | (have hsm := same_map (by assumption) hrow; subst hsm; clear hrow) | (obtain ⟨p, hp, rfl⟩ := of_map hrow; clear hrow)))))
  all_goals (conv => whnf)
  all_goals (refine ⟨[?_], ?_⟩)
  all_goals (repeat' (first | (with_reducible rfl) | exact trivial | ((conv => whnf); (first | (with_reducible refine And.intro ?_ ?_) | exact trivial | (intro hb; first | (exfalso; simp_all; done) | skip)))))
  all_goals (first | rfl)

set_option maxRecDepth 100000 in
set_option maxHeartbeats 400000 in
theorem planMove_fn (e n ep nd : Int) : Fn Tryd.prog 59 [.sl [[.int .i64 1, .int .i64 e, .int .i64 n, .str [], .str []]], .int .i64 1, .int .i64 ep, .int .i64 nd] (.sl [[.int .i64 1, .int .i64 ep, .int .i64 nd, .str [], .str []]]) := by
  refine Fn.mk' base Tryd.func59 rfl rfl rfl ?_
  repeat' ((conv => whnf); (first
   | (with_reducible first | refine AW.seq ?_ | refine AW.region base (by kernel_rfl) ?_ | refine AW.cond ?_ | refine AW.block ?_ | refine AW.ret ?_ | refine AW.exit ?_ | refine AW.skip ?_ | refine Br.t ?_ | refine Br.f ?_)
   | (with_reducible refine Br.mkT (fun hb => (by (first | (simp at hb; done) | omega | (simp only [decide_eq_true_eq, decide_eq_false_iff_not, Bool.not_eq_true', Bool.not_eq_false'] at hb; first | omega | fail) | fail))) (fun hb => ?_))
   | (with_reducible refine Br.mkF (fun hb => (by (first | (simp at hb; done) | omega | (simp only [decide_eq_true_eq, decide_eq_false_iff_not, Bool.not_eq_true', Bool.not_eq_false'] at hb; first | omega | fail) | fail))) (fun hb => ?_))
   | ((with_reducible refine Or.inl ?_); (conv => whnf); (with_reducible refine And.intro LitSl.mk ?_))
   | refine Br.t ?_
   | refine Br.f ?_
   | (intro row hrow; have e0 := Option.some.inj (show some _ = some row from hrow); subst e0)
   | ((with_reducible refine Or.inl ?_); (conv => whnf); (first | (with_reducible first | refine ⟨_, find_fn e n, ?_⟩)))
   | (with_reducible refine Or.inr ⟨[], _, _, _, _, cloneP1_fn e n, ?_⟩)
   | (with_reducible refine Or.inr (Or.inr ⟨[], _, _, _, _, cloneP1_fn e n, ?_⟩))
   | ((with_reducible refine Or.inr (Or.inl ?_)); (conv => whnf); (with_reducible refine ⟨_, find_fn e n, ?_⟩))
   | (with_reducible refine Br.mk (fun hb => ?_) (fun hb => ?_) <;> (try rw [hb]) <;> (try simp only [List.length_map, decide_eq_true_eq, decide_eq_false_iff_not, Bool.not_eq_true', Bool.not_eq_false', Int.ofNat_lt, Int.ofNat_le, Int.not_lt, Int.not_le, Int.toNat_natCast] at hb))
   | ((with_reducible first | refine Or.inl (And.intro ?_ ?_) | refine And.intro ?_ ?_); (focus (first | with_reducible rfl | exact trivial | (exact ⟨rfl, trivial⟩) | (exact ⟨rfl, rfl, trivial⟩) | omega | (intro r hr; simp only [List.mem_singleton] at hr; subst hr; rfl)  | ((simp only [in64, maxLen] at *; omega)) | (simp only [in64]; omega) | assumption | (simp; done) | (simp [V.cells]; done) | (simp [in64, maxLen, limK] at *; omega) | ((show confB _ _ = true); kernel_rfl) | rfl)))
   | (intro row hrow; (try simp only [Int.toNat_natCast, List.length_map, toNat_pred, toNat_succ', toNat_zero', toNat_one'] at hrow); (first | (have hsm := same_map (by assumption) hrow; subst hsm; clear hrow) | (obtain ⟨p, hp, rfl⟩ := of_map hrow; clear hrow)))))
  all_goals (conv => whnf)
  all_goals (first | rfl | (simp only [V.bool.injEq, V.tup.injEq, V.agg.injEq, V.str.injEq, V.int.injEq, V.sl.injEq, V.ifc.injEq, List.cons.injEq, and_true, true_and, and_self]; done) | (simp only [V.bool.injEq, V.tup.injEq, V.agg.injEq, V.str.injEq, V.int.injEq, V.sl.injEq, V.ifc.injEq, List.cons.injEq, and_true, true_and, and_self]; grind) | (simp  at *; done) | (simp  at *; grind))

set_option maxRecDepth 100000 in
set_option maxHeartbeats 400000 in
theorem plan_fn (e n nx tc : Int) (j : JobV)  : FnM Tryd.prog 17 [.ptr 0 0] [.cells [.sl [[.int .i64 1, .int .i64 e, .int .i64 n, .str [], .str []]], .int .i64 j.ph, .int .i64 j.sh, .int .i64 j.ep, .int .i64 j.fr, .int .i64 j.to, .int .i64 j.pc, .int .i64 j.ps, .str j.key, .int .i64 j.ot, .int .i64 j.oe, .int .i64 j.a, .int .i64 j.b, .int .i64 nx, .nils, .int .i64 tc]] (.own 1) [.cells [.sl [[.int .i64 1, .int .i64 e, .int .i64 n, .str [], .str []]], .int .i64 j.ph, .int .i64 j.sh, .int .i64 j.ep, .int .i64 j.fr, .int .i64 j.to, .int .i64 j.pc, .int .i64 j.ps, .str j.key, .int .i64 j.ot, .int .i64 j.oe, .int .i64 j.a, .int .i64 j.b, .int .i64 nx, .nils, .int .i64 tc], .rows 58 [[.int .i64 1, .int .i64 e, .int .i64 n, .str [], .str []]]] := by
  refine FnM.mk' base Tryd.func17 rfl rfl rfl rfl ?_
  repeat' ((conv => whnf); (first
   | (with_reducible first | refine AW.seq ?_ | refine AW.region base (by kernel_rfl) ?_ | refine AW.cond ?_ | refine AW.block ?_ | refine AW.ret ?_ | refine AW.exit ?_ | refine AW.skip ?_ | refine Br.t ?_ | refine Br.f ?_)
   | (with_reducible refine Br.mkT (fun hb => (by (first | (simp at hb; done) | omega | (simp only [decide_eq_true_eq, decide_eq_false_iff_not, Bool.not_eq_true', Bool.not_eq_false'] at hb; first | omega | fail) | fail))) (fun hb => ?_))
   | (with_reducible refine Br.mkF (fun hb => (by (first | (simp at hb; done) | omega | (simp only [decide_eq_true_eq, decide_eq_false_iff_not, Bool.not_eq_true', Bool.not_eq_false'] at hb; first | omega | fail) | fail))) (fun hb => ?_))
   | ((with_reducible refine Or.inl ?_); (conv => whnf); (with_reducible refine And.intro LitSl.mk ?_))
   | refine Br.t ?_
   | refine Br.f ?_
   | (with_reducible refine Or.inr ⟨[], _, _, _, _, cloneP1_fn e n, ?_⟩)
   | (with_reducible refine Or.inr (Or.inr ⟨[], _, _, _, _, cloneP1_fn e n, ?_⟩))
   | (with_reducible refine Br.mk (fun hb => ?_) (fun hb => ?_) <;> (try rw [hb]) <;> (try simp only [List.length_map, decide_eq_true_eq, decide_eq_false_iff_not, Bool.not_eq_true', Bool.not_eq_false', Int.ofNat_lt, Int.ofNat_le, Int.not_lt, Int.not_le, Int.toNat_natCast] at hb))
   | ((with_reducible first | refine Or.inl (And.intro ?_ ?_) | refine And.intro ?_ ?_); (focus (first | with_reducible rfl | exact trivial | (exact ⟨rfl, trivial⟩) | (exact ⟨rfl, rfl, trivial⟩) | omega | (intro r hr; simp only [List.mem_singleton] at hr; subst hr; rfl)  | ((simp only [in64, maxLen] at *; omega)) | (simp only [in64]; omega) | assumption | (simp; done) | (simp [V.cells]; done) | (simp [in64, maxLen, limK] at *; omega) | ((show confB _ _ = true); kernel_rfl) | rfl)))
   | (intro row hrow; (try simp only [Int.toNat_natCast, List.length_map, toNat_pred, toNat_succ', toNat_zero', toNat_one'] at hrow); (first | (have hsm := same_map (by assumption) hrow; subst hsm; clear hrow) | (obtain ⟨p, hp, rfl⟩ := of_map hrow; clear hrow)))))
  all_goals (conv => whnf)
  all_goals (refine ⟨[0, ?_], ?_⟩)
  all_goals (repeat' (first | (with_reducible rfl) | exact trivial | ((conv => whnf); (first | (with_reducible refine And.intro ?_ ?_) | exact trivial | (intro hb; first | (exfalso; simp_all; done) | skip)))))
  all_goals (first | rfl)

set_option maxRecDepth 100000 in
set_option maxHeartbeats 400000 in
theorem ans_fn (k : Int) (h : k ≠ 19 ∧ k ≠ 20) (h1 : 0 ≤ k ∧ k ≤ 100) : Fn Tryd.prog 58 [.int .i64 k] (.int .i64 (k + 1)) := by
  refine Fn.mk' base Tryd.func58 rfl rfl rfl ?_
  repeat' ((conv => whnf); (first
   | (with_reducible first | refine AW.seq ?_ | refine AW.region base (by kernel_rfl) ?_ | refine AW.cond ?_ | refine AW.block ?_ | refine AW.ret ?_ | refine AW.exit ?_ | refine AW.skip ?_ | refine Br.t ?_ | refine Br.f ?_)
   | (with_reducible refine Br.mkT (fun hb => (by (first | (simp at hb; done) | omega | (simp only [decide_eq_true_eq, decide_eq_false_iff_not, Bool.not_eq_true', Bool.not_eq_false'] at hb; first | omega | fail) | fail))) (fun hb => ?_))
   | (with_reducible refine Br.mkF (fun hb => (by (first | (simp at hb; done) | omega | (simp only [decide_eq_true_eq, decide_eq_false_iff_not, Bool.not_eq_true', Bool.not_eq_false'] at hb; first | omega | fail) | fail))) (fun hb => ?_))
   | ((with_reducible refine Or.inl ?_); (conv => whnf); (with_reducible refine And.intro LitSl.mk ?_))
   | refine Br.t ?_
   | refine Br.f ?_
   | (with_reducible refine Br.mk (fun hb => ?_) (fun hb => ?_) <;> (try rw [hb]) <;> (try simp only [List.length_map, decide_eq_true_eq, decide_eq_false_iff_not, Bool.not_eq_true', Bool.not_eq_false', Int.ofNat_lt, Int.ofNat_le, Int.not_lt, Int.not_le, Int.toNat_natCast] at hb))
   | ((with_reducible first | refine Or.inl (And.intro ?_ ?_) | refine And.intro ?_ ?_); (focus (first | with_reducible rfl | exact trivial | (exact ⟨rfl, trivial⟩) | (exact ⟨rfl, rfl, trivial⟩) | omega | (intro r hr; simp only [List.mem_singleton] at hr; subst hr; rfl)  | ((simp only [in64, maxLen] at *; omega)) | (simp only [in64]; omega) | assumption | (simp; done) | (simp [V.cells]; done) | (simp [in64, maxLen, limK] at *; omega) | ((show confB _ _ = true); kernel_rfl) | rfl)))
   | (intro row hrow; (try simp only [Int.toNat_natCast, List.length_map, toNat_pred, toNat_succ', toNat_zero', toNat_one'] at hrow); (first | (have hsm := same_map (by assumption) hrow; subst hsm; clear hrow) | (obtain ⟨p, hp, rfl⟩ := of_map hrow; clear hrow)))))
  all_goals (conv => whnf)
  all_goals (first | rfl | (simp only [V.bool.injEq, V.tup.injEq, V.agg.injEq, V.str.injEq, V.int.injEq, V.sl.injEq, V.ifc.injEq, List.cons.injEq, and_true, true_and, and_self]; done) | (simp only [V.bool.injEq, V.tup.injEq, V.agg.injEq, V.str.injEq, V.int.injEq, V.sl.injEq, V.ifc.injEq, List.cons.injEq, and_true, true_and, and_self]; grind) | (simp  at *; done) | (simp  at *; grind))

set_option maxRecDepth 100000 in
set_option maxHeartbeats 400000 in
theorem fits_1 (e n nx tc : Int) (j : JobV) (x2 : Int) (he : 0 ≤ j.ep ∧ j.ep ≤ 1000) : FnM Tryd.prog 36 [.ptr 0 0, .agg [.int .i64 8, .int .i64 j.fr, .int .i64 100, .int .i64 j.sh, .int .i64 j.ep, .int .i64 x2, .int .i64 0, .int .i64 0, .int .i64 0, .str [], .str [], .str [], .int .i64 0, .nils, .int .i64 0, .str [], .int .i64 0, .nils, .str [], .str [], .nils, .nils, .nils, .str []]] [.cells [.sl [[.int .i64 1, .int .i64 e, .int .i64 n, .str [], .str []]], .int .i64 1, .int .i64 j.sh, .int .i64 j.ep, .int .i64 j.fr, .int .i64 j.to, .int .i64 j.pc, .int .i64 j.ps, .str j.key, .int .i64 j.ot, .int .i64 j.oe, .int .i64 j.a, .int .i64 j.b, .int .i64 nx, .nils, .int .i64 tc]] (.bool true) [.cells [.sl [[.int .i64 1, .int .i64 e, .int .i64 n, .str [], .str []]], .int .i64 1, .int .i64 j.sh, .int .i64 j.ep, .int .i64 j.fr, .int .i64 j.to, .int .i64 j.pc, .int .i64 j.ps, .str j.key, .int .i64 j.ot, .int .i64 j.oe, .int .i64 j.a, .int .i64 j.b, .int .i64 nx, .nils, .int .i64 tc]] := by
  refine FnM.mk' base Tryd.func36 rfl rfl rfl rfl ?_
  repeat' ((conv => whnf); (first
   | (with_reducible first | refine AW.seq ?_ | refine AW.region base (by kernel_rfl) ?_ | refine AW.cond ?_ | refine AW.block ?_ | refine AW.ret ?_ | refine AW.exit ?_ | refine AW.skip ?_ | refine Br.t ?_ | refine Br.f ?_)
   | (with_reducible refine Br.mkT (fun hb => (by (first | (simp at hb; done) | omega | (simp only [decide_eq_true_eq, decide_eq_false_iff_not, Bool.not_eq_true', Bool.not_eq_false'] at hb; first | omega | fail) | fail))) (fun hb => ?_))
   | (with_reducible refine Br.mkF (fun hb => (by (first | (simp at hb; done) | omega | (simp only [decide_eq_true_eq, decide_eq_false_iff_not, Bool.not_eq_true', Bool.not_eq_false'] at hb; first | omega | fail) | fail))) (fun hb => ?_))
   | ((with_reducible refine Or.inl ?_); (conv => whnf); (with_reducible refine And.intro LitSl.mk ?_))
   | refine Br.t ?_
   | refine Br.f ?_
   | (intro row hrow; have e0 := Option.some.inj (show some _ = some row from hrow); subst e0)
   | ((with_reducible refine Or.inl ?_); (conv => whnf); (first | (with_reducible first | refine ⟨_, ans_fn 7 (by decide) (by decide), ?_⟩)))
   | (with_reducible refine Or.inr ⟨[?_], _, _, _, _, says_1 e n nx tc j he, ?_⟩)
   | (with_reducible refine Or.inr (Or.inr ⟨[?_], _, _, _, _, says_1 e n nx tc j he, ?_⟩))
   | (with_reducible refine Br.mk (fun hb => ?_) (fun hb => ?_) <;> (try rw [hb]) <;> (try simp only [List.length_map, decide_eq_true_eq, decide_eq_false_iff_not, Bool.not_eq_true', Bool.not_eq_false', Int.ofNat_lt, Int.ofNat_le, Int.not_lt, Int.not_le, Int.toNat_natCast] at hb))
   | ((with_reducible first | refine Or.inl (And.intro ?_ ?_) | refine And.intro ?_ ?_); (focus (first | with_reducible rfl | exact trivial | (exact ⟨rfl, trivial⟩) | (exact ⟨rfl, rfl, trivial⟩) | omega | (intro r hr; simp only [List.mem_singleton] at hr; subst hr; rfl)  | ((simp only [in64, maxLen] at *; omega)) | (simp only [in64]; omega) | assumption | (simp; done) | (simp [V.cells]; done) | (simp [in64, maxLen, limK] at *; omega) | ((show confB _ _ = true); kernel_rfl) | rfl)))
   | (intro row hrow; (try simp only [Int.toNat_natCast, List.length_map, toNat_pred, toNat_succ', toNat_zero', toNat_one'] at hrow); (first | (have hsm := same_map (by assumption) hrow; subst hsm; clear hrow) | (obtain ⟨p, hp, rfl⟩ := of_map hrow; clear hrow)))))
  all_goals (conv => whnf)
  all_goals (refine ⟨[0], ?_⟩)
  all_goals (repeat' (first | (with_reducible rfl) | exact trivial | ((conv => whnf); (first | (with_reducible refine And.intro ?_ ?_) | exact trivial | (intro hb; first | (exfalso; simp_all; done) | skip)))))
  all_goals (first | rfl)

set_option maxRecDepth 100000 in
set_option maxHeartbeats 400000 in
theorem fits_6 (e n nx tc : Int) (j : JobV) (x2 : Int) (he : 0 ≤ j.ep ∧ j.ep ≤ 1000) : FnM Tryd.prog 36 [.ptr 0 0, .agg [.int .i64 16, .int .i64 j.fr, .int .i64 100, .int .i64 j.sh, .int .i64 j.ep, .int .i64 x2, .int .i64 0, .int .i64 0, .int .i64 0, .str [], .str [], .str [], .int .i64 0, .nils, .int .i64 0, .str [], .int .i64 0, .nils, .str [], .str [], .nils, .nils, .nils, .str []]] [.cells [.sl [[.int .i64 1, .int .i64 e, .int .i64 n, .str [], .str []]], .int .i64 6, .int .i64 j.sh, .int .i64 j.ep, .int .i64 j.fr, .int .i64 j.to, .int .i64 j.pc, .int .i64 j.ps, .str j.key, .int .i64 j.ot, .int .i64 j.oe, .int .i64 j.a, .int .i64 j.b, .int .i64 nx, .nils, .int .i64 tc]] (.bool true) [.cells [.sl [[.int .i64 1, .int .i64 e, .int .i64 n, .str [], .str []]], .int .i64 6, .int .i64 j.sh, .int .i64 j.ep, .int .i64 j.fr, .int .i64 j.to, .int .i64 j.pc, .int .i64 j.ps, .str j.key, .int .i64 j.ot, .int .i64 j.oe, .int .i64 j.a, .int .i64 j.b, .int .i64 nx, .nils, .int .i64 tc]] := by
  refine FnM.mk' base Tryd.func36 rfl rfl rfl rfl ?_
  repeat' ((conv => whnf); (first
   | (with_reducible first | refine AW.seq ?_ | refine AW.region base (by kernel_rfl) ?_ | refine AW.cond ?_ | refine AW.block ?_ | refine AW.ret ?_ | refine AW.exit ?_ | refine AW.skip ?_ | refine Br.t ?_ | refine Br.f ?_)
   | (with_reducible refine Br.mkT (fun hb => (by (first | (simp at hb; done) | omega | (simp only [decide_eq_true_eq, decide_eq_false_iff_not, Bool.not_eq_true', Bool.not_eq_false'] at hb; first | omega | fail) | fail))) (fun hb => ?_))
   | (with_reducible refine Br.mkF (fun hb => (by (first | (simp at hb; done) | omega | (simp only [decide_eq_true_eq, decide_eq_false_iff_not, Bool.not_eq_true', Bool.not_eq_false'] at hb; first | omega | fail) | fail))) (fun hb => ?_))
   | ((with_reducible refine Or.inl ?_); (conv => whnf); (with_reducible refine And.intro LitSl.mk ?_))
   | refine Br.t ?_
   | refine Br.f ?_
   | (intro row hrow; have e0 := Option.some.inj (show some _ = some row from hrow); subst e0)
   | ((with_reducible refine Or.inl ?_); (conv => whnf); (first | (with_reducible first | refine ⟨_, ans_fn 15 (by decide) (by decide), ?_⟩)))
   | (with_reducible refine Or.inr ⟨[?_], _, _, _, _, says_6 e n nx tc j he, ?_⟩)
   | (with_reducible refine Or.inr (Or.inr ⟨[?_], _, _, _, _, says_6 e n nx tc j he, ?_⟩))
   | (with_reducible refine Br.mk (fun hb => ?_) (fun hb => ?_) <;> (try rw [hb]) <;> (try simp only [List.length_map, decide_eq_true_eq, decide_eq_false_iff_not, Bool.not_eq_true', Bool.not_eq_false', Int.ofNat_lt, Int.ofNat_le, Int.not_lt, Int.not_le, Int.toNat_natCast] at hb))
   | ((with_reducible first | refine Or.inl (And.intro ?_ ?_) | refine And.intro ?_ ?_); (focus (first | with_reducible rfl | exact trivial | (exact ⟨rfl, trivial⟩) | (exact ⟨rfl, rfl, trivial⟩) | omega | (intro r hr; simp only [List.mem_singleton] at hr; subst hr; rfl)  | ((simp only [in64, maxLen] at *; omega)) | (simp only [in64]; omega) | assumption | (simp; done) | (simp [V.cells]; done) | (simp [in64, maxLen, limK] at *; omega) | ((show confB _ _ = true); kernel_rfl) | rfl)))
   | (intro row hrow; (try simp only [Int.toNat_natCast, List.length_map, toNat_pred, toNat_succ', toNat_zero', toNat_one'] at hrow); (first | (have hsm := same_map (by assumption) hrow; subst hsm; clear hrow) | (obtain ⟨p, hp, rfl⟩ := of_map hrow; clear hrow)))))
  all_goals (conv => whnf)
  all_goals (refine ⟨[0], ?_⟩)
  all_goals (repeat' (first | (with_reducible rfl) | exact trivial | ((conv => whnf); (first | (with_reducible refine And.intro ?_ ?_) | exact trivial | (intro hb; first | (exfalso; simp_all; done) | skip)))))
  all_goals (first | rfl)

set_option maxRecDepth 100000 in
set_option maxHeartbeats 400000 in
theorem ends_fn (e n nx tc : Int) (j : JobV)  : FnM Tryd.prog 61 [.ptr 0 0] [.cells [.sl [[.int .i64 1, .int .i64 e, .int .i64 n, .str [], .str []]], .int .i64 j.ph, .int .i64 j.sh, .int .i64 j.ep, .int .i64 j.fr, .int .i64 j.to, .int .i64 j.pc, .int .i64 j.ps, .str j.key, .int .i64 j.ot, .int .i64 j.oe, .int .i64 j.a, .int .i64 j.b, .int .i64 nx, .nils, .int .i64 tc]] (.nils) [.cells [.sl [[.int .i64 1, .int .i64 e, .int .i64 n, .str [], .str []]], .int .i64 0, .int .i64 0, .int .i64 0, .int .i64 0, .int .i64 0, .int .i64 0, .int .i64 0, .str [], .int .i64 0, .int .i64 0, .int .i64 0, .int .i64 0, .int .i64 nx, .nils, .int .i64 0]] := by
  refine FnM.mk' base Tryd.func61 rfl rfl rfl rfl ?_
  repeat' ((conv => whnf); (first
   | (with_reducible first | refine AW.seq ?_ | refine AW.region base (by kernel_rfl) ?_ | refine AW.cond ?_ | refine AW.block ?_ | refine AW.ret ?_ | refine AW.exit ?_ | refine AW.skip ?_ | refine Br.t ?_ | refine Br.f ?_)
   | (with_reducible refine Br.mkT (fun hb => (by (first | (simp at hb; done) | omega | (simp only [decide_eq_true_eq, decide_eq_false_iff_not, Bool.not_eq_true', Bool.not_eq_false'] at hb; first | omega | fail) | fail))) (fun hb => ?_))
   | (with_reducible refine Br.mkF (fun hb => (by (first | (simp at hb; done) | omega | (simp only [decide_eq_true_eq, decide_eq_false_iff_not, Bool.not_eq_true', Bool.not_eq_false'] at hb; first | omega | fail) | fail))) (fun hb => ?_))
   | ((with_reducible refine Or.inl ?_); (conv => whnf); (with_reducible refine And.intro LitSl.mk ?_))
   | refine Br.t ?_
   | refine Br.f ?_
   | (with_reducible refine Br.mk (fun hb => ?_) (fun hb => ?_) <;> (try rw [hb]) <;> (try simp only [List.length_map, decide_eq_true_eq, decide_eq_false_iff_not, Bool.not_eq_true', Bool.not_eq_false', Int.ofNat_lt, Int.ofNat_le, Int.not_lt, Int.not_le, Int.toNat_natCast] at hb))
   | ((with_reducible first | refine Or.inl (And.intro ?_ ?_) | refine And.intro ?_ ?_); (focus (first | with_reducible rfl | exact trivial | (exact ⟨rfl, trivial⟩) | (exact ⟨rfl, rfl, trivial⟩) | omega | (intro r hr; simp only [List.mem_singleton] at hr; subst hr; rfl)  | ((simp only [in64, maxLen] at *; omega)) | (simp only [in64]; omega) | assumption | (simp; done) | (simp [V.cells]; done) | (simp [in64, maxLen, limK] at *; omega) | ((show confB _ _ = true); kernel_rfl) | rfl)))
   | (intro row hrow; (try simp only [Int.toNat_natCast, List.length_map, toNat_pred, toNat_succ', toNat_zero', toNat_one'] at hrow); (first | (have hsm := same_map (by assumption) hrow; subst hsm; clear hrow) | (obtain ⟨p, hp, rfl⟩ := of_map hrow; clear hrow)))))
  all_goals (conv => whnf)
  all_goals (refine ⟨[0], ?_⟩)
  all_goals (repeat' (first | (with_reducible rfl) | exact trivial | ((conv => whnf); (first | (with_reducible refine And.intro ?_ ?_) | exact trivial | (intro hb; first | (exfalso; simp_all; done) | skip)))))
  all_goals (first | rfl)

set_option maxRecDepth 100000 in
set_option maxHeartbeats 400000 in
theorem goes_8 (e n nx tc : Int) (j : JobV) (x2 : Int) (hx : 1 ≤ x2) (he : 0 ≤ j.ep ∧ j.ep ≤ 1000) : FnM Tryd.prog 37 [.ptr 0 0, .agg [.int .i64 8, .int .i64 j.fr, .int .i64 100, .int .i64 j.sh, .int .i64 j.ep, .int .i64 x2, .int .i64 0, .int .i64 0, .int .i64 0, .str [], .str [], .str [], .int .i64 0, .nils, .int .i64 0, .str [], .int .i64 0, .nils, .str [], .str [], .nils, .nils, .nils, .str []]] [.cells [.sl [[.int .i64 1, .int .i64 e, .int .i64 n, .str [], .str []]], .int .i64 1, .int .i64 j.sh, .int .i64 j.ep, .int .i64 j.fr, .int .i64 j.to, .int .i64 j.pc, .int .i64 j.ps, .str j.key, .int .i64 j.ot, .int .i64 j.oe, .int .i64 j.a, .int .i64 j.b, .int .i64 nx, .nils, .int .i64 tc]] (.sl [[.int .i64 9, .int .i64 100, .int .i64 j.fr, .int .i64 j.sh, .int .i64 j.ep, .int .i64 0, .int .i64 0, .int .i64 0, .int .i64 0, .str [], .str [], .str [], .int .i64 0, .nils, .int .i64 0, .str [], .int .i64 0, .nils, .str [], .str [], .nils, .nils, .nils, .str []]]) [.cells [.sl [[.int .i64 1, .int .i64 e, .int .i64 n, .str [], .str []]], .int .i64 2, .int .i64 j.sh, .int .i64 j.ep, .int .i64 j.fr, .int .i64 j.to, .int .i64 0, .int .i64 x2, .str j.key, .int .i64 j.ot, .int .i64 j.oe, .int .i64 j.a, .int .i64 j.b, .int .i64 nx, .nils, .int .i64 0]] := by
  refine FnM.mk' base Tryd.func37 rfl rfl rfl rfl ?_
  repeat' ((conv => whnf); (first
   | (with_reducible first | refine AW.seq ?_ | refine AW.region base (by kernel_rfl) ?_ | refine AW.cond ?_ | refine AW.block ?_ | refine AW.ret ?_ | refine AW.exit ?_ | refine AW.skip ?_ | refine Br.t ?_ | refine Br.f ?_)
   | (with_reducible refine Br.mkT (fun hb => (by (first | (simp at hb; done) | omega | (simp only [decide_eq_true_eq, decide_eq_false_iff_not, Bool.not_eq_true', Bool.not_eq_false'] at hb; first | omega | fail) | fail))) (fun hb => ?_))
   | (with_reducible refine Br.mkF (fun hb => (by (first | (simp at hb; done) | omega | (simp only [decide_eq_true_eq, decide_eq_false_iff_not, Bool.not_eq_true', Bool.not_eq_false'] at hb; first | omega | fail) | fail))) (fun hb => ?_))
   | ((with_reducible refine Or.inl ?_); (conv => whnf); (with_reducible refine And.intro LitSl.mk ?_))
   | refine Br.t ?_
   | refine Br.f ?_
   | (with_reducible refine Or.inr ⟨[?_], _, _, _, _, begins_2 e n nx tc ⟨1, j.sh, j.ep, j.fr, j.to, j.pc, x2, j.key, j.ot, j.oe, j.a, j.b⟩ 0 he, ?_⟩)
   | (with_reducible refine Or.inr (Or.inr ⟨[?_], _, _, _, _, begins_2 e n nx tc ⟨1, j.sh, j.ep, j.fr, j.to, j.pc, x2, j.key, j.ot, j.oe, j.a, j.b⟩ 0 he, ?_⟩))
   | (with_reducible refine Br.mk (fun hb => ?_) (fun hb => ?_) <;> (try rw [hb]) <;> (try simp only [List.length_map, decide_eq_true_eq, decide_eq_false_iff_not, Bool.not_eq_true', Bool.not_eq_false', Int.ofNat_lt, Int.ofNat_le, Int.not_lt, Int.not_le, Int.toNat_natCast] at hb))
   | ((with_reducible first | refine Or.inl (And.intro ?_ ?_) | refine And.intro ?_ ?_); (focus (first | with_reducible rfl | exact trivial | (exact ⟨rfl, trivial⟩) | (exact ⟨rfl, rfl, trivial⟩) | omega | (intro r hr; simp only [List.mem_singleton] at hr; subst hr; rfl)  | ((simp only [in64, maxLen] at *; omega)) | (simp only [in64]; omega) | assumption | (simp; done) | (simp [V.cells]; done) | (simp [in64, maxLen, limK] at *; omega) | ((show confB _ _ = true); kernel_rfl) | rfl)))
   | (intro row hrow; (try simp only [Int.toNat_natCast, List.length_map, toNat_pred, toNat_succ', toNat_zero', toNat_one'] at hrow); (first | (have hsm := same_map (by assumption) hrow; subst hsm; clear hrow) | (obtain ⟨p, hp, rfl⟩ := of_map hrow; clear hrow)))))
  all_goals (conv => whnf)
  all_goals (refine ⟨[0], ?_⟩)
  all_goals (repeat' (first | (with_reducible rfl) | exact trivial | ((conv => whnf); (first | (with_reducible refine And.intro ?_ ?_) | exact trivial | (intro hb; first | (exfalso; simp_all; done) | skip)))))
  all_goals (first | rfl)

set_option maxRecDepth 100000 in
set_option maxHeartbeats 400000 in
theorem goes_16 (e n nx tc : Int) (j : JobV) (x2 : Int) (he : 0 ≤ j.ep ∧ j.ep ≤ 1000) : FnM Tryd.prog 37 [.ptr 0 0, .agg [.int .i64 16, .int .i64 j.fr, .int .i64 100, .int .i64 1, .int .i64 j.ep, .int .i64 x2, .int .i64 0, .int .i64 0, .int .i64 0, .str [], .str [], .str [], .int .i64 0, .nils, .int .i64 0, .str [], .int .i64 0, .nils, .str [], .str [], .nils, .nils, .nils, .str []]] [.cells [.sl [[.int .i64 1, .int .i64 e, .int .i64 n, .str [], .str []]], .int .i64 6, .int .i64 1, .int .i64 j.ep, .int .i64 j.fr, .int .i64 j.to, .int .i64 j.pc, .int .i64 j.ps, .str j.key, .int .i64 j.ot, .int .i64 j.oe, .int .i64 j.a, .int .i64 j.b, .int .i64 nx, .nils, .int .i64 tc]] (.nils) [.cells [.sl [[.int .i64 1, .int .i64 (j.ep + 1), .int .i64 j.fr, .str [], .str []]], .int .i64 0, .int .i64 0, .int .i64 0, .int .i64 0, .int .i64 0, .int .i64 0, .int .i64 0, .str [], .int .i64 0, .int .i64 0, .int .i64 0, .int .i64 0, .int .i64 nx, .nils, .int .i64 0]] := by
  refine FnM.mk' base Tryd.func37 rfl rfl rfl rfl ?_
  repeat' ((conv => whnf); (first
   | (with_reducible first | refine AW.seq ?_ | refine AW.region base (by kernel_rfl) ?_ | refine AW.cond ?_ | refine AW.block ?_ | refine AW.ret ?_ | refine AW.exit ?_ | refine AW.skip ?_ | refine Br.t ?_ | refine Br.f ?_)
   | (with_reducible refine Br.mkT (fun hb => (by (first | (simp at hb; done) | omega | (simp only [decide_eq_true_eq, decide_eq_false_iff_not, Bool.not_eq_true', Bool.not_eq_false'] at hb; first | omega | fail) | fail))) (fun hb => ?_))
   | (with_reducible refine Br.mkF (fun hb => (by (first | (simp at hb; done) | omega | (simp only [decide_eq_true_eq, decide_eq_false_iff_not, Bool.not_eq_true', Bool.not_eq_false'] at hb; first | omega | fail) | fail))) (fun hb => ?_))
   | ((with_reducible refine Or.inl ?_); (conv => whnf); (with_reducible refine And.intro LitSl.mk ?_))
   | refine Br.t ?_
   | refine Br.f ?_
   | ((with_reducible refine Or.inl ?_); (conv => whnf); (first | (with_reducible first | refine ⟨_, planMove_fn e n (j.ep + 1) j.fr, ?_⟩)))
   | (with_reducible refine Or.inr ⟨[?_], _, _, _, _, ends_fn (j.ep + 1) j.fr nx tc ⟨6, 1, j.ep, j.fr, j.to, j.pc, j.ps, j.key, j.ot, j.oe, j.a, j.b⟩, ?_⟩)
   | (with_reducible refine Or.inr (Or.inr ⟨[?_], _, _, _, _, ends_fn (j.ep + 1) j.fr nx tc ⟨6, 1, j.ep, j.fr, j.to, j.pc, j.ps, j.key, j.ot, j.oe, j.a, j.b⟩, ?_⟩))
   | (with_reducible refine Br.mk (fun hb => ?_) (fun hb => ?_) <;> (try rw [hb]) <;> (try simp only [List.length_map, decide_eq_true_eq, decide_eq_false_iff_not, Bool.not_eq_true', Bool.not_eq_false', Int.ofNat_lt, Int.ofNat_le, Int.not_lt, Int.not_le, Int.toNat_natCast] at hb))
   | ((with_reducible first | refine Or.inl (And.intro ?_ ?_) | refine And.intro ?_ ?_); (focus (first | with_reducible rfl | exact trivial | (exact ⟨rfl, trivial⟩) | (exact ⟨rfl, rfl, trivial⟩) | omega | (intro r hr; simp only [List.mem_singleton] at hr; subst hr; rfl)  | ((simp only [in64, maxLen] at *; omega)) | (simp only [in64]; omega) | assumption | (simp; done) | (simp [V.cells]; done) | (simp [in64, maxLen, limK] at *; omega) | ((show confB _ _ = true); kernel_rfl) | rfl)))
   | (intro row hrow; (try simp only [Int.toNat_natCast, List.length_map, toNat_pred, toNat_succ', toNat_zero', toNat_one'] at hrow); (first | (have hsm := same_map (by assumption) hrow; subst hsm; clear hrow) | (obtain ⟨p, hp, rfl⟩ := of_map hrow; clear hrow)))))
  all_goals (conv => whnf)
  all_goals (refine ⟨[0], ?_⟩)
  all_goals (repeat' (first | (with_reducible rfl) | exact trivial | ((conv => whnf); (first | (with_reducible refine And.intro ?_ ?_) | exact trivial | (intro hb; first | (exfalso; simp_all; done) | skip)))))
  all_goals (first | rfl)

set_option maxRecDepth 100000 in
set_option maxHeartbeats 400000 in
theorem take_8 (e n nx tc : Int) (j : JobV) (x2 : Int) (hx : 1 ≤ x2) (he : 0 ≤ j.ep ∧ j.ep ≤ 1000) : FnM Tryd.prog 14 [.ptr 0 0, .agg [.int .i64 8, .int .i64 j.fr, .int .i64 100, .int .i64 j.sh, .int .i64 j.ep, .int .i64 x2, .int .i64 0, .int .i64 0, .int .i64 0, .str [], .str [], .str [], .int .i64 0, .nils, .int .i64 0, .str [], .int .i64 0, .nils, .str [], .str [], .nils, .nils, .nils, .str []]] [.cells [.sl [[.int .i64 1, .int .i64 e, .int .i64 n, .str [], .str []]], .int .i64 1, .int .i64 j.sh, .int .i64 j.ep, .int .i64 j.fr, .int .i64 j.to, .int .i64 j.pc, .int .i64 j.ps, .str j.key, .int .i64 j.ot, .int .i64 j.oe, .int .i64 j.a, .int .i64 j.b, .int .i64 nx, .nils, .int .i64 tc]] (.sl [[.int .i64 9, .int .i64 100, .int .i64 j.fr, .int .i64 j.sh, .int .i64 j.ep, .int .i64 0, .int .i64 0, .int .i64 0, .int .i64 0, .str [], .str [], .str [], .int .i64 0, .nils, .int .i64 0, .str [], .int .i64 0, .nils, .str [], .str [], .nils, .nils, .nils, .str []]]) [.cells [.sl [[.int .i64 1, .int .i64 e, .int .i64 n, .str [], .str []]], .int .i64 2, .int .i64 j.sh, .int .i64 j.ep, .int .i64 j.fr, .int .i64 j.to, .int .i64 0, .int .i64 x2, .str j.key, .int .i64 j.ot, .int .i64 j.oe, .int .i64 j.a, .int .i64 j.b, .int .i64 nx, .nils, .int .i64 0]] := by
  refine FnM.mk' base Tryd.func14 rfl rfl rfl rfl ?_
  repeat' ((conv => whnf); (first
   | (with_reducible first | refine AW.seq ?_ | refine AW.region base (by kernel_rfl) ?_ | refine AW.cond ?_ | refine AW.block ?_ | refine AW.ret ?_ | refine AW.exit ?_ | refine AW.skip ?_ | refine Br.t ?_ | refine Br.f ?_)
   | (with_reducible refine Br.mkT (fun hb => (by (first | (simp at hb; done) | omega | (simp only [decide_eq_true_eq, decide_eq_false_iff_not, Bool.not_eq_true', Bool.not_eq_false'] at hb; first | omega | fail) | fail))) (fun hb => ?_))
   | (with_reducible refine Br.mkF (fun hb => (by (first | (simp at hb; done) | omega | (simp only [decide_eq_true_eq, decide_eq_false_iff_not, Bool.not_eq_true', Bool.not_eq_false'] at hb; first | omega | fail) | fail))) (fun hb => ?_))
   | ((with_reducible refine Or.inl ?_); (conv => whnf); (with_reducible refine And.intro LitSl.mk ?_))
   | refine Br.t ?_
   | refine Br.f ?_
   | (with_reducible refine Or.inr ⟨[?_], _, _, _, _, fits_1 e n nx tc j x2 he, ?_⟩)
   | (with_reducible refine Or.inr (Or.inr ⟨[?_], _, _, _, _, fits_1 e n nx tc j x2 he, ?_⟩))
   | (with_reducible refine Or.inr ⟨[?_], _, _, _, _, goes_8 e n nx tc j x2 hx he, ?_⟩)
   | (with_reducible refine Or.inr (Or.inr ⟨[?_], _, _, _, _, goes_8 e n nx tc j x2 hx he, ?_⟩))
   | (with_reducible refine Br.mk (fun hb => ?_) (fun hb => ?_) <;> (try rw [hb]) <;> (try simp only [List.length_map, decide_eq_true_eq, decide_eq_false_iff_not, Bool.not_eq_true', Bool.not_eq_false', Int.ofNat_lt, Int.ofNat_le, Int.not_lt, Int.not_le, Int.toNat_natCast] at hb))
   | ((with_reducible first | refine Or.inl (And.intro ?_ ?_) | refine And.intro ?_ ?_); (focus (first | with_reducible rfl | exact trivial | (exact ⟨rfl, trivial⟩) | (exact ⟨rfl, rfl, trivial⟩) | omega | (intro r hr; simp only [List.mem_singleton] at hr; subst hr; rfl)  | ((simp only [in64, maxLen] at *; omega)) | (simp only [in64]; omega) | assumption | (simp; done) | (simp [V.cells]; done) | (simp [in64, maxLen, limK] at *; omega) | ((show confB _ _ = true); kernel_rfl) | rfl)))
   | (intro row hrow; (try simp only [Int.toNat_natCast, List.length_map, toNat_pred, toNat_succ', toNat_zero', toNat_one'] at hrow); (first | (have hsm := same_map (by assumption) hrow; subst hsm; clear hrow) | (obtain ⟨p, hp, rfl⟩ := of_map hrow; clear hrow)))))
  all_goals (conv => whnf)
  all_goals (refine ⟨[0], ?_⟩)
  all_goals (repeat' (first | (with_reducible rfl) | exact trivial | ((conv => whnf); (first | (with_reducible refine And.intro ?_ ?_) | exact trivial | (intro hb; first | (exfalso; simp_all; done) | skip)))))
  all_goals (first | rfl)

set_option maxRecDepth 100000 in
set_option maxHeartbeats 400000 in
theorem take_16 (e n nx tc : Int) (j : JobV) (x2 : Int) (he : 0 ≤ j.ep ∧ j.ep ≤ 1000) : FnM Tryd.prog 14 [.ptr 0 0, .agg [.int .i64 16, .int .i64 j.fr, .int .i64 100, .int .i64 1, .int .i64 j.ep, .int .i64 x2, .int .i64 0, .int .i64 0, .int .i64 0, .str [], .str [], .str [], .int .i64 0, .nils, .int .i64 0, .str [], .int .i64 0, .nils, .str [], .str [], .nils, .nils, .nils, .str []]] [.cells [.sl [[.int .i64 1, .int .i64 e, .int .i64 n, .str [], .str []]], .int .i64 6, .int .i64 1, .int .i64 j.ep, .int .i64 j.fr, .int .i64 j.to, .int .i64 j.pc, .int .i64 j.ps, .str j.key, .int .i64 j.ot, .int .i64 j.oe, .int .i64 j.a, .int .i64 j.b, .int .i64 nx, .nils, .int .i64 tc]] (.nils) [.cells [.sl [[.int .i64 1, .int .i64 (j.ep + 1), .int .i64 j.fr, .str [], .str []]], .int .i64 0, .int .i64 0, .int .i64 0, .int .i64 0, .int .i64 0, .int .i64 0, .int .i64 0, .str [], .int .i64 0, .int .i64 0, .int .i64 0, .int .i64 0, .int .i64 nx, .nils, .int .i64 0]] := by
  refine FnM.mk' base Tryd.func14 rfl rfl rfl rfl ?_
  repeat' ((conv => whnf); (first
   | (with_reducible first | refine AW.seq ?_ | refine AW.region base (by kernel_rfl) ?_ | refine AW.cond ?_ | refine AW.block ?_ | refine AW.ret ?_ | refine AW.exit ?_ | refine AW.skip ?_ | refine Br.t ?_ | refine Br.f ?_)
   | (with_reducible refine Br.mkT (fun hb => (by (first | (simp at hb; done) | omega | (simp only [decide_eq_true_eq, decide_eq_false_iff_not, Bool.not_eq_true', Bool.not_eq_false'] at hb; first | omega | fail) | fail))) (fun hb => ?_))
   | (with_reducible refine Br.mkF (fun hb => (by (first | (simp at hb; done) | omega | (simp only [decide_eq_true_eq, decide_eq_false_iff_not, Bool.not_eq_true', Bool.not_eq_false'] at hb; first | omega | fail) | fail))) (fun hb => ?_))
   | ((with_reducible refine Or.inl ?_); (conv => whnf); (with_reducible refine And.intro LitSl.mk ?_))
   | refine Br.t ?_
   | refine Br.f ?_
   | (with_reducible refine Or.inr ⟨[?_], _, _, _, _, fits_6 e n nx tc ⟨6, 1, j.ep, j.fr, j.to, j.pc, j.ps, j.key, j.ot, j.oe, j.a, j.b⟩ x2 he, ?_⟩)
   | (with_reducible refine Or.inr (Or.inr ⟨[?_], _, _, _, _, fits_6 e n nx tc ⟨6, 1, j.ep, j.fr, j.to, j.pc, j.ps, j.key, j.ot, j.oe, j.a, j.b⟩ x2 he, ?_⟩))
   | (with_reducible refine Or.inr ⟨[?_], _, _, _, _, goes_16 e n nx tc j x2 he, ?_⟩)
   | (with_reducible refine Or.inr (Or.inr ⟨[?_], _, _, _, _, goes_16 e n nx tc j x2 he, ?_⟩))
   | (with_reducible refine Br.mk (fun hb => ?_) (fun hb => ?_) <;> (try rw [hb]) <;> (try simp only [List.length_map, decide_eq_true_eq, decide_eq_false_iff_not, Bool.not_eq_true', Bool.not_eq_false', Int.ofNat_lt, Int.ofNat_le, Int.not_lt, Int.not_le, Int.toNat_natCast] at hb))
   | ((with_reducible first | refine Or.inl (And.intro ?_ ?_) | refine And.intro ?_ ?_); (focus (first | with_reducible rfl | exact trivial | (exact ⟨rfl, trivial⟩) | (exact ⟨rfl, rfl, trivial⟩) | omega | (intro r hr; simp only [List.mem_singleton] at hr; subst hr; rfl)  | ((simp only [in64, maxLen] at *; omega)) | (simp only [in64]; omega) | assumption | (simp; done) | (simp [V.cells]; done) | (simp [in64, maxLen, limK] at *; omega) | ((show confB _ _ = true); kernel_rfl) | rfl)))
   | (intro row hrow; (try simp only [Int.toNat_natCast, List.length_map, toNat_pred, toNat_succ', toNat_zero', toNat_one'] at hrow); (first | (have hsm := same_map (by assumption) hrow; subst hsm; clear hrow) | (obtain ⟨p, hp, rfl⟩ := of_map hrow; clear hrow)))))
  all_goals (conv => whnf)
  all_goals (refine ⟨[0], ?_⟩)
  all_goals (repeat' (first | (with_reducible rfl) | exact trivial | ((conv => whnf); (first | (with_reducible refine And.intro ?_ ?_) | exact trivial | (intro hb; first | (exfalso; simp_all; done) | skip)))))
  all_goals (first | rfl)
end Go.Proofs.YtgjbhkbjdihddaaDoor
