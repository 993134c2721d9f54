/-
  Laws of the mover: what is refused. No conditions.
-/
import Derived.Test.YtgjbhkbjdihddaaDoorLaw21k
namespace Go.Proofs.YtgjbhkbjdihddaaDoor
open Go.RowKit
set_option linter.unusedSimpArgs false
set_option linter.unusedVariables false
theorem r_joinY (k : Bs) (hk : isKeyB k = true) : FnM Tryd.prog 26 [.ptr 0 0, .str k] [.cells [.sl [[.int .i64 1, .int .i64 1, .int .i64 0, .str [], .str []]], .int .i64 0, .int .i64 0, .int .i64 0, .int .i64 0, .int .i64 0, .int .i64 0, .int .i64 0, .str [], .int .i64 0, .int .i64 0, .int .i64 0, .int .i64 0, .int .i64 2, .nils, .int .i64 0]] (.tup [.nils, errV [] 14]) [.cells [.sl [[.int .i64 1, .int .i64 1, .int .i64 0, .str [], .str []]], .int .i64 0, .int .i64 0, .int .i64 0, .int .i64 0, .int .i64 0, .int .i64 0, .int .i64 0, .str [], .int .i64 0, .int .i64 0, .int .i64 0, .int .i64 0, .int .i64 2, .nils, .int .i64 0]] := join_yes 1 0 2 0 ⟨0, 0, 0, 0, 0, 0, 0, [], 0, 0, 0, 0⟩ k hk
theorem r_joinN (k : Bs) (hk : isKeyB k = false) : FnM Tryd.prog 26 [.ptr 0 0, .str k] [.cells [.sl [[.int .i64 1, .int .i64 1, .int .i64 0, .str [], .str []]], .int .i64 0, .int .i64 0, .int .i64 0, .int .i64 0, .int .i64 0, .int .i64 0, .int .i64 0, .str [], .int .i64 0, .int .i64 0, .int .i64 0, .int .i64 0, .int .i64 2, .nils, .int .i64 0]] (.tup [.nils, errV [] 14]) [.cells [.sl [[.int .i64 1, .int .i64 1, .int .i64 0, .str [], .str []]], .int .i64 0, .int .i64 0, .int .i64 0, .int .i64 0, .int .i64 0, .int .i64 0, .int .i64 0, .str [], .int .i64 0, .int .i64 0, .int .i64 0, .int .i64 0, .int .i64 2, .nils, .int .i64 0]] := join_no 1 0 2 0 ⟨0, 0, 0, 0, 0, 0, 0, [], 0, 0, 0, 0⟩ k hk
theorem r_place (k : Bs) (d : Int) (hk : isKeyB k = true) (h : d < 0 ∨ 3 ≤ d) : FnM Tryd.prog 11 [.ptr 0 0, .str k, .int .i64 d] [.cells [.sl [[.int .i64 1, .int .i64 1, .int .i64 0, .str [], .str []]], .int .i64 0, .int .i64 0, .int .i64 0, .int .i64 0, .int .i64 0, .int .i64 0, .int .i64 0, .str [], .int .i64 0, .int .i64 0, .int .i64 0, .int .i64 0, .int .i64 2, .nils, .int .i64 0]] (.tup [.nils, errV [] 23]) [.cells [.sl [[.int .i64 1, .int .i64 1, .int .i64 0, .str [], .str []]], .int .i64 0, .int .i64 0, .int .i64 0, .int .i64 0, .int .i64 0, .int .i64 0, .int .i64 0, .str [], .int .i64 0, .int .i64 0, .int .i64 0, .int .i64 0, .int .i64 2, .nils, .int .i64 0]] := move_place 1 0 2 0 ⟨0, 0, 0, 0, 0, 0, 0, [], 0, 0, 0, 0⟩ k hk d h
theorem r_place2 (k : Bs) (d : Int) (hk : isKeyB k = false) (h : d < 0 ∨ 3 ≤ d) : FnM Tryd.prog 11 [.ptr 0 0, .str k, .int .i64 d] [.cells [.sl [[.int .i64 1, .int .i64 1, .int .i64 0, .str [], .str []]], .int .i64 0, .int .i64 0, .int .i64 0, .int .i64 0, .int .i64 0, .int .i64 0, .int .i64 0, .str [], .int .i64 0, .int .i64 0, .int .i64 0, .int .i64 0, .int .i64 2, .nils, .int .i64 0]] (.tup [.nils, errV [] 23]) [.cells [.sl [[.int .i64 1, .int .i64 1, .int .i64 0, .str [], .str []]], .int .i64 0, .int .i64 0, .int .i64 0, .int .i64 0, .int .i64 0, .int .i64 0, .int .i64 0, .str [], .int .i64 0, .int .i64 0, .int .i64 0, .int .i64 0, .int .i64 2, .nils, .int .i64 0]] := move_place2 1 0 2 0 ⟨0, 0, 0, 0, 0, 0, 0, [], 0, 0, 0, 0⟩ k hk d h
theorem r_none (k : Bs) (d : Int) (hk : isKeyB k = false) (h : 0 ≤ d ∧ d < 3) : FnM Tryd.prog 11 [.ptr 0 0, .str k, .int .i64 d] [.cells [.sl [[.int .i64 1, .int .i64 1, .int .i64 0, .str [], .str []]], .int .i64 0, .int .i64 0, .int .i64 0, .int .i64 0, .int .i64 0, .int .i64 0, .int .i64 0, .str [], .int .i64 0, .int .i64 0, .int .i64 0, .int .i64 0, .int .i64 2, .nils, .int .i64 0]] (.tup [.nils, errV [] 14]) [.cells [.sl [[.int .i64 1, .int .i64 1, .int .i64 0, .str [], .str []]], .int .i64 0, .int .i64 0, .int .i64 0, .int .i64 0, .int .i64 0, .int .i64 0, .int .i64 0, .str [], .int .i64 0, .int .i64 0, .int .i64 0, .int .i64 0, .int .i64 2, .nils, .int .i64 0]] := move_none 1 0 2 0 ⟨0, 0, 0, 0, 0, 0, 0, [], 0, 0, 0, 0⟩ k hk d h
theorem r_same (k : Bs) (hk : isKeyB k = true) : FnM Tryd.prog 11 [.ptr 0 0, .str k, .int .i64 0] [.cells [.sl [[.int .i64 1, .int .i64 1, .int .i64 0, .str [], .str []]], .int .i64 0, .int .i64 0, .int .i64 0, .int .i64 0, .int .i64 0, .int .i64 0, .int .i64 0, .str [], .int .i64 0, .int .i64 0, .int .i64 0, .int .i64 0, .int .i64 2, .nils, .int .i64 0]] (.tup [.nils, errV [] 14]) [.cells [.sl [[.int .i64 1, .int .i64 1, .int .i64 0, .str [], .str []]], .int .i64 0, .int .i64 0, .int .i64 0, .int .i64 0, .int .i64 0, .int .i64 0, .int .i64 0, .str [], .int .i64 0, .int .i64 0, .int .i64 0, .int .i64 0, .int .i64 2, .nils, .int .i64 0]] := move_same 1 0 2 0 ⟨0, 0, 0, 0, 0, 0, 0, [], 0, 0, 0, 0⟩ k hk 0 (by omega) rfl
theorem r_move (k : Bs) (d : Int) (hk : isKeyB k = true) (h : 0 < d ∧ d < 3) : FnM Tryd.prog 11 [.ptr 0 0, .str k, .int .i64 d] [.cells [.sl [[.int .i64 1, .int .i64 1, .int .i64 0, .str [], .str []]], .int .i64 0, .int .i64 0, .int .i64 0, .int .i64 0, .int .i64 0, .int .i64 0, .int .i64 0, .str [], .int .i64 0, .int .i64 0, .int .i64 0, .int .i64 0, .int .i64 2, .nils, .int .i64 0]] (.tup [.sl [[.int .i64 7, .int .i64 100, .int .i64 0, .int .i64 1, .int .i64 1, .int .i64 0, .int .i64 0, .int .i64 0, .int .i64 0, .str [], .str [], .str [], .int .i64 0, .nils, .int .i64 0, .str [], .int .i64 0, .nils, .str [], .str [], .nils, .nils, .nils, .str []]], noErr]) [.cells [.sl [[.int .i64 1, .int .i64 1, .int .i64 0, .str [], .str []]], .int .i64 1, .int .i64 1, .int .i64 1, .int .i64 0, .int .i64 d, .int .i64 0, .int .i64 0, .str [], .int .i64 0, .int .i64 0, .int .i64 0, .int .i64 0, .int .i64 2, .nils, .int .i64 0]] := moveTo_ok 1 0 2 0 ⟨0, 0, 0, 0, 0, 0, 0, [], 0, 0, 0, 0⟩ k hk d (by omega) (by omega) (by omega)
theorem r_busy (k : Bs) (d : Int) : FnM Tryd.prog 19 [.ptr 0 0, .str k] [.cells [.sl [[.int .i64 1, .int .i64 1, .int .i64 0, .str [], .str []]], .int .i64 1, .int .i64 1, .int .i64 1, .int .i64 0, .int .i64 d, .int .i64 0, .int .i64 0, .str [], .int .i64 0, .int .i64 0, .int .i64 0, .int .i64 0, .int .i64 2, .nils, .int .i64 0]] (.tup [.nils, errV [] 20]) [.cells [.sl [[.int .i64 1, .int .i64 1, .int .i64 0, .str [], .str []]], .int .i64 1, .int .i64 1, .int .i64 1, .int .i64 0, .int .i64 d, .int .i64 0, .int .i64 0, .str [], .int .i64 0, .int .i64 0, .int .i64 0, .int .i64 0, .int .i64 2, .nils, .int .i64 0]] := split_busy 1 0 2 0 ⟨1, 1, 1, 0, d, 0, 0, [], 0, 0, 0, 0⟩ k (show ¬ (1 : Int) = 0 by decide)
theorem r_splitN (k : Bs) (hk : isKeyB k = false) : FnM Tryd.prog 19 [.ptr 0 0, .str k] [.cells [.sl [[.int .i64 1, .int .i64 1, .int .i64 0, .str [], .str []]], .int .i64 0, .int .i64 0, .int .i64 0, .int .i64 0, .int .i64 0, .int .i64 0, .int .i64 0, .str [], .int .i64 0, .int .i64 0, .int .i64 0, .int .i64 0, .int .i64 2, .nils, .int .i64 0]] (.tup [.nils, errV [] 14]) [.cells [.sl [[.int .i64 1, .int .i64 1, .int .i64 0, .str [], .str []]], .int .i64 0, .int .i64 0, .int .i64 0, .int .i64 0, .int .i64 0, .int .i64 0, .int .i64 0, .str [], .int .i64 0, .int .i64 0, .int .i64 0, .int .i64 0, .int .i64 2, .nils, .int .i64 0]] := split_none 1 0 2 0 ⟨0, 0, 0, 0, 0, 0, 0, [], 0, 0, 0, 0⟩ k hk
theorem r_split (k : Bs) (hk : isKeyB k = true) (hne : ¬ k = []) : FnM Tryd.prog 19 [.ptr 0 0, .str k] [.cells [.sl [[.int .i64 1, .int .i64 1, .int .i64 0, .str [], .str []]], .int .i64 0, .int .i64 0, .int .i64 0, .int .i64 0, .int .i64 0, .int .i64 0, .int .i64 0, .str [], .int .i64 0, .int .i64 0, .int .i64 0, .int .i64 0, .int .i64 2, .nils, .int .i64 0]] (.tup [.sl [[.int .i64 19, .int .i64 100, .int .i64 0, .int .i64 1, .int .i64 1, .int .i64 2, .int .i64 3, .int .i64 0, .int .i64 0, .str [], .str [], .str [], .int .i64 0, .nils, .int .i64 0, .str [], .int .i64 0, .nils, .str k, .str [], .nils, .nils, .nils, .str []]], noErr]) [.cells [.sl [[.int .i64 1, .int .i64 1, .int .i64 0, .str [], .str []]], .int .i64 7, .int .i64 1, .int .i64 1, .int .i64 0, .int .i64 0, .int .i64 0, .int .i64 0, .str k, .int .i64 0, .int .i64 0, .int .i64 2, .int .i64 3, .int .i64 4, .nils, .int .i64 0]] := split_ok 1 0 2 0 ⟨0, 0, 0, 0, 0, 0, 0, [], 0, 0, 0, 0⟩ k hk hne (by omega)

set_option maxRecDepth 100000 in
set_option maxHeartbeats 1000000 in
theorem refuses_good (k : Bs) (d : Int) (hk : isKeyB k = true) (hne : ¬ k = []) (hl : 1 ≤ k.length ∧ k.length ≤ 8) (h : 0 < d ∧ d < 3)  : Fn Tryd.prog 7 [.str k, .int .i64 d] (.bool true) := by
  refine Fn.mk' base Tryd.func7 rfl rfl rfl ?_
  repeat' ((conv => whnf); (first
   | (with_reducible first | refine AW.seq ?_ | refine AW.region base (by kernel_rfl) ?_ | refine AW.cond ?_ | refine AW.block ?_ | refine AW.ret ?_ | refine AW.exit ?_ | refine AW.skip ?_ | refine Br.t ?_ | refine Br.f ?_)
   | (with_reducible refine Br.mkT (fun hb => (by (first | (simp at hb; done) | omega | (simp only [decide_eq_true_eq, decide_eq_false_iff_not, Bool.not_eq_true', Bool.not_eq_false'] at hb; first | omega | fail) | fail))) (fun hb => ?_))
   | (with_reducible refine Br.mkF (fun hb => (by (first | (simp at hb; done) | omega | (simp only [decide_eq_true_eq, decide_eq_false_iff_not, Bool.not_eq_true', Bool.not_eq_false'] at hb; first | omega | fail) | fail))) (fun hb => ?_))
   | ((with_reducible refine Or.inl ?_); (conv => whnf); (with_reducible refine And.intro LitSl.mk ?_))
   | refine Br.t ?_
   | refine Br.f ?_
   | (intro row hrow; have e0 := Option.some.inj (show some _ = some row from hrow); subst e0)
   | ((with_reducible refine Or.inl ?_); (conv => whnf); (first | (with_reducible first | refine ⟨_, known21_fn, ?_⟩ | refine ⟨_, code_ok, ?_⟩) | refine ⟨_, fis_fn [] 14 _, ?_⟩ | refine ⟨_, fis_fn [] 20 _, ?_⟩ | refine ⟨_, code_fn [] 14, ?_⟩ | refine ⟨_, code_fn [] 23, ?_⟩))
   | (with_reducible refine Or.inr ⟨[], _, _, _, _, moverNew_fn, ?_⟩)
   | (with_reducible refine Or.inr (Or.inr ⟨[], _, _, _, _, moverNew_fn, ?_⟩))
   | (with_reducible refine Or.inr ⟨[?_], _, _, _, _, r_joinY k hk, ?_⟩)
   | (with_reducible refine Or.inr (Or.inr ⟨[?_], _, _, _, _, r_joinY k hk, ?_⟩))
   | (with_reducible refine Or.inr ⟨[?_], _, _, _, _, r_move k d hk h, ?_⟩)
   | (with_reducible refine Or.inr (Or.inr ⟨[?_], _, _, _, _, r_move k d hk h, ?_⟩))
   | (with_reducible refine Or.inr ⟨[?_], _, _, _, _, r_busy k d, ?_⟩)
   | (with_reducible refine Or.inr (Or.inr ⟨[?_], _, _, _, _, r_busy k d, ?_⟩))
   | (with_reducible refine Br.mk (fun hb => ?_) (fun hb => ?_) <;> (try rw [hb]) <;> (try simp only [List.length_map, decide_eq_true_eq, decide_eq_false_iff_not, Bool.not_eq_true', Bool.not_eq_false', Int.ofNat_lt, Int.ofNat_le, Int.not_lt, Int.not_le, Int.toNat_natCast] at hb))
   | ((with_reducible first | refine Or.inl (And.intro ?_ ?_) | refine And.intro ?_ ?_); (focus (first | with_reducible rfl | exact trivial | (exact ⟨rfl, trivial⟩) | (exact ⟨rfl, rfl, trivial⟩) | omega | (intro r hr; simp only [List.mem_singleton] at hr; subst hr; rfl)  | ((simp only [in64, maxLen] at *; omega)) | (simp only [in64]; omega) | assumption | (simp; done) | (simp [V.cells]; done) | (simp [in64, maxLen, limK] at *; omega) | ((show confB _ _ = true); kernel_rfl) | rfl)))
   | (intro row hrow; (try simp only [Int.toNat_natCast, List.length_map, toNat_pred, toNat_succ', toNat_zero', toNat_one'] at hrow); (first | (have hsm := same_map (by assumption) hrow; subst hsm; clear hrow) | (obtain ⟨p, hp, rfl⟩ := of_map hrow; clear hrow)))))
  all_goals (conv => whnf)
  all_goals (first | rfl | (simp only [V.bool.injEq, V.tup.injEq, V.agg.injEq, V.str.injEq, V.int.injEq, V.sl.injEq, V.ifc.injEq, List.cons.injEq, and_true, true_and, and_self]; done) | (simp only [V.bool.injEq, V.tup.injEq, V.agg.injEq, V.str.injEq, V.int.injEq, V.sl.injEq, V.ifc.injEq, List.cons.injEq, and_true, true_and, and_self]; grind) | (simp  at *; done) | (simp  at *; grind))

set_option maxRecDepth 100000 in
set_option maxHeartbeats 1000000 in
theorem refuses_same (k : Bs) (hk : isKeyB k = true) (hne : ¬ k = []) (hl : 1 ≤ k.length ∧ k.length ≤ 8)  : Fn Tryd.prog 7 [.str k, .int .i64 0] (.bool true) := by
  refine Fn.mk' base Tryd.func7 rfl rfl rfl ?_
  repeat' ((conv => whnf); (first
   | (with_reducible first | refine AW.seq ?_ | refine AW.region base (by kernel_rfl) ?_ | refine AW.cond ?_ | refine AW.block ?_ | refine AW.ret ?_ | refine AW.exit ?_ | refine AW.skip ?_ | refine Br.t ?_ | refine Br.f ?_)
   | (with_reducible refine Br.mkT (fun hb => (by (first | (simp at hb; done) | omega | (simp only [decide_eq_true_eq, decide_eq_false_iff_not, Bool.not_eq_true', Bool.not_eq_false'] at hb; first | omega | fail) | fail))) (fun hb => ?_))
   | (with_reducible refine Br.mkF (fun hb => (by (first | (simp at hb; done) | omega | (simp only [decide_eq_true_eq, decide_eq_false_iff_not, Bool.not_eq_true', Bool.not_eq_false'] at hb; first | omega | fail) | fail))) (fun hb => ?_))
   | ((with_reducible refine Or.inl ?_); (conv => whnf); (with_reducible refine And.intro LitSl.mk ?_))
   | refine Br.t ?_
   | refine Br.f ?_
   | (intro row hrow; have e0 := Option.some.inj (show some _ = some row from hrow); subst e0)
   | ((with_reducible refine Or.inl ?_); (conv => whnf); (first | (with_reducible first | refine ⟨_, known21_fn, ?_⟩ | refine ⟨_, code_ok, ?_⟩) | refine ⟨_, fis_fn [] 14 _, ?_⟩ | refine ⟨_, fis_fn [] 20 _, ?_⟩ | refine ⟨_, code_fn [] 14, ?_⟩ | refine ⟨_, code_fn [] 23, ?_⟩))
   | (with_reducible refine Or.inr ⟨[], _, _, _, _, moverNew_fn, ?_⟩)
   | (with_reducible refine Or.inr (Or.inr ⟨[], _, _, _, _, moverNew_fn, ?_⟩))
   | (with_reducible refine Or.inr ⟨[?_], _, _, _, _, r_joinY k hk, ?_⟩)
   | (with_reducible refine Or.inr (Or.inr ⟨[?_], _, _, _, _, r_joinY k hk, ?_⟩))
   | (with_reducible refine Or.inr ⟨[?_], _, _, _, _, r_same k hk, ?_⟩)
   | (with_reducible refine Or.inr (Or.inr ⟨[?_], _, _, _, _, r_same k hk, ?_⟩))
   | (with_reducible refine Or.inr ⟨[?_], _, _, _, _, r_split k hk hne, ?_⟩)
   | (with_reducible refine Or.inr (Or.inr ⟨[?_], _, _, _, _, r_split k hk hne, ?_⟩))
   | (with_reducible refine Br.mk (fun hb => ?_) (fun hb => ?_) <;> (try rw [hb]) <;> (try simp only [List.length_map, decide_eq_true_eq, decide_eq_false_iff_not, Bool.not_eq_true', Bool.not_eq_false', Int.ofNat_lt, Int.ofNat_le, Int.not_lt, Int.not_le, Int.toNat_natCast] at hb))
   | ((with_reducible first | refine Or.inl (And.intro ?_ ?_) | refine And.intro ?_ ?_); (focus (first | with_reducible rfl | exact trivial | (exact ⟨rfl, trivial⟩) | (exact ⟨rfl, rfl, trivial⟩) | omega | (intro r hr; simp only [List.mem_singleton] at hr; subst hr; rfl)  | ((simp only [in64, maxLen] at *; omega)) | (simp only [in64]; omega) | assumption | (simp; done) | (simp [V.cells]; done) | (simp [in64, maxLen, limK] at *; omega) | ((show confB _ _ = true); kernel_rfl) | rfl)))
   | (intro row hrow; (try simp only [Int.toNat_natCast, List.length_map, toNat_pred, toNat_succ', toNat_zero', toNat_one'] at hrow); (first | (have hsm := same_map (by assumption) hrow; subst hsm; clear hrow) | (obtain ⟨p, hp, rfl⟩ := of_map hrow; clear hrow)))))
  all_goals (conv => whnf)
  all_goals (first | rfl | (simp only [V.bool.injEq, V.tup.injEq, V.agg.injEq, V.str.injEq, V.int.injEq, V.sl.injEq, V.ifc.injEq, List.cons.injEq, and_true, true_and, and_self]; done) | (simp only [V.bool.injEq, V.tup.injEq, V.agg.injEq, V.str.injEq, V.int.injEq, V.sl.injEq, V.ifc.injEq, List.cons.injEq, and_true, true_and, and_self]; grind) | (simp  at *; done) | (simp  at *; grind))

set_option maxRecDepth 100000 in
set_option maxHeartbeats 1000000 in
theorem refuses_place (k : Bs) (d : Int) (hk : isKeyB k = true) (hne : ¬ k = []) (hl : 1 ≤ k.length ∧ k.length ≤ 8) (h : d < 0 ∨ 3 ≤ d)  : Fn Tryd.prog 7 [.str k, .int .i64 d] (.bool true) := by
  refine Fn.mk' base Tryd.func7 rfl rfl rfl ?_
  repeat' ((conv => whnf); (first
   | (with_reducible first | refine AW.seq ?_ | refine AW.region base (by kernel_rfl) ?_ | refine AW.cond ?_ | refine AW.block ?_ | refine AW.ret ?_ | refine AW.exit ?_ | refine AW.skip ?_ | refine Br.t ?_ | refine Br.f ?_)
   | (with_reducible refine Br.mkT (fun hb => (by (first | (simp at hb; done) | omega | (simp only [decide_eq_true_eq, decide_eq_false_iff_not, Bool.not_eq_true', Bool.not_eq_false'] at hb; first | omega | fail) | fail))) (fun hb => ?_))
   | (with_reducible refine Br.mkF (fun hb => (by (first | (simp at hb; done) | omega | (simp only [decide_eq_true_eq, decide_eq_false_iff_not, Bool.not_eq_true', Bool.not_eq_false'] at hb; first | omega | fail) | fail))) (fun hb => ?_))
   | ((with_reducible refine Or.inl ?_); (conv => whnf); (with_reducible refine And.intro LitSl.mk ?_))
   | refine Br.t ?_
   | refine Br.f ?_
   | (intro row hrow; have e0 := Option.some.inj (show some _ = some row from hrow); subst e0)
   | ((with_reducible refine Or.inl ?_); (conv => whnf); (first | (with_reducible first | refine ⟨_, known21_fn, ?_⟩ | refine ⟨_, code_ok, ?_⟩) | refine ⟨_, fis_fn [] 14 _, ?_⟩ | refine ⟨_, fis_fn [] 20 _, ?_⟩ | refine ⟨_, code_fn [] 14, ?_⟩ | refine ⟨_, code_fn [] 23, ?_⟩))
   | (with_reducible refine Or.inr ⟨[], _, _, _, _, moverNew_fn, ?_⟩)
   | (with_reducible refine Or.inr (Or.inr ⟨[], _, _, _, _, moverNew_fn, ?_⟩))
   | (with_reducible refine Or.inr ⟨[?_], _, _, _, _, r_joinY k hk, ?_⟩)
   | (with_reducible refine Or.inr (Or.inr ⟨[?_], _, _, _, _, r_joinY k hk, ?_⟩))
   | (with_reducible refine Or.inr ⟨[?_], _, _, _, _, r_place k d hk h, ?_⟩)
   | (with_reducible refine Or.inr (Or.inr ⟨[?_], _, _, _, _, r_place k d hk h, ?_⟩))
   | (with_reducible refine Or.inr ⟨[?_], _, _, _, _, r_split k hk hne, ?_⟩)
   | (with_reducible refine Or.inr (Or.inr ⟨[?_], _, _, _, _, r_split k hk hne, ?_⟩))
   | (with_reducible refine Br.mk (fun hb => ?_) (fun hb => ?_) <;> (try rw [hb]) <;> (try simp only [List.length_map, decide_eq_true_eq, decide_eq_false_iff_not, Bool.not_eq_true', Bool.not_eq_false', Int.ofNat_lt, Int.ofNat_le, Int.not_lt, Int.not_le, Int.toNat_natCast] at hb))
   | ((with_reducible first | refine Or.inl (And.intro ?_ ?_) | refine And.intro ?_ ?_); (focus (first | with_reducible rfl | exact trivial | (exact ⟨rfl, trivial⟩) | (exact ⟨rfl, rfl, trivial⟩) | omega | (intro r hr; simp only [List.mem_singleton] at hr; subst hr; rfl)  | ((simp only [in64, maxLen] at *; omega)) | (simp only [in64]; omega) | assumption | (simp; done) | (simp [V.cells]; done) | (simp [in64, maxLen, limK] at *; omega) | ((show confB _ _ = true); kernel_rfl) | rfl)))
   | (intro row hrow; (try simp only [Int.toNat_natCast, List.length_map, toNat_pred, toNat_succ', toNat_zero', toNat_one'] at hrow); (first | (have hsm := same_map (by assumption) hrow; subst hsm; clear hrow) | (obtain ⟨p, hp, rfl⟩ := of_map hrow; clear hrow)))))
  all_goals (conv => whnf)
  all_goals (first | rfl | (simp only [V.bool.injEq, V.tup.injEq, V.agg.injEq, V.str.injEq, V.int.injEq, V.sl.injEq, V.ifc.injEq, List.cons.injEq, and_true, true_and, and_self]; done) | (simp only [V.bool.injEq, V.tup.injEq, V.agg.injEq, V.str.injEq, V.int.injEq, V.sl.injEq, V.ifc.injEq, List.cons.injEq, and_true, true_and, and_self]; grind) | (simp  at *; done) | (simp  at *; grind))

set_option maxRecDepth 100000 in
set_option maxHeartbeats 1000000 in
theorem refuses_place2 (k : Bs) (d : Int) (hk : isKeyB k = false) (hl : ¬ (1 ≤ k.length ∧ k.length ≤ 8)) (h20 : k.length ≤ 20) (h : d < 0 ∨ 3 ≤ d)  : Fn Tryd.prog 7 [.str k, .int .i64 d] (.bool true) := by
  refine Fn.mk' base Tryd.func7 rfl rfl rfl ?_
  repeat' ((conv => whnf); (first
   | (with_reducible first | refine AW.seq ?_ | refine AW.region base (by kernel_rfl) ?_ | refine AW.cond ?_ | refine AW.block ?_ | refine AW.ret ?_ | refine AW.exit ?_ | refine AW.skip ?_ | refine Br.t ?_ | refine Br.f ?_)
   | (with_reducible refine Br.mkT (fun hb => (by (first | (simp at hb; done) | omega | (simp only [decide_eq_true_eq, decide_eq_false_iff_not, Bool.not_eq_true', Bool.not_eq_false'] at hb; first | omega | fail) | fail))) (fun hb => ?_))
   | (with_reducible refine Br.mkF (fun hb => (by (first | (simp at hb; done) | omega | (simp only [decide_eq_true_eq, decide_eq_false_iff_not, Bool.not_eq_true', Bool.not_eq_false'] at hb; first | omega | fail) | fail))) (fun hb => ?_))
   | ((with_reducible refine Or.inl ?_); (conv => whnf); (with_reducible refine And.intro LitSl.mk ?_))
   | refine Br.t ?_
   | refine Br.f ?_
   | (intro row hrow; have e0 := Option.some.inj (show some _ = some row from hrow); subst e0)
   | ((with_reducible refine Or.inl ?_); (conv => whnf); (first | (with_reducible first | refine ⟨_, known21_fn, ?_⟩ | refine ⟨_, code_ok, ?_⟩) | refine ⟨_, fis_fn [] 14 _, ?_⟩ | refine ⟨_, fis_fn [] 20 _, ?_⟩ | refine ⟨_, code_fn [] 14, ?_⟩ | refine ⟨_, code_fn [] 23, ?_⟩))
   | (with_reducible refine Or.inr ⟨[], _, _, _, _, moverNew_fn, ?_⟩)
   | (with_reducible refine Or.inr (Or.inr ⟨[], _, _, _, _, moverNew_fn, ?_⟩))
   | (with_reducible refine Or.inr ⟨[?_], _, _, _, _, r_joinN k hk, ?_⟩)
   | (with_reducible refine Or.inr (Or.inr ⟨[?_], _, _, _, _, r_joinN k hk, ?_⟩))
   | (with_reducible refine Or.inr ⟨[?_], _, _, _, _, r_place2 k d hk h, ?_⟩)
   | (with_reducible refine Or.inr (Or.inr ⟨[?_], _, _, _, _, r_place2 k d hk h, ?_⟩))
   | (with_reducible refine Or.inr ⟨[?_], _, _, _, _, r_splitN k hk, ?_⟩)
   | (with_reducible refine Or.inr (Or.inr ⟨[?_], _, _, _, _, r_splitN k hk, ?_⟩))
   | (with_reducible refine Br.mk (fun hb => ?_) (fun hb => ?_) <;> (try rw [hb]) <;> (try simp only [List.length_map, decide_eq_true_eq, decide_eq_false_iff_not, Bool.not_eq_true', Bool.not_eq_false', Int.ofNat_lt, Int.ofNat_le, Int.not_lt, Int.not_le, Int.toNat_natCast] at hb))
   | ((with_reducible first | refine Or.inl (And.intro ?_ ?_) | refine And.intro ?_ ?_); (focus (first | with_reducible rfl | exact trivial | (exact ⟨rfl, trivial⟩) | (exact ⟨rfl, rfl, trivial⟩) | omega | (intro r hr; simp only [List.mem_singleton] at hr; subst hr; rfl)  | ((simp only [in64, maxLen] at *; omega)) | (simp only [in64]; omega) | assumption | (simp; done) | (simp [V.cells]; done) | (simp [in64, maxLen, limK] at *; omega) | ((show confB _ _ = true); kernel_rfl) | rfl)))
   | (intro row hrow; (try simp only [Int.toNat_natCast, List.length_map, toNat_pred, toNat_succ', toNat_zero', toNat_one'] at hrow); (first | (have hsm := same_map (by assumption) hrow; subst hsm; clear hrow) | (obtain ⟨p, hp, rfl⟩ := of_map hrow; clear hrow)))))
  all_goals (conv => whnf)
  all_goals (first | rfl | (simp only [V.bool.injEq, V.tup.injEq, V.agg.injEq, V.str.injEq, V.int.injEq, V.sl.injEq, V.ifc.injEq, List.cons.injEq, and_true, true_and, and_self]; done) | (simp only [V.bool.injEq, V.tup.injEq, V.agg.injEq, V.str.injEq, V.int.injEq, V.sl.injEq, V.ifc.injEq, List.cons.injEq, and_true, true_and, and_self]; grind) | (simp  at *; done) | (simp  at *; grind))

set_option maxRecDepth 100000 in
set_option maxHeartbeats 1000000 in
theorem refuses_none (k : Bs) (d : Int) (hk : isKeyB k = false) (hl : ¬ (1 ≤ k.length ∧ k.length ≤ 8)) (h20 : k.length ≤ 20) (h : 0 ≤ d ∧ d < 3)  : Fn Tryd.prog 7 [.str k, .int .i64 d] (.bool true) := by
  refine Fn.mk' base Tryd.func7 rfl rfl rfl ?_
  repeat' ((conv => whnf); (first
   | (with_reducible first | refine AW.seq ?_ | refine AW.region base (by kernel_rfl) ?_ | refine AW.cond ?_ | refine AW.block ?_ | refine AW.ret ?_ | refine AW.exit ?_ | refine AW.skip ?_ | refine Br.t ?_ | refine Br.f ?_)
   | (with_reducible refine Br.mkT (fun hb => (by (first | (simp at hb; done) | omega | (simp only [decide_eq_true_eq, decide_eq_false_iff_not, Bool.not_eq_true', Bool.not_eq_false'] at hb; first | omega | fail) | fail))) (fun hb => ?_))
   | (with_reducible refine Br.mkF (fun hb => (by (first | (simp at hb; done) | omega | (simp only [decide_eq_true_eq, decide_eq_false_iff_not, Bool.not_eq_true', Bool.not_eq_false'] at hb; first | omega | fail) | fail))) (fun hb => ?_))
   | ((with_reducible refine Or.inl ?_); (conv => whnf); (with_reducible refine And.intro LitSl.mk ?_))
   | refine Br.t ?_
   | refine Br.f ?_
   | (intro row hrow; have e0 := Option.some.inj (show some _ = some row from hrow); subst e0)
   | ((with_reducible refine Or.inl ?_); (conv => whnf); (first | (with_reducible first | refine ⟨_, known21_fn, ?_⟩ | refine ⟨_, code_ok, ?_⟩) | refine ⟨_, fis_fn [] 14 _, ?_⟩ | refine ⟨_, fis_fn [] 20 _, ?_⟩ | refine ⟨_, code_fn [] 14, ?_⟩ | refine ⟨_, code_fn [] 23, ?_⟩))
   | (with_reducible refine Or.inr ⟨[], _, _, _, _, moverNew_fn, ?_⟩)
   | (with_reducible refine Or.inr (Or.inr ⟨[], _, _, _, _, moverNew_fn, ?_⟩))
   | (with_reducible refine Or.inr ⟨[?_], _, _, _, _, r_joinN k hk, ?_⟩)
   | (with_reducible refine Or.inr (Or.inr ⟨[?_], _, _, _, _, r_joinN k hk, ?_⟩))
   | (with_reducible refine Or.inr ⟨[?_], _, _, _, _, r_none k d hk h, ?_⟩)
   | (with_reducible refine Or.inr (Or.inr ⟨[?_], _, _, _, _, r_none k d hk h, ?_⟩))
   | (with_reducible refine Or.inr ⟨[?_], _, _, _, _, r_splitN k hk, ?_⟩)
   | (with_reducible refine Or.inr (Or.inr ⟨[?_], _, _, _, _, r_splitN k hk, ?_⟩))
   | (with_reducible refine Br.mk (fun hb => ?_) (fun hb => ?_) <;> (try rw [hb]) <;> (try simp only [List.length_map, decide_eq_true_eq, decide_eq_false_iff_not, Bool.not_eq_true', Bool.not_eq_false', Int.ofNat_lt, Int.ofNat_le, Int.not_lt, Int.not_le, Int.toNat_natCast] at hb))
   | ((with_reducible first | refine Or.inl (And.intro ?_ ?_) | refine And.intro ?_ ?_); (focus (first | with_reducible rfl | exact trivial | (exact ⟨rfl, trivial⟩) | (exact ⟨rfl, rfl, trivial⟩) | omega | (intro r hr; simp only [List.mem_singleton] at hr; subst hr; rfl)  | ((simp only [in64, maxLen] at *; omega)) | (simp only [in64]; omega) | assumption | (simp; done) | (simp [V.cells]; done) | (simp [in64, maxLen, limK] at *; omega) | ((show confB _ _ = true); kernel_rfl) | rfl)))
   | (intro row hrow; (try simp only [Int.toNat_natCast, List.length_map, toNat_pred, toNat_succ', toNat_zero', toNat_one'] at hrow); (first | (have hsm := same_map (by assumption) hrow; subst hsm; clear hrow) | (obtain ⟨p, hp, rfl⟩ := of_map hrow; clear hrow)))))
  all_goals (conv => whnf)
  all_goals (first | rfl | (simp only [V.bool.injEq, V.tup.injEq, V.agg.injEq, V.str.injEq, V.int.injEq, V.sl.injEq, V.ifc.injEq, List.cons.injEq, and_true, true_and, and_self]; done) | (simp only [V.bool.injEq, V.tup.injEq, V.agg.injEq, V.str.injEq, V.int.injEq, V.sl.injEq, V.ifc.injEq, List.cons.injEq, and_true, true_and, and_self]; grind) | (simp  at *; done) | (simp  at *; grind))

set_option maxRecDepth 100000 in
set_option maxHeartbeats 400000 in
theorem refuses_long (k : Bs) (d : Int) (h20 : 20 < k.length)  : Fn Tryd.prog 7 [.str k, .int .i64 d] (.bool true) := by
  refine Fn.mk' base Tryd.func7 rfl rfl rfl ?_
  repeat' ((conv => whnf); (first
   | (with_reducible first | refine AW.seq ?_ | refine AW.region base (by kernel_rfl) ?_ | refine AW.cond ?_ | refine AW.block ?_ | refine AW.ret ?_ | refine AW.exit ?_ | refine AW.skip ?_ | refine Br.t ?_ | refine Br.f ?_)
   | (with_reducible refine Br.mkT (fun hb => (by (first | (simp at hb; done) | omega | (simp only [decide_eq_true_eq, decide_eq_false_iff_not, Bool.not_eq_true', Bool.not_eq_false'] at hb; first | omega | fail) | fail))) (fun hb => ?_))
   | (with_reducible refine Br.mkF (fun hb => (by (first | (simp at hb; done) | omega | (simp only [decide_eq_true_eq, decide_eq_false_iff_not, Bool.not_eq_true', Bool.not_eq_false'] at hb; first | omega | fail) | fail))) (fun hb => ?_))
   | ((with_reducible refine Or.inl ?_); (conv => whnf); (with_reducible refine And.intro LitSl.mk ?_))
   | refine Br.t ?_
   | refine Br.f ?_
   | (intro row hrow; have e0 := Option.some.inj (show some _ = some row from hrow); subst e0)
   | ((with_reducible refine Or.inl ?_); (conv => whnf); (first | (with_reducible first | refine ⟨_, known21_fn, ?_⟩)))
   | (with_reducible refine Br.mk (fun hb => ?_) (fun hb => ?_) <;> (try rw [hb]) <;> (try simp only [List.length_map, decide_eq_true_eq, decide_eq_false_iff_not, Bool.not_eq_true', Bool.not_eq_false', Int.ofNat_lt, Int.ofNat_le, Int.not_lt, Int.not_le, Int.toNat_natCast] at hb))
   | ((with_reducible first | refine Or.inl (And.intro ?_ ?_) | refine And.intro ?_ ?_); (focus (first | with_reducible rfl | exact trivial | (exact ⟨rfl, trivial⟩) | (exact ⟨rfl, rfl, trivial⟩) | omega | (intro r hr; simp only [List.mem_singleton] at hr; subst hr; rfl)  | ((simp only [in64, maxLen] at *; omega)) | (simp only [in64]; omega) | assumption | (simp; done) | (simp [V.cells]; done) | (simp [in64, maxLen, limK] at *; omega) | ((show confB _ _ = true); kernel_rfl) | rfl)))
   | (intro row hrow; (try simp only [Int.toNat_natCast, List.length_map, toNat_pred, toNat_succ', toNat_zero', toNat_one'] at hrow); (first | (have hsm := same_map (by assumption) hrow; subst hsm; clear hrow) | (obtain ⟨p, hp, rfl⟩ := of_map hrow; clear hrow)))))
  all_goals (conv => whnf)
  all_goals (first | rfl | (simp only [V.bool.injEq, V.tup.injEq, V.agg.injEq, V.str.injEq, V.int.injEq, V.sl.injEq, V.ifc.injEq, List.cons.injEq, and_true, true_and, and_self]; done) | (simp only [V.bool.injEq, V.tup.injEq, V.agg.injEq, V.str.injEq, V.int.injEq, V.sl.injEq, V.ifc.injEq, List.cons.injEq, and_true, true_and, and_self]; grind) | (simp  at *; done) | (simp  at *; grind))

theorem moverRefuses_fn (k : Bs) (d : Int) : Fn Tryd.prog 7 [.str k, .int .i64 d] (.bool true) := by
  rcases Nat.lt_or_ge 20 k.length with h20 | h20
  · exact refuses_long k d h20
  cases hk : isKeyB k with
  | true =>
    have hk' := hk
    simp only [isKeyB, Bool.and_eq_true, Bool.not_eq_true', decide_eq_false_iff_not, decide_eq_true_eq] at hk'
    have hl : 1 ≤ k.length ∧ k.length ≤ 8 := ⟨by rcases k with _ | ⟨a, t⟩; exact absurd rfl hk'.1; simp, hk'.2⟩
    rcases (by omega : (0 < d ∧ d < 3) ∨ d = 0 ∨ (d < 0 ∨ 3 ≤ d)) with h | h | h
    · exact refuses_good k d hk hk'.1 hl h
    · subst h; exact refuses_same k hk hk'.1 hl
    · exact refuses_place k d hk hk'.1 hl h
  | false =>
    have hl : ¬ (1 ≤ k.length ∧ k.length ≤ 8) := by
      intro hh
      have : isKeyB k = true := by
        simp only [isKeyB, Bool.and_eq_true, Bool.not_eq_true', decide_eq_false_iff_not, decide_eq_true_eq]
        exact ⟨by intro e; subst e; simp at hh, hh.2⟩
      rw [this] at hk; exact absurd hk (by decide)
    rcases (by omega : (0 ≤ d ∧ d < 3) ∨ (d < 0 ∨ 3 ≤ d)) with h | h
    · exact refuses_none k d hk hl h20 h
    · exact refuses_place2 k d hk hl h20 h
end Go.Proofs.YtgjbhkbjdihddaaDoor
