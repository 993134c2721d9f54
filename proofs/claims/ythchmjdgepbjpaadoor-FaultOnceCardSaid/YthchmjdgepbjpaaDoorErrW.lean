/-
  Errors: errors.As at a fault; where it is; what an error says: their walks. No conditions.
-/
import Derived.Test.YthchmjdgepbjpaaDoorErr
import Derived.Test.YthchmjdgepbjpaaDoorItoa
import Derived.Lib.ItoaLen
namespace Go.Proofs.YthchmjdgepbjpaaDoor
open Go.RowKit
set_option linter.unusedSimpArgs false
set_option linter.unusedVariables false

set_option maxRecDepth 100000 in
set_option maxHeartbeats 400000 in
theorem as_X0 [Inhabited TabT] (w : Bs) (ws : List Bs) (c : Int) : FnM Tryd.prog 19 [errV (w :: ws) c, .ifc 57 (.ptr 0 0), valV 57 (.ptr 1 0) 150, .ifc 59 (.agg [.val (H 39)])] [.cells [.val (.pointer none)], .cells [.ptr 0 0]] (.bool true) [.cells [.elt [.str w, errV ws c] 0], .cells [.ptr 0 0]] := by
  refine FnM.mk' base Tryd.func19 rfl rfl rfl rfl ?_
  repeat' ((conv => whnf); (first
   | ((with_reducible show AW _ _ _ (Code.loop _) _ _ _); (refine AW.rounds 2 ?_))
   | (with_reducible first | refine AW.seq ?_ | refine AW.region base (by kernel_rfl) ?_ | refine AW.cond ?_ | refine AW.block ?_ | refine AW.ret ?_ | refine AW.exit ?_ | refine AW.skip ?_ | refine Br.t ?_ | refine Br.f ?_)
   | ((with_reducible refine Or.inl ?_); (conv => whnf); (with_reducible refine And.intro LitSl.mk ?_))
   | refine Br.t ?_
   | refine Br.f ?_
   | ((with_reducible refine Or.inl ?_); (conv => whnf); (first | (with_reducible first | refine ⟨_, typeOf_X _, ?_⟩ | refine ⟨_, assignable_X_X, ?_⟩ | refine ⟨_, typeOf_E _, ?_⟩ | refine ⟨_, assignable_E_X, ?_⟩)))
   | (with_reducible refine Or.inr ⟨[?_, ?_], _, _, _, _, elemV_PX0, ?_⟩)
   | (with_reducible refine Or.inr (Or.inr ⟨[?_, ?_], _, _, _, _, elemV_PX0, ?_⟩))
   | (with_reducible refine Or.inr ⟨[], _, _, _, _, valueOf_X ?_, ?_⟩)
   | (with_reducible refine Or.inr (Or.inr ⟨[], _, _, _, _, valueOf_X ?_, ?_⟩))
   | (with_reducible refine Or.inr ⟨[?_, ?_], _, _, _, _, set_X0 ?_, ?_⟩)
   | (with_reducible refine Or.inr (Or.inr ⟨[?_, ?_], _, _, _, _, set_X0 ?_, ?_⟩))
   | (with_reducible refine Br.mk (fun hb => ?_) (fun hb => ?_) <;> (try rw [hb]) <;> (try simp only [List.length_map, decide_eq_true_eq, decide_eq_false_iff_not, Bool.not_eq_true', Bool.not_eq_false', Int.ofNat_lt, Int.ofNat_le, Int.not_lt, Int.not_le, Int.toNat_natCast] at hb))
   | ((with_reducible first | refine Or.inl (And.intro ?_ ?_) | refine And.intro ?_ ?_); (focus (first | with_reducible rfl | exact trivial | (exact ⟨rfl, trivial⟩) | (exact ⟨rfl, rfl, trivial⟩) | omega | (intro r hr; simp only [List.mem_singleton] at hr; subst hr; rfl)  | (simp only [in64]; omega) | assumption | (simp; done) | (simp [V.cells]; done) | (simp [in64, maxLen, limK] at *; omega) | ((show confB _ _ = true); kernel_rfl) | rfl)))
   | (intro row hrow; (try simp only [Int.toNat_natCast, List.length_map, toNat_pred, toNat_succ', toNat_zero', toNat_one'] at hrow); (first | (have hsm := same_map (by assumption) hrow; subst hsm; clear hrow) | (obtain ⟨p, hp, rfl⟩ := of_map hrow; clear hrow)))))
  all_goals (conv => whnf)
  all_goals (refine ⟨[0, 1], ?_⟩)
  all_goals (repeat' (first | (with_reducible rfl) | exact trivial | ((conv => whnf); (first | (with_reducible refine And.intro ?_ ?_) | exact trivial | (intro hb; first | (exfalso; simp_all; done) | skip)))))
  all_goals (first | rfl)

set_option maxRecDepth 100000 in
set_option maxHeartbeats 400000 in
theorem as_XE0 [Inhabited TabT] (c : Int) : FnM Tryd.prog 19 [errV [] c, .ifc 57 (.ptr 0 0), valV 57 (.ptr 1 0) 150, .ifc 59 (.agg [.val (H 39)])] [.cells [.val (.pointer none)], .cells [.ptr 0 0]] (.bool false) [.cells [.val (.pointer none)], .cells [.ptr 0 0]] := by
  refine FnM.mk' base Tryd.func19 rfl rfl rfl rfl ?_
  repeat' ((conv => whnf); (first
   | ((with_reducible show AW _ _ _ (Code.loop _) _ _ _); (refine AW.rounds 2 ?_))
   | (with_reducible first | refine AW.seq ?_ | refine AW.region base (by kernel_rfl) ?_ | refine AW.cond ?_ | refine AW.block ?_ | refine AW.ret ?_ | refine AW.exit ?_ | refine AW.skip ?_ | refine Br.t ?_ | refine Br.f ?_)
   | ((with_reducible refine Or.inl ?_); (conv => whnf); (with_reducible refine And.intro LitSl.mk ?_))
   | refine Br.t ?_
   | refine Br.f ?_
   | ((with_reducible refine Or.inl ?_); (conv => whnf); (first | (with_reducible first | refine ⟨_, typeOf_X _, ?_⟩ | refine ⟨_, assignable_X_X, ?_⟩ | refine ⟨_, typeOf_E _, ?_⟩ | refine ⟨_, assignable_E_X, ?_⟩)))
   | (with_reducible refine Or.inr ⟨[?_, ?_], _, _, _, _, elemV_PX0, ?_⟩)
   | (with_reducible refine Or.inr (Or.inr ⟨[?_, ?_], _, _, _, _, elemV_PX0, ?_⟩))
   | (with_reducible refine Or.inr ⟨[], _, _, _, _, valueOf_X ?_, ?_⟩)
   | (with_reducible refine Or.inr (Or.inr ⟨[], _, _, _, _, valueOf_X ?_, ?_⟩))
   | (with_reducible refine Or.inr ⟨[?_, ?_], _, _, _, _, set_X0 ?_, ?_⟩)
   | (with_reducible refine Or.inr (Or.inr ⟨[?_, ?_], _, _, _, _, set_X0 ?_, ?_⟩))
   | (with_reducible refine Br.mk (fun hb => ?_) (fun hb => ?_) <;> (try rw [hb]) <;> (try simp only [List.length_map, decide_eq_true_eq, decide_eq_false_iff_not, Bool.not_eq_true', Bool.not_eq_false', Int.ofNat_lt, Int.ofNat_le, Int.not_lt, Int.not_le, Int.toNat_natCast] at hb))
   | ((with_reducible first | refine Or.inl (And.intro ?_ ?_) | refine And.intro ?_ ?_); (focus (first | with_reducible rfl | exact trivial | (exact ⟨rfl, trivial⟩) | (exact ⟨rfl, rfl, trivial⟩) | omega | (intro r hr; simp only [List.mem_singleton] at hr; subst hr; rfl)  | (simp only [in64]; omega) | assumption | (simp; done) | (simp [V.cells]; done) | (simp [in64, maxLen, limK] at *; omega) | ((show confB _ _ = true); kernel_rfl) | rfl)))
   | (intro row hrow; (try simp only [Int.toNat_natCast, List.length_map, toNat_pred, toNat_succ', toNat_zero', toNat_one'] at hrow); (first | (have hsm := same_map (by assumption) hrow; subst hsm; clear hrow) | (obtain ⟨p, hp, rfl⟩ := of_map hrow; clear hrow)))))
  all_goals (conv => whnf)
  all_goals (refine ⟨[0, 1], ?_⟩)
  all_goals (repeat' (first | (with_reducible rfl) | exact trivial | ((conv => whnf); (first | (with_reducible refine And.intro ?_ ?_) | exact trivial | (intro hb; first | (exfalso; simp_all; done) | skip)))))
  all_goals (first | rfl)

set_option maxRecDepth 100000 in
set_option maxHeartbeats 400000 in
theorem asX0_fn [Inhabited TabT] (w : Bs) (ws : List Bs) (c : Int) : FnM Tryd.prog 9 [errV (w :: ws) c, .ifc 57 (.ptr 0 0)] [.cells [.val (.pointer none)]] (.bool true) [.cells [.elt [.str w, errV ws c] 0]] := by
  refine FnM.mk' base Tryd.func9 rfl rfl rfl rfl ?_
  repeat' ((conv => whnf); (first
   | (with_reducible first | refine AW.seq ?_ | refine AW.region base (by kernel_rfl) ?_ | refine AW.cond ?_ | refine AW.block ?_ | refine AW.ret ?_ | refine AW.exit ?_ | refine AW.skip ?_ | refine Br.t ?_ | refine Br.f ?_)
   | ((with_reducible refine Or.inl ?_); (conv => whnf); (with_reducible refine And.intro LitSl.mk ?_))
   | refine Br.t ?_
   | refine Br.f ?_
   | ((with_reducible refine Or.inl ?_); (conv => whnf); (first | (with_reducible first | refine ⟨_, type_PX _, ?_⟩ | refine ⟨_, kind_PX, ?_⟩ | refine ⟨_, kind_X, ?_⟩ | refine ⟨_, isNil_PX _, ?_⟩ | refine ⟨_, elem_PX, ?_⟩ | refine ⟨_, implements_X, ?_⟩)))
   | (with_reducible refine Or.inr ⟨[?_], _, _, _, _, valueOf_PX0, ?_⟩)
   | (with_reducible refine Or.inr (Or.inr ⟨[?_], _, _, _, _, valueOf_PX0, ?_⟩))
   | (with_reducible refine Or.inr ⟨[?_, ?_], _, _, _, _, as_X0 ?_ ?_ ?_, ?_⟩)
   | (with_reducible refine Or.inr (Or.inr ⟨[?_, ?_], _, _, _, _, as_X0 ?_ ?_ ?_, ?_⟩))
   | (with_reducible refine Br.mk (fun hb => ?_) (fun hb => ?_) <;> (try rw [hb]) <;> (try simp only [List.length_map, decide_eq_true_eq, decide_eq_false_iff_not, Bool.not_eq_true', Bool.not_eq_false', Int.ofNat_lt, Int.ofNat_le, Int.not_lt, Int.not_le, Int.toNat_natCast] at hb))
   | ((with_reducible first | refine Or.inl (And.intro ?_ ?_) | refine And.intro ?_ ?_); (focus (first | with_reducible rfl | exact trivial | (exact ⟨rfl, trivial⟩) | (exact ⟨rfl, rfl, trivial⟩) | omega | (intro r hr; simp only [List.mem_singleton] at hr; subst hr; rfl)  | (simp only [in64]; omega) | assumption | (simp; done) | (simp [V.cells]; done) | (simp [in64, maxLen, limK] at *; omega) | ((show confB _ _ = true); kernel_rfl) | rfl)))
   | (intro row hrow; (try simp only [Int.toNat_natCast, List.length_map, toNat_pred, toNat_succ', toNat_zero', toNat_one'] at hrow); (first | (have hsm := same_map (by assumption) hrow; subst hsm; clear hrow) | (obtain ⟨p, hp, rfl⟩ := of_map hrow; clear hrow)))))
  all_goals (conv => whnf)
  all_goals (refine ⟨[0], ?_⟩)
  all_goals (repeat' (first | (with_reducible rfl) | exact trivial | ((conv => whnf); (first | (with_reducible refine And.intro ?_ ?_) | exact trivial | (intro hb; first | (exfalso; simp_all; done) | skip)))))
  all_goals (first | rfl)

set_option maxRecDepth 100000 in
set_option maxHeartbeats 400000 in
theorem asXE0_fn [Inhabited TabT] (c : Int) : FnM Tryd.prog 9 [errV [] c, .ifc 57 (.ptr 0 0)] [.cells [.val (.pointer none)]] (.bool false) [.cells [.val (.pointer none)]] := by
  refine FnM.mk' base Tryd.func9 rfl rfl rfl rfl ?_
  repeat' ((conv => whnf); (first
   | (with_reducible first | refine AW.seq ?_ | refine AW.region base (by kernel_rfl) ?_ | refine AW.cond ?_ | refine AW.block ?_ | refine AW.ret ?_ | refine AW.exit ?_ | refine AW.skip ?_ | refine Br.t ?_ | refine Br.f ?_)
   | ((with_reducible refine Or.inl ?_); (conv => whnf); (with_reducible refine And.intro LitSl.mk ?_))
   | refine Br.t ?_
   | refine Br.f ?_
   | ((with_reducible refine Or.inl ?_); (conv => whnf); (first | (with_reducible first | refine ⟨_, type_PX _, ?_⟩ | refine ⟨_, kind_PX, ?_⟩ | refine ⟨_, kind_X, ?_⟩ | refine ⟨_, isNil_PX _, ?_⟩ | refine ⟨_, elem_PX, ?_⟩ | refine ⟨_, implements_X, ?_⟩)))
   | (with_reducible refine Or.inr ⟨[?_], _, _, _, _, valueOf_PX0, ?_⟩)
   | (with_reducible refine Or.inr (Or.inr ⟨[?_], _, _, _, _, valueOf_PX0, ?_⟩))
   | (with_reducible refine Or.inr ⟨[?_, ?_], _, _, _, _, as_XE0 ?_, ?_⟩)
   | (with_reducible refine Or.inr (Or.inr ⟨[?_, ?_], _, _, _, _, as_XE0 ?_, ?_⟩))
   | (with_reducible refine Br.mk (fun hb => ?_) (fun hb => ?_) <;> (try rw [hb]) <;> (try simp only [List.length_map, decide_eq_true_eq, decide_eq_false_iff_not, Bool.not_eq_true', Bool.not_eq_false', Int.ofNat_lt, Int.ofNat_le, Int.not_lt, Int.not_le, Int.toNat_natCast] at hb))
   | ((with_reducible first | refine Or.inl (And.intro ?_ ?_) | refine And.intro ?_ ?_); (focus (first | with_reducible rfl | exact trivial | (exact ⟨rfl, trivial⟩) | (exact ⟨rfl, rfl, trivial⟩) | omega | (intro r hr; simp only [List.mem_singleton] at hr; subst hr; rfl)  | (simp only [in64]; omega) | assumption | (simp; done) | (simp [V.cells]; done) | (simp [in64, maxLen, limK] at *; omega) | ((show confB _ _ = true); kernel_rfl) | rfl)))
   | (intro row hrow; (try simp only [Int.toNat_natCast, List.length_map, toNat_pred, toNat_succ', toNat_zero', toNat_one'] at hrow); (first | (have hsm := same_map (by assumption) hrow; subst hsm; clear hrow) | (obtain ⟨p, hp, rfl⟩ := of_map hrow; clear hrow)))))
  all_goals (conv => whnf)
  all_goals (refine ⟨[0], ?_⟩)
  all_goals (repeat' (first | (with_reducible rfl) | exact trivial | ((conv => whnf); (first | (with_reducible refine And.intro ?_ ?_) | exact trivial | (intro hb; first | (exfalso; simp_all; done) | skip)))))
  all_goals (first | rfl)

set_option maxRecDepth 100000 in
set_option maxHeartbeats 400000 in
theorem as_X1 [Inhabited TabT] (r0 : List V) (w : Bs) (ws : List Bs) (c : Int) : FnM Tryd.prog 19 [errV (w :: ws) c, .ifc 57 (.ptr 0 0), valV 57 (.ptr 1 0) 150, .ifc 59 (.agg [.val (H 39)])] [.cells [.elt r0 0], .cells [.ptr 0 0]] (.bool true) [.cells [.elt [.str w, errV ws c] 0], .cells [.ptr 0 0]] := by
  refine FnM.mk' base Tryd.func19 rfl rfl rfl rfl ?_
  repeat' ((conv => whnf); (first
   | ((with_reducible show AW _ _ _ (Code.loop _) _ _ _); (refine AW.rounds 2 ?_))
   | (with_reducible first | refine AW.seq ?_ | refine AW.region base (by kernel_rfl) ?_ | refine AW.cond ?_ | refine AW.block ?_ | refine AW.ret ?_ | refine AW.exit ?_ | refine AW.skip ?_ | refine Br.t ?_ | refine Br.f ?_)
   | ((with_reducible refine Or.inl ?_); (conv => whnf); (with_reducible refine And.intro LitSl.mk ?_))
   | refine Br.t ?_
   | refine Br.f ?_
   | ((with_reducible refine Or.inl ?_); (conv => whnf); (first | (with_reducible first | refine ⟨_, typeOf_X _, ?_⟩ | refine ⟨_, assignable_X_X, ?_⟩ | refine ⟨_, typeOf_E _, ?_⟩ | refine ⟨_, assignable_E_X, ?_⟩)))
   | (with_reducible refine Or.inr ⟨[?_, ?_], _, _, _, _, elemV_PX1 ?_, ?_⟩)
   | (with_reducible refine Or.inr (Or.inr ⟨[?_, ?_], _, _, _, _, elemV_PX1 ?_, ?_⟩))
   | (with_reducible refine Or.inr ⟨[], _, _, _, _, valueOf_X ?_, ?_⟩)
   | (with_reducible refine Or.inr (Or.inr ⟨[], _, _, _, _, valueOf_X ?_, ?_⟩))
   | (with_reducible refine Or.inr ⟨[?_, ?_], _, _, _, _, set_X1 ?_ ?_, ?_⟩)
   | (with_reducible refine Or.inr (Or.inr ⟨[?_, ?_], _, _, _, _, set_X1 ?_ ?_, ?_⟩))
   | (with_reducible refine Br.mk (fun hb => ?_) (fun hb => ?_) <;> (try rw [hb]) <;> (try simp only [List.length_map, decide_eq_true_eq, decide_eq_false_iff_not, Bool.not_eq_true', Bool.not_eq_false', Int.ofNat_lt, Int.ofNat_le, Int.not_lt, Int.not_le, Int.toNat_natCast] at hb))
   | ((with_reducible first | refine Or.inl (And.intro ?_ ?_) | refine And.intro ?_ ?_); (focus (first | with_reducible rfl | exact trivial | (exact ⟨rfl, trivial⟩) | (exact ⟨rfl, rfl, trivial⟩) | omega | (intro r hr; simp only [List.mem_singleton] at hr; subst hr; rfl)  | (simp only [in64]; omega) | assumption | (simp; done) | (simp [V.cells]; done) | (simp [in64, maxLen, limK] at *; omega) | ((show confB _ _ = true); kernel_rfl) | rfl)))
   | (intro row hrow; (try simp only [Int.toNat_natCast, List.length_map, toNat_pred, toNat_succ', toNat_zero', toNat_one'] at hrow); (first | (have hsm := same_map (by assumption) hrow; subst hsm; clear hrow) | (obtain ⟨p, hp, rfl⟩ := of_map hrow; clear hrow)))))
  all_goals (conv => whnf)
  all_goals (refine ⟨[0, 1], ?_⟩)
  all_goals (repeat' (first | (with_reducible rfl) | exact trivial | ((conv => whnf); (first | (with_reducible refine And.intro ?_ ?_) | exact trivial | (intro hb; first | (exfalso; simp_all; done) | skip)))))
  all_goals (first | rfl)

set_option maxRecDepth 100000 in
set_option maxHeartbeats 400000 in
theorem as_XE1 [Inhabited TabT] (r0 : List V) (c : Int) : FnM Tryd.prog 19 [errV [] c, .ifc 57 (.ptr 0 0), valV 57 (.ptr 1 0) 150, .ifc 59 (.agg [.val (H 39)])] [.cells [.elt r0 0], .cells [.ptr 0 0]] (.bool false) [.cells [.elt r0 0], .cells [.ptr 0 0]] := by
  refine FnM.mk' base Tryd.func19 rfl rfl rfl rfl ?_
  repeat' ((conv => whnf); (first
   | ((with_reducible show AW _ _ _ (Code.loop _) _ _ _); (refine AW.rounds 2 ?_))
   | (with_reducible first | refine AW.seq ?_ | refine AW.region base (by kernel_rfl) ?_ | refine AW.cond ?_ | refine AW.block ?_ | refine AW.ret ?_ | refine AW.exit ?_ | refine AW.skip ?_ | refine Br.t ?_ | refine Br.f ?_)
   | ((with_reducible refine Or.inl ?_); (conv => whnf); (with_reducible refine And.intro LitSl.mk ?_))
   | refine Br.t ?_
   | refine Br.f ?_
   | ((with_reducible refine Or.inl ?_); (conv => whnf); (first | (with_reducible first | refine ⟨_, typeOf_X _, ?_⟩ | refine ⟨_, assignable_X_X, ?_⟩ | refine ⟨_, typeOf_E _, ?_⟩ | refine ⟨_, assignable_E_X, ?_⟩)))
   | (with_reducible refine Or.inr ⟨[?_, ?_], _, _, _, _, elemV_PX1 ?_, ?_⟩)
   | (with_reducible refine Or.inr (Or.inr ⟨[?_, ?_], _, _, _, _, elemV_PX1 ?_, ?_⟩))
   | (with_reducible refine Or.inr ⟨[], _, _, _, _, valueOf_X ?_, ?_⟩)
   | (with_reducible refine Or.inr (Or.inr ⟨[], _, _, _, _, valueOf_X ?_, ?_⟩))
   | (with_reducible refine Or.inr ⟨[?_, ?_], _, _, _, _, set_X1 ?_ ?_, ?_⟩)
   | (with_reducible refine Or.inr (Or.inr ⟨[?_, ?_], _, _, _, _, set_X1 ?_ ?_, ?_⟩))
   | (with_reducible refine Br.mk (fun hb => ?_) (fun hb => ?_) <;> (try rw [hb]) <;> (try simp only [List.length_map, decide_eq_true_eq, decide_eq_false_iff_not, Bool.not_eq_true', Bool.not_eq_false', Int.ofNat_lt, Int.ofNat_le, Int.not_lt, Int.not_le, Int.toNat_natCast] at hb))
   | ((with_reducible first | refine Or.inl (And.intro ?_ ?_) | refine And.intro ?_ ?_); (focus (first | with_reducible rfl | exact trivial | (exact ⟨rfl, trivial⟩) | (exact ⟨rfl, rfl, trivial⟩) | omega | (intro r hr; simp only [List.mem_singleton] at hr; subst hr; rfl)  | (simp only [in64]; omega) | assumption | (simp; done) | (simp [V.cells]; done) | (simp [in64, maxLen, limK] at *; omega) | ((show confB _ _ = true); kernel_rfl) | rfl)))
   | (intro row hrow; (try simp only [Int.toNat_natCast, List.length_map, toNat_pred, toNat_succ', toNat_zero', toNat_one'] at hrow); (first | (have hsm := same_map (by assumption) hrow; subst hsm; clear hrow) | (obtain ⟨p, hp, rfl⟩ := of_map hrow; clear hrow)))))
  all_goals (conv => whnf)
  all_goals (refine ⟨[0, 1], ?_⟩)
  all_goals (repeat' (first | (with_reducible rfl) | exact trivial | ((conv => whnf); (first | (with_reducible refine And.intro ?_ ?_) | exact trivial | (intro hb; first | (exfalso; simp_all; done) | skip)))))
  all_goals (first | rfl)

set_option maxRecDepth 100000 in
set_option maxHeartbeats 400000 in
theorem asX1_fn [Inhabited TabT] (r0 : List V) (w : Bs) (ws : List Bs) (c : Int) : FnM Tryd.prog 9 [errV (w :: ws) c, .ifc 57 (.ptr 0 0)] [.cells [.elt r0 0]] (.bool true) [.cells [.elt [.str w, errV ws c] 0]] := by
  refine FnM.mk' base Tryd.func9 rfl rfl rfl rfl ?_
  repeat' ((conv => whnf); (first
   | (with_reducible first | refine AW.seq ?_ | refine AW.region base (by kernel_rfl) ?_ | refine AW.cond ?_ | refine AW.block ?_ | refine AW.ret ?_ | refine AW.exit ?_ | refine AW.skip ?_ | refine Br.t ?_ | refine Br.f ?_)
   | ((with_reducible refine Or.inl ?_); (conv => whnf); (with_reducible refine And.intro LitSl.mk ?_))
   | refine Br.t ?_
   | refine Br.f ?_
   | ((with_reducible refine Or.inl ?_); (conv => whnf); (first | (with_reducible first | refine ⟨_, type_PX _, ?_⟩ | refine ⟨_, kind_PX, ?_⟩ | refine ⟨_, kind_X, ?_⟩ | refine ⟨_, isNil_PX _, ?_⟩ | refine ⟨_, elem_PX, ?_⟩ | refine ⟨_, implements_X, ?_⟩)))
   | (with_reducible refine Or.inr ⟨[?_], _, _, _, _, valueOf_PX1 ?_, ?_⟩)
   | (with_reducible refine Or.inr (Or.inr ⟨[?_], _, _, _, _, valueOf_PX1 ?_, ?_⟩))
   | (with_reducible refine Or.inr ⟨[?_, ?_], _, _, _, _, as_X1 ?_ ?_ ?_ ?_, ?_⟩)
   | (with_reducible refine Or.inr (Or.inr ⟨[?_, ?_], _, _, _, _, as_X1 ?_ ?_ ?_ ?_, ?_⟩))
   | (with_reducible refine Br.mk (fun hb => ?_) (fun hb => ?_) <;> (try rw [hb]) <;> (try simp only [List.length_map, decide_eq_true_eq, decide_eq_false_iff_not, Bool.not_eq_true', Bool.not_eq_false', Int.ofNat_lt, Int.ofNat_le, Int.not_lt, Int.not_le, Int.toNat_natCast] at hb))
   | ((with_reducible first | refine Or.inl (And.intro ?_ ?_) | refine And.intro ?_ ?_); (focus (first | with_reducible rfl | exact trivial | (exact ⟨rfl, trivial⟩) | (exact ⟨rfl, rfl, trivial⟩) | omega | (intro r hr; simp only [List.mem_singleton] at hr; subst hr; rfl)  | (simp only [in64]; omega) | assumption | (simp; done) | (simp [V.cells]; done) | (simp [in64, maxLen, limK] at *; omega) | ((show confB _ _ = true); kernel_rfl) | rfl)))
   | (intro row hrow; (try simp only [Int.toNat_natCast, List.length_map, toNat_pred, toNat_succ', toNat_zero', toNat_one'] at hrow); (first | (have hsm := same_map (by assumption) hrow; subst hsm; clear hrow) | (obtain ⟨p, hp, rfl⟩ := of_map hrow; clear hrow)))))
  all_goals (conv => whnf)
  all_goals (refine ⟨[0], ?_⟩)
  all_goals (repeat' (first | (with_reducible rfl) | exact trivial | ((conv => whnf); (first | (with_reducible refine And.intro ?_ ?_) | exact trivial | (intro hb; first | (exfalso; simp_all; done) | skip)))))
  all_goals (first | rfl)

set_option maxRecDepth 100000 in
set_option maxHeartbeats 400000 in
theorem asXE1_fn [Inhabited TabT] (r0 : List V) (c : Int) : FnM Tryd.prog 9 [errV [] c, .ifc 57 (.ptr 0 0)] [.cells [.elt r0 0]] (.bool false) [.cells [.elt r0 0]] := by
  refine FnM.mk' base Tryd.func9 rfl rfl rfl rfl ?_
  repeat' ((conv => whnf); (first
   | (with_reducible first | refine AW.seq ?_ | refine AW.region base (by kernel_rfl) ?_ | refine AW.cond ?_ | refine AW.block ?_ | refine AW.ret ?_ | refine AW.exit ?_ | refine AW.skip ?_ | refine Br.t ?_ | refine Br.f ?_)
   | ((with_reducible refine Or.inl ?_); (conv => whnf); (with_reducible refine And.intro LitSl.mk ?_))
   | refine Br.t ?_
   | refine Br.f ?_
   | ((with_reducible refine Or.inl ?_); (conv => whnf); (first | (with_reducible first | refine ⟨_, type_PX _, ?_⟩ | refine ⟨_, kind_PX, ?_⟩ | refine ⟨_, kind_X, ?_⟩ | refine ⟨_, isNil_PX _, ?_⟩ | refine ⟨_, elem_PX, ?_⟩ | refine ⟨_, implements_X, ?_⟩)))
   | (with_reducible refine Or.inr ⟨[?_], _, _, _, _, valueOf_PX1 ?_, ?_⟩)
   | (with_reducible refine Or.inr (Or.inr ⟨[?_], _, _, _, _, valueOf_PX1 ?_, ?_⟩))
   | (with_reducible refine Or.inr ⟨[?_, ?_], _, _, _, _, as_XE1 ?_ ?_, ?_⟩)
   | (with_reducible refine Or.inr (Or.inr ⟨[?_, ?_], _, _, _, _, as_XE1 ?_ ?_, ?_⟩))
   | (with_reducible refine Br.mk (fun hb => ?_) (fun hb => ?_) <;> (try rw [hb]) <;> (try simp only [List.length_map, decide_eq_true_eq, decide_eq_false_iff_not, Bool.not_eq_true', Bool.not_eq_false', Int.ofNat_lt, Int.ofNat_le, Int.not_lt, Int.not_le, Int.toNat_natCast] at hb))
   | ((with_reducible first | refine Or.inl (And.intro ?_ ?_) | refine And.intro ?_ ?_); (focus (first | with_reducible rfl | exact trivial | (exact ⟨rfl, trivial⟩) | (exact ⟨rfl, rfl, trivial⟩) | omega | (intro r hr; simp only [List.mem_singleton] at hr; subst hr; rfl)  | (simp only [in64]; omega) | assumption | (simp; done) | (simp [V.cells]; done) | (simp [in64, maxLen, limK] at *; omega) | ((show confB _ _ = true); kernel_rfl) | rfl)))
   | (intro row hrow; (try simp only [Int.toNat_natCast, List.length_map, toNat_pred, toNat_succ', toNat_zero', toNat_one'] at hrow); (first | (have hsm := same_map (by assumption) hrow; subst hsm; clear hrow) | (obtain ⟨p, hp, rfl⟩ := of_map hrow; clear hrow)))))
  all_goals (conv => whnf)
  all_goals (refine ⟨[0], ?_⟩)
  all_goals (repeat' (first | (with_reducible rfl) | exact trivial | ((conv => whnf); (first | (with_reducible refine And.intro ?_ ?_) | exact trivial | (intro hb; first | (exfalso; simp_all; done) | skip)))))
  all_goals (first | rfl)

abbrev encW (s : Bs) : List V := [.str s]

set_option maxRecDepth 100000 in
set_option maxHeartbeats 400000 in
theorem where_fn0 [Inhabited TabT] (c : Int) : Fn Tryd.prog 14 [errV [] c] (.sl (([] : List Bs).map encW)) := by
  refine Fn.mk' base Tryd.func14 rfl rfl rfl ?_
  have hl : ([] : List Bs).length ≤ 1000000 := Nat.zero_le _
  repeat' ((conv => whnf); (first
   | (with_reducible first | refine AW.seq ?_ | refine AW.region base (by kernel_rfl) ?_ | refine AW.cond ?_ | refine AW.block ?_ | refine AW.ret ?_ | refine AW.exit ?_ | refine AW.skip ?_ | refine Br.t ?_ | refine Br.f ?_)
   | ((with_reducible refine Or.inl ?_); (conv => whnf); (with_reducible refine And.intro LitSl.mk ?_))
   | refine Br.t ?_
   | refine Br.f ?_
   | (with_reducible refine Br.mk (fun hb => ?_) (fun hb => ?_) <;> (try rw [hb]) <;> (try simp only [List.length_map, decide_eq_true_eq, decide_eq_false_iff_not, Bool.not_eq_true', Bool.not_eq_false', Int.ofNat_lt, Int.ofNat_le, Int.not_lt, Int.not_le, Int.toNat_natCast] at hb))
   | ((with_reducible first | refine Or.inl (And.intro ?_ ?_) | refine And.intro ?_ ?_); (focus (first | with_reducible rfl | exact trivial | (exact ⟨rfl, trivial⟩) | (exact ⟨rfl, rfl, trivial⟩) | omega | (intro r hr; simp only [List.mem_singleton] at hr; subst hr; rfl)  | ((simp only [List.length_map] at *; omega)) | (simp only [in64]; omega) | assumption | (simp; done) | (simp [V.cells]; done) | (simp [in64, maxLen, limK] at *; omega) | ((show confB _ _ = true); kernel_rfl) | rfl)))
   | (intro row hrow; (try simp only [Int.toNat_natCast, List.length_map, toNat_pred, toNat_succ', toNat_zero', toNat_one'] at hrow); (first | (have hsm := same_map (by assumption) hrow; subst hsm; clear hrow) | (obtain ⟨p, hp, rfl⟩ := of_map hrow; clear hrow)))))
  refine AW.adopt 3 999999999 (el := 9) rfl rfl (rows_of 22 rfl) ?_
  refine AW.loop (fun (⟨a, r, rest⟩ : List Bs × List V × List Bs) => ([] : List Bs) = a ++ rest ∧ a.length ≤ (([] : List Bs)).length) (fun (⟨a, r, rest⟩ : List Bs × List V × List Bs) => ⟨[(0, errV rest c), (3, .own 0), (4, .ptr 1 0)], [.rows 9 (a.map encW), match a with | [] => .cells [.val (.pointer none)] | _ :: _ => .cells [.elt r 0]]⟩) (fun (⟨a, r, rest⟩ : List Bs × List V × List Bs) => rest.length) ([], [], ([] : List Bs)) ?_ ?_ ?_
  · exact ⟨rfl, Nat.zero_le _⟩
  · (refine ⟨⟨[999999999, 3000], ?_⟩⟩; repeat' (first | (with_reducible rfl) | exact trivial | ((conv => whnf); (first | (with_reducible refine And.intro ?_ ?_) | (first | with_reducible rfl | ((first | refine congrArg V.str ?_ | refine congrArg (V.int _) ?_ | refine congrArg V.bool ?_ | refine congrArg V.sl ?_); (first | with_reducible rfl | omega | rfl | (simp; done))) | (first | with_reducible rfl | omega | rfl | (simp; done)) | rfl)))))
  · rintro ⟨a, r, rest⟩ ⟨hk1, hk2⟩
    have hk1 : ([] : List Bs) = a ++ rest := hk1
    have hk2 : a.length ≤ (([] : List Bs)).length := hk2
    have hal : a.length + rest.length = (([] : List Bs)).length := by rw [hk1, List.length_append]
    rcases a with _ | ⟨w0, a⟩
    · rcases rest with _ | ⟨w1, _ | ⟨w2, rest⟩⟩
      · skip
        repeat' ((conv => whnf); (first
         | (with_reducible first | refine AW.seq ?_ | refine AW.region base (by kernel_rfl) ?_ | refine AW.cond ?_ | refine AW.block ?_ | refine AW.ret ?_ | refine AW.exit ?_ | refine AW.skip ?_ | refine Br.t ?_ | refine Br.f ?_)
         | ((with_reducible refine Or.inl ?_); (conv => whnf); (with_reducible refine And.intro LitSl.mk ?_))
         | refine Br.t ?_
         | refine Br.f ?_
         | (with_reducible refine Or.inr ⟨[?_], _, _, _, _, asXE0_fn ?_, ?_⟩)
         | (with_reducible refine Or.inr (Or.inr ⟨[?_], _, _, _, _, asXE0_fn ?_, ?_⟩))
         | (with_reducible refine Br.mk (fun hb => ?_) (fun hb => ?_) <;> (try rw [hb]) <;> (try simp only [List.length_map, decide_eq_true_eq, decide_eq_false_iff_not, Bool.not_eq_true', Bool.not_eq_false', Int.ofNat_lt, Int.ofNat_le, Int.not_lt, Int.not_le, Int.toNat_natCast] at hb))
         | ((with_reducible first | refine Or.inl (And.intro ?_ ?_) | refine And.intro ?_ ?_); (focus (first | with_reducible rfl | exact trivial | (exact ⟨rfl, trivial⟩) | (exact ⟨rfl, rfl, trivial⟩) | omega | (intro r hr; simp only [List.mem_singleton] at hr; subst hr; rfl)  | ((simp only [List.length_map] at *; omega)) | (simp only [in64]; omega) | assumption | (simp; done) | (simp [V.cells]; done) | (simp [in64, maxLen, limK] at *; omega) | ((show confB _ _ = true); kernel_rfl) | rfl)))
         | (intro row hrow; (try simp only [Int.toNat_natCast, List.length_map, toNat_pred, toNat_succ', toNat_zero', toNat_one'] at hrow); (first | (have hsm := same_map (by assumption) hrow; subst hsm; clear hrow) | (obtain ⟨p, hp, rfl⟩ := of_map hrow; clear hrow)))))
        all_goals (conv => whnf)
        all_goals (first
        | (exfalso; simp at hk1; done)
        | (exact congrArg V.sl (by first | (rw [hk1, List.append_nil]; done) | (rw [hk1, List.append_nil]; rfl) | fail))
        | ((refine ⟨([] ++ [w1], [.str w1, errV [] c], []), ?_⟩); (refine And.intro ?_ (And.intro ?_ ?_)); (focus (refine ⟨⟨[?_, 1], ?_⟩⟩; rotate_left 1; repeat' (first | (with_reducible rfl) | exact trivial | ((conv => whnf); (first | (with_reducible refine And.intro ?_ ?_) | (first | with_reducible rfl | ((first | refine congrArg V.str ?_ | refine congrArg (V.int _) ?_ | refine congrArg V.bool ?_ | refine congrArg V.sl ?_); (first | with_reducible rfl | omega | (rw [List.map_append]; rfl) | rfl | (simp; done))) | (first | with_reducible rfl | omega | (rw [List.map_append]; rfl) | rfl | (simp; done)) | rfl)))))); (focus (exact ⟨by first | (rw [hk1, List.append_assoc]; rfl) | (rw [hk1]; rfl) | (rw [hk1]; done) | (simp [hk1]; done) | fail, by first | (simp at hal ⊢; omega) | (simp; done) | (simp at hal ⊢; done) | fail⟩)); (focus (first | (simp; done) | (dsimp only [List.length_cons]; omega) | fail)))
        | ((refine ⟨([] ++ [w1], [.str w1, errV (w2 :: rest) c], (w2 :: rest)), ?_⟩); (refine And.intro ?_ (And.intro ?_ ?_)); (focus (refine ⟨⟨[?_, 1], ?_⟩⟩; rotate_left 1; repeat' (first | (with_reducible rfl) | exact trivial | ((conv => whnf); (first | (with_reducible refine And.intro ?_ ?_) | (first | with_reducible rfl | ((first | refine congrArg V.str ?_ | refine congrArg (V.int _) ?_ | refine congrArg V.bool ?_ | refine congrArg V.sl ?_); (first | with_reducible rfl | omega | (rw [List.map_append]; rfl) | rfl | (simp; done))) | (first | with_reducible rfl | omega | (rw [List.map_append]; rfl) | rfl | (simp; done)) | rfl)))))); (focus (exact ⟨by first | (rw [hk1, List.append_assoc]; rfl) | (rw [hk1]; rfl) | (rw [hk1]; done) | (simp [hk1]; done) | fail, by first | (simp at hal ⊢; omega) | (simp; done) | (simp at hal ⊢; done) | fail⟩)); (focus (first | (simp; done) | (dsimp only [List.length_cons]; omega) | fail)))
        | ((refine ⟨((w0 :: a) ++ [w1], [.str w1, errV [] c], []), ?_⟩); (refine And.intro ?_ (And.intro ?_ ?_)); (focus (refine ⟨⟨[?_, 1], ?_⟩⟩; rotate_left 1; repeat' (first | (with_reducible rfl) | exact trivial | ((conv => whnf); (first | (with_reducible refine And.intro ?_ ?_) | (first | with_reducible rfl | ((first | refine congrArg V.str ?_ | refine congrArg (V.int _) ?_ | refine congrArg V.bool ?_ | refine congrArg V.sl ?_); (first | with_reducible rfl | omega | (rw [List.map_append]; rfl) | rfl | (simp; done))) | (first | with_reducible rfl | omega | (rw [List.map_append]; rfl) | rfl | (simp; done)) | rfl)))))); (focus (exact ⟨by first | (rw [hk1, List.append_assoc]; rfl) | (rw [hk1]; rfl) | (rw [hk1]; done) | (simp [hk1]; done) | fail, by first | (simp at hal ⊢; omega) | (simp; done) | (simp at hal ⊢; done) | fail⟩)); (focus (first | (simp; done) | (dsimp only [List.length_cons]; omega) | fail)))
        | ((refine ⟨((w0 :: a) ++ [w1], [.str w1, errV (w2 :: rest) c], (w2 :: rest)), ?_⟩); (refine And.intro ?_ (And.intro ?_ ?_)); (focus (refine ⟨⟨[?_, 1], ?_⟩⟩; rotate_left 1; repeat' (first | (with_reducible rfl) | exact trivial | ((conv => whnf); (first | (with_reducible refine And.intro ?_ ?_) | (first | with_reducible rfl | ((first | refine congrArg V.str ?_ | refine congrArg (V.int _) ?_ | refine congrArg V.bool ?_ | refine congrArg V.sl ?_); (first | with_reducible rfl | omega | (rw [List.map_append]; rfl) | rfl | (simp; done))) | (first | with_reducible rfl | omega | (rw [List.map_append]; rfl) | rfl | (simp; done)) | rfl)))))); (focus (exact ⟨by first | (rw [hk1, List.append_assoc]; rfl) | (rw [hk1]; rfl) | (rw [hk1]; done) | (simp [hk1]; done) | fail, by first | (simp at hal ⊢; omega) | (simp; done) | (simp at hal ⊢; done) | fail⟩)); (focus (first | (simp; done) | (dsimp only [List.length_cons]; omega) | fail)))
        | fail)
      · skip
        repeat' ((conv => whnf); (first
         | (with_reducible first | refine AW.seq ?_ | refine AW.region base (by kernel_rfl) ?_ | refine AW.cond ?_ | refine AW.block ?_ | refine AW.ret ?_ | refine AW.exit ?_ | refine AW.skip ?_ | refine Br.t ?_ | refine Br.f ?_)
         | ((with_reducible refine Or.inl ?_); (conv => whnf); (with_reducible refine And.intro LitSl.mk ?_))
         | refine Br.t ?_
         | refine Br.f ?_
         | (with_reducible refine Or.inr ⟨[?_], _, _, _, _, asX0_fn ?_ ?_ ?_, ?_⟩)
         | (with_reducible refine Or.inr (Or.inr ⟨[?_], _, _, _, _, asX0_fn ?_ ?_ ?_, ?_⟩))
         | (with_reducible refine Br.mk (fun hb => ?_) (fun hb => ?_) <;> (try rw [hb]) <;> (try simp only [List.length_map, decide_eq_true_eq, decide_eq_false_iff_not, Bool.not_eq_true', Bool.not_eq_false', Int.ofNat_lt, Int.ofNat_le, Int.not_lt, Int.not_le, Int.toNat_natCast] at hb))
         | ((with_reducible first | refine Or.inl (And.intro ?_ ?_) | refine And.intro ?_ ?_); (focus (first | with_reducible rfl | exact trivial | (exact ⟨rfl, trivial⟩) | (exact ⟨rfl, rfl, trivial⟩) | omega | (intro r hr; simp only [List.mem_singleton] at hr; subst hr; rfl)  | ((simp only [List.length_map] at *; omega)) | (simp only [in64]; omega) | assumption | (simp; done) | (simp [V.cells]; done) | (simp [in64, maxLen, limK] at *; omega) | ((show confB _ _ = true); kernel_rfl) | rfl)))
         | (intro row hrow; (try simp only [Int.toNat_natCast, List.length_map, toNat_pred, toNat_succ', toNat_zero', toNat_one'] at hrow); (first | (have hsm := same_map (by assumption) hrow; subst hsm; clear hrow) | (obtain ⟨p, hp, rfl⟩ := of_map hrow; clear hrow)))))
        all_goals (conv => whnf)
        all_goals (first
        | (exfalso; simp at hk1; done)
        | (exact congrArg V.sl (by first | (rw [hk1, List.append_nil]; done) | (rw [hk1, List.append_nil]; rfl) | fail))
        | ((refine ⟨([] ++ [w1], [.str w1, errV [] c], []), ?_⟩); (refine And.intro ?_ (And.intro ?_ ?_)); (focus (refine ⟨⟨[?_, 1], ?_⟩⟩; rotate_left 1; repeat' (first | (with_reducible rfl) | exact trivial | ((conv => whnf); (first | (with_reducible refine And.intro ?_ ?_) | (first | with_reducible rfl | ((first | refine congrArg V.str ?_ | refine congrArg (V.int _) ?_ | refine congrArg V.bool ?_ | refine congrArg V.sl ?_); (first | with_reducible rfl | omega | (rw [List.map_append]; rfl) | rfl | (simp; done))) | (first | with_reducible rfl | omega | (rw [List.map_append]; rfl) | rfl | (simp; done)) | rfl)))))); (focus (exact ⟨by first | (rw [hk1, List.append_assoc]; rfl) | (rw [hk1]; rfl) | (rw [hk1]; done) | (simp [hk1]; done) | fail, by first | (simp at hal ⊢; omega) | (simp; done) | (simp at hal ⊢; done) | fail⟩)); (focus (first | (simp; done) | (dsimp only [List.length_cons]; omega) | fail)))
        | ((refine ⟨([] ++ [w1], [.str w1, errV (w2 :: rest) c], (w2 :: rest)), ?_⟩); (refine And.intro ?_ (And.intro ?_ ?_)); (focus (refine ⟨⟨[?_, 1], ?_⟩⟩; rotate_left 1; repeat' (first | (with_reducible rfl) | exact trivial | ((conv => whnf); (first | (with_reducible refine And.intro ?_ ?_) | (first | with_reducible rfl | ((first | refine congrArg V.str ?_ | refine congrArg (V.int _) ?_ | refine congrArg V.bool ?_ | refine congrArg V.sl ?_); (first | with_reducible rfl | omega | (rw [List.map_append]; rfl) | rfl | (simp; done))) | (first | with_reducible rfl | omega | (rw [List.map_append]; rfl) | rfl | (simp; done)) | rfl)))))); (focus (exact ⟨by first | (rw [hk1, List.append_assoc]; rfl) | (rw [hk1]; rfl) | (rw [hk1]; done) | (simp [hk1]; done) | fail, by first | (simp at hal ⊢; omega) | (simp; done) | (simp at hal ⊢; done) | fail⟩)); (focus (first | (simp; done) | (dsimp only [List.length_cons]; omega) | fail)))
        | ((refine ⟨((w0 :: a) ++ [w1], [.str w1, errV [] c], []), ?_⟩); (refine And.intro ?_ (And.intro ?_ ?_)); (focus (refine ⟨⟨[?_, 1], ?_⟩⟩; rotate_left 1; repeat' (first | (with_reducible rfl) | exact trivial | ((conv => whnf); (first | (with_reducible refine And.intro ?_ ?_) | (first | with_reducible rfl | ((first | refine congrArg V.str ?_ | refine congrArg (V.int _) ?_ | refine congrArg V.bool ?_ | refine congrArg V.sl ?_); (first | with_reducible rfl | omega | (rw [List.map_append]; rfl) | rfl | (simp; done))) | (first | with_reducible rfl | omega | (rw [List.map_append]; rfl) | rfl | (simp; done)) | rfl)))))); (focus (exact ⟨by first | (rw [hk1, List.append_assoc]; rfl) | (rw [hk1]; rfl) | (rw [hk1]; done) | (simp [hk1]; done) | fail, by first | (simp at hal ⊢; omega) | (simp; done) | (simp at hal ⊢; done) | fail⟩)); (focus (first | (simp; done) | (dsimp only [List.length_cons]; omega) | fail)))
        | ((refine ⟨((w0 :: a) ++ [w1], [.str w1, errV (w2 :: rest) c], (w2 :: rest)), ?_⟩); (refine And.intro ?_ (And.intro ?_ ?_)); (focus (refine ⟨⟨[?_, 1], ?_⟩⟩; rotate_left 1; repeat' (first | (with_reducible rfl) | exact trivial | ((conv => whnf); (first | (with_reducible refine And.intro ?_ ?_) | (first | with_reducible rfl | ((first | refine congrArg V.str ?_ | refine congrArg (V.int _) ?_ | refine congrArg V.bool ?_ | refine congrArg V.sl ?_); (first | with_reducible rfl | omega | (rw [List.map_append]; rfl) | rfl | (simp; done))) | (first | with_reducible rfl | omega | (rw [List.map_append]; rfl) | rfl | (simp; done)) | rfl)))))); (focus (exact ⟨by first | (rw [hk1, List.append_assoc]; rfl) | (rw [hk1]; rfl) | (rw [hk1]; done) | (simp [hk1]; done) | fail, by first | (simp at hal ⊢; omega) | (simp; done) | (simp at hal ⊢; done) | fail⟩)); (focus (first | (simp; done) | (dsimp only [List.length_cons]; omega) | fail)))
        | fail)
      · skip
        repeat' ((conv => whnf); (first
         | (with_reducible first | refine AW.seq ?_ | refine AW.region base (by kernel_rfl) ?_ | refine AW.cond ?_ | refine AW.block ?_ | refine AW.ret ?_ | refine AW.exit ?_ | refine AW.skip ?_ | refine Br.t ?_ | refine Br.f ?_)
         | ((with_reducible refine Or.inl ?_); (conv => whnf); (with_reducible refine And.intro LitSl.mk ?_))
         | refine Br.t ?_
         | refine Br.f ?_
         | (with_reducible refine Or.inr ⟨[?_], _, _, _, _, asX0_fn ?_ ?_ ?_, ?_⟩)
         | (with_reducible refine Or.inr (Or.inr ⟨[?_], _, _, _, _, asX0_fn ?_ ?_ ?_, ?_⟩))
         | (with_reducible refine Br.mk (fun hb => ?_) (fun hb => ?_) <;> (try rw [hb]) <;> (try simp only [List.length_map, decide_eq_true_eq, decide_eq_false_iff_not, Bool.not_eq_true', Bool.not_eq_false', Int.ofNat_lt, Int.ofNat_le, Int.not_lt, Int.not_le, Int.toNat_natCast] at hb))
         | ((with_reducible first | refine Or.inl (And.intro ?_ ?_) | refine And.intro ?_ ?_); (focus (first | with_reducible rfl | exact trivial | (exact ⟨rfl, trivial⟩) | (exact ⟨rfl, rfl, trivial⟩) | omega | (intro r hr; simp only [List.mem_singleton] at hr; subst hr; rfl)  | ((simp only [List.length_map] at *; omega)) | (simp only [in64]; omega) | assumption | (simp; done) | (simp [V.cells]; done) | (simp [in64, maxLen, limK] at *; omega) | ((show confB _ _ = true); kernel_rfl) | rfl)))
         | (intro row hrow; (try simp only [Int.toNat_natCast, List.length_map, toNat_pred, toNat_succ', toNat_zero', toNat_one'] at hrow); (first | (have hsm := same_map (by assumption) hrow; subst hsm; clear hrow) | (obtain ⟨p, hp, rfl⟩ := of_map hrow; clear hrow)))))
        all_goals (conv => whnf)
        all_goals (first
        | (exfalso; simp at hk1; done)
        | (exact congrArg V.sl (by first | (rw [hk1, List.append_nil]; done) | (rw [hk1, List.append_nil]; rfl) | fail))
        | ((refine ⟨([] ++ [w1], [.str w1, errV [] c], []), ?_⟩); (refine And.intro ?_ (And.intro ?_ ?_)); (focus (refine ⟨⟨[?_, 1], ?_⟩⟩; rotate_left 1; repeat' (first | (with_reducible rfl) | exact trivial | ((conv => whnf); (first | (with_reducible refine And.intro ?_ ?_) | (first | with_reducible rfl | ((first | refine congrArg V.str ?_ | refine congrArg (V.int _) ?_ | refine congrArg V.bool ?_ | refine congrArg V.sl ?_); (first | with_reducible rfl | omega | (rw [List.map_append]; rfl) | rfl | (simp; done))) | (first | with_reducible rfl | omega | (rw [List.map_append]; rfl) | rfl | (simp; done)) | rfl)))))); (focus (exact ⟨by first | (rw [hk1, List.append_assoc]; rfl) | (rw [hk1]; rfl) | (rw [hk1]; done) | (simp [hk1]; done) | fail, by first | (simp at hal ⊢; omega) | (simp; done) | (simp at hal ⊢; done) | fail⟩)); (focus (first | (simp; done) | (dsimp only [List.length_cons]; omega) | fail)))
        | ((refine ⟨([] ++ [w1], [.str w1, errV (w2 :: rest) c], (w2 :: rest)), ?_⟩); (refine And.intro ?_ (And.intro ?_ ?_)); (focus (refine ⟨⟨[?_, 1], ?_⟩⟩; rotate_left 1; repeat' (first | (with_reducible rfl) | exact trivial | ((conv => whnf); (first | (with_reducible refine And.intro ?_ ?_) | (first | with_reducible rfl | ((first | refine congrArg V.str ?_ | refine congrArg (V.int _) ?_ | refine congrArg V.bool ?_ | refine congrArg V.sl ?_); (first | with_reducible rfl | omega | (rw [List.map_append]; rfl) | rfl | (simp; done))) | (first | with_reducible rfl | omega | (rw [List.map_append]; rfl) | rfl | (simp; done)) | rfl)))))); (focus (exact ⟨by first | (rw [hk1, List.append_assoc]; rfl) | (rw [hk1]; rfl) | (rw [hk1]; done) | (simp [hk1]; done) | fail, by first | (simp at hal ⊢; omega) | (simp; done) | (simp at hal ⊢; done) | fail⟩)); (focus (first | (simp; done) | (dsimp only [List.length_cons]; omega) | fail)))
        | ((refine ⟨((w0 :: a) ++ [w1], [.str w1, errV [] c], []), ?_⟩); (refine And.intro ?_ (And.intro ?_ ?_)); (focus (refine ⟨⟨[?_, 1], ?_⟩⟩; rotate_left 1; repeat' (first | (with_reducible rfl) | exact trivial | ((conv => whnf); (first | (with_reducible refine And.intro ?_ ?_) | (first | with_reducible rfl | ((first | refine congrArg V.str ?_ | refine congrArg (V.int _) ?_ | refine congrArg V.bool ?_ | refine congrArg V.sl ?_); (first | with_reducible rfl | omega | (rw [List.map_append]; rfl) | rfl | (simp; done))) | (first | with_reducible rfl | omega | (rw [List.map_append]; rfl) | rfl | (simp; done)) | rfl)))))); (focus (exact ⟨by first | (rw [hk1, List.append_assoc]; rfl) | (rw [hk1]; rfl) | (rw [hk1]; done) | (simp [hk1]; done) | fail, by first | (simp at hal ⊢; omega) | (simp; done) | (simp at hal ⊢; done) | fail⟩)); (focus (first | (simp; done) | (dsimp only [List.length_cons]; omega) | fail)))
        | ((refine ⟨((w0 :: a) ++ [w1], [.str w1, errV (w2 :: rest) c], (w2 :: rest)), ?_⟩); (refine And.intro ?_ (And.intro ?_ ?_)); (focus (refine ⟨⟨[?_, 1], ?_⟩⟩; rotate_left 1; repeat' (first | (with_reducible rfl) | exact trivial | ((conv => whnf); (first | (with_reducible refine And.intro ?_ ?_) | (first | with_reducible rfl | ((first | refine congrArg V.str ?_ | refine congrArg (V.int _) ?_ | refine congrArg V.bool ?_ | refine congrArg V.sl ?_); (first | with_reducible rfl | omega | (rw [List.map_append]; rfl) | rfl | (simp; done))) | (first | with_reducible rfl | omega | (rw [List.map_append]; rfl) | rfl | (simp; done)) | rfl)))))); (focus (exact ⟨by first | (rw [hk1, List.append_assoc]; rfl) | (rw [hk1]; rfl) | (rw [hk1]; done) | (simp [hk1]; done) | fail, by first | (simp at hal ⊢; omega) | (simp; done) | (simp at hal ⊢; done) | fail⟩)); (focus (first | (simp; done) | (dsimp only [List.length_cons]; omega) | fail)))
        | fail)
    · rcases rest with _ | ⟨w1, _ | ⟨w2, rest⟩⟩
      · skip
        repeat' ((conv => whnf); (first
         | (with_reducible first | refine AW.seq ?_ | refine AW.region base (by kernel_rfl) ?_ | refine AW.cond ?_ | refine AW.block ?_ | refine AW.ret ?_ | refine AW.exit ?_ | refine AW.skip ?_ | refine Br.t ?_ | refine Br.f ?_)
         | ((with_reducible refine Or.inl ?_); (conv => whnf); (with_reducible refine And.intro LitSl.mk ?_))
         | refine Br.t ?_
         | refine Br.f ?_
         | (with_reducible refine Or.inr ⟨[?_], _, _, _, _, asXE1_fn ?_ ?_, ?_⟩)
         | (with_reducible refine Or.inr (Or.inr ⟨[?_], _, _, _, _, asXE1_fn ?_ ?_, ?_⟩))
         | (with_reducible refine Br.mk (fun hb => ?_) (fun hb => ?_) <;> (try rw [hb]) <;> (try simp only [List.length_map, decide_eq_true_eq, decide_eq_false_iff_not, Bool.not_eq_true', Bool.not_eq_false', Int.ofNat_lt, Int.ofNat_le, Int.not_lt, Int.not_le, Int.toNat_natCast] at hb))
         | ((with_reducible first | refine Or.inl (And.intro ?_ ?_) | refine And.intro ?_ ?_); (focus (first | with_reducible rfl | exact trivial | (exact ⟨rfl, trivial⟩) | (exact ⟨rfl, rfl, trivial⟩) | omega | (intro r hr; simp only [List.mem_singleton] at hr; subst hr; rfl)  | ((simp only [List.length_map] at *; omega)) | (simp only [in64]; omega) | assumption | (simp; done) | (simp [V.cells]; done) | (simp [in64, maxLen, limK] at *; omega) | ((show confB _ _ = true); kernel_rfl) | rfl)))
         | (intro row hrow; (try simp only [Int.toNat_natCast, List.length_map, toNat_pred, toNat_succ', toNat_zero', toNat_one'] at hrow); (first | (have hsm := same_map (by assumption) hrow; subst hsm; clear hrow) | (obtain ⟨p, hp, rfl⟩ := of_map hrow; clear hrow)))))
        all_goals (conv => whnf)
        all_goals (first
        | (exfalso; simp at hk1; done)
        | (exact congrArg V.sl (by first | (rw [hk1, List.append_nil]; done) | (rw [hk1, List.append_nil]; rfl) | fail))
        | ((refine ⟨([] ++ [w1], [.str w1, errV [] c], []), ?_⟩); (refine And.intro ?_ (And.intro ?_ ?_)); (focus (refine ⟨⟨[?_, 1], ?_⟩⟩; rotate_left 1; repeat' (first | (with_reducible rfl) | exact trivial | ((conv => whnf); (first | (with_reducible refine And.intro ?_ ?_) | (first | with_reducible rfl | ((first | refine congrArg V.str ?_ | refine congrArg (V.int _) ?_ | refine congrArg V.bool ?_ | refine congrArg V.sl ?_); (first | with_reducible rfl | omega | (rw [List.map_append]; rfl) | rfl | (simp; done))) | (first | with_reducible rfl | omega | (rw [List.map_append]; rfl) | rfl | (simp; done)) | rfl)))))); (focus (exact ⟨by first | (rw [hk1, List.append_assoc]; rfl) | (rw [hk1]; rfl) | (rw [hk1]; done) | (simp [hk1]; done) | fail, by first | (simp at hal ⊢; omega) | (simp; done) | (simp at hal ⊢; done) | fail⟩)); (focus (first | (simp; done) | (dsimp only [List.length_cons]; omega) | fail)))
        | ((refine ⟨([] ++ [w1], [.str w1, errV (w2 :: rest) c], (w2 :: rest)), ?_⟩); (refine And.intro ?_ (And.intro ?_ ?_)); (focus (refine ⟨⟨[?_, 1], ?_⟩⟩; rotate_left 1; repeat' (first | (with_reducible rfl) | exact trivial | ((conv => whnf); (first | (with_reducible refine And.intro ?_ ?_) | (first | with_reducible rfl | ((first | refine congrArg V.str ?_ | refine congrArg (V.int _) ?_ | refine congrArg V.bool ?_ | refine congrArg V.sl ?_); (first | with_reducible rfl | omega | (rw [List.map_append]; rfl) | rfl | (simp; done))) | (first | with_reducible rfl | omega | (rw [List.map_append]; rfl) | rfl | (simp; done)) | rfl)))))); (focus (exact ⟨by first | (rw [hk1, List.append_assoc]; rfl) | (rw [hk1]; rfl) | (rw [hk1]; done) | (simp [hk1]; done) | fail, by first | (simp at hal ⊢; omega) | (simp; done) | (simp at hal ⊢; done) | fail⟩)); (focus (first | (simp; done) | (dsimp only [List.length_cons]; omega) | fail)))
        | ((refine ⟨((w0 :: a) ++ [w1], [.str w1, errV [] c], []), ?_⟩); (refine And.intro ?_ (And.intro ?_ ?_)); (focus (refine ⟨⟨[?_, 1], ?_⟩⟩; rotate_left 1; repeat' (first | (with_reducible rfl) | exact trivial | ((conv => whnf); (first | (with_reducible refine And.intro ?_ ?_) | (first | with_reducible rfl | ((first | refine congrArg V.str ?_ | refine congrArg (V.int _) ?_ | refine congrArg V.bool ?_ | refine congrArg V.sl ?_); (first | with_reducible rfl | omega | (rw [List.map_append]; rfl) | rfl | (simp; done))) | (first | with_reducible rfl | omega | (rw [List.map_append]; rfl) | rfl | (simp; done)) | rfl)))))); (focus (exact ⟨by first | (rw [hk1, List.append_assoc]; rfl) | (rw [hk1]; rfl) | (rw [hk1]; done) | (simp [hk1]; done) | fail, by first | (simp at hal ⊢; omega) | (simp; done) | (simp at hal ⊢; done) | fail⟩)); (focus (first | (simp; done) | (dsimp only [List.length_cons]; omega) | fail)))
        | ((refine ⟨((w0 :: a) ++ [w1], [.str w1, errV (w2 :: rest) c], (w2 :: rest)), ?_⟩); (refine And.intro ?_ (And.intro ?_ ?_)); (focus (refine ⟨⟨[?_, 1], ?_⟩⟩; rotate_left 1; repeat' (first | (with_reducible rfl) | exact trivial | ((conv => whnf); (first | (with_reducible refine And.intro ?_ ?_) | (first | with_reducible rfl | ((first | refine congrArg V.str ?_ | refine congrArg (V.int _) ?_ | refine congrArg V.bool ?_ | refine congrArg V.sl ?_); (first | with_reducible rfl | omega | (rw [List.map_append]; rfl) | rfl | (simp; done))) | (first | with_reducible rfl | omega | (rw [List.map_append]; rfl) | rfl | (simp; done)) | rfl)))))); (focus (exact ⟨by first | (rw [hk1, List.append_assoc]; rfl) | (rw [hk1]; rfl) | (rw [hk1]; done) | (simp [hk1]; done) | fail, by first | (simp at hal ⊢; omega) | (simp; done) | (simp at hal ⊢; done) | fail⟩)); (focus (first | (simp; done) | (dsimp only [List.length_cons]; omega) | fail)))
        | fail)
      · skip
        repeat' ((conv => whnf); (first
         | (with_reducible first | refine AW.seq ?_ | refine AW.region base (by kernel_rfl) ?_ | refine AW.cond ?_ | refine AW.block ?_ | refine AW.ret ?_ | refine AW.exit ?_ | refine AW.skip ?_ | refine Br.t ?_ | refine Br.f ?_)
         | ((with_reducible refine Or.inl ?_); (conv => whnf); (with_reducible refine And.intro LitSl.mk ?_))
         | refine Br.t ?_
         | refine Br.f ?_
         | (with_reducible refine Or.inr ⟨[?_], _, _, _, _, asX1_fn ?_ ?_ ?_ ?_, ?_⟩)
         | (with_reducible refine Or.inr (Or.inr ⟨[?_], _, _, _, _, asX1_fn ?_ ?_ ?_ ?_, ?_⟩))
         | (with_reducible refine Br.mk (fun hb => ?_) (fun hb => ?_) <;> (try rw [hb]) <;> (try simp only [List.length_map, decide_eq_true_eq, decide_eq_false_iff_not, Bool.not_eq_true', Bool.not_eq_false', Int.ofNat_lt, Int.ofNat_le, Int.not_lt, Int.not_le, Int.toNat_natCast] at hb))
         | ((with_reducible first | refine Or.inl (And.intro ?_ ?_) | refine And.intro ?_ ?_); (focus (first | with_reducible rfl | exact trivial | (exact ⟨rfl, trivial⟩) | (exact ⟨rfl, rfl, trivial⟩) | omega | (intro r hr; simp only [List.mem_singleton] at hr; subst hr; rfl)  | ((simp only [List.length_map] at *; omega)) | (simp only [in64]; omega) | assumption | (simp; done) | (simp [V.cells]; done) | (simp [in64, maxLen, limK] at *; omega) | ((show confB _ _ = true); kernel_rfl) | rfl)))
         | (intro row hrow; (try simp only [Int.toNat_natCast, List.length_map, toNat_pred, toNat_succ', toNat_zero', toNat_one'] at hrow); (first | (have hsm := same_map (by assumption) hrow; subst hsm; clear hrow) | (obtain ⟨p, hp, rfl⟩ := of_map hrow; clear hrow)))))
        all_goals (conv => whnf)
        all_goals (first
        | (exfalso; simp at hk1; done)
        | (exact congrArg V.sl (by first | (rw [hk1, List.append_nil]; done) | (rw [hk1, List.append_nil]; rfl) | fail))
        | ((refine ⟨([] ++ [w1], [.str w1, errV [] c], []), ?_⟩); (refine And.intro ?_ (And.intro ?_ ?_)); (focus (refine ⟨⟨[?_, 1], ?_⟩⟩; rotate_left 1; repeat' (first | (with_reducible rfl) | exact trivial | ((conv => whnf); (first | (with_reducible refine And.intro ?_ ?_) | (first | with_reducible rfl | ((first | refine congrArg V.str ?_ | refine congrArg (V.int _) ?_ | refine congrArg V.bool ?_ | refine congrArg V.sl ?_); (first | with_reducible rfl | omega | (rw [List.map_append]; rfl) | rfl | (simp; done))) | (first | with_reducible rfl | omega | (rw [List.map_append]; rfl) | rfl | (simp; done)) | rfl)))))); (focus (exact ⟨by first | (rw [hk1, List.append_assoc]; rfl) | (rw [hk1]; rfl) | (rw [hk1]; done) | (simp [hk1]; done) | fail, by first | (simp at hal ⊢; omega) | (simp; done) | (simp at hal ⊢; done) | fail⟩)); (focus (first | (simp; done) | (dsimp only [List.length_cons]; omega) | fail)))
        | ((refine ⟨([] ++ [w1], [.str w1, errV (w2 :: rest) c], (w2 :: rest)), ?_⟩); (refine And.intro ?_ (And.intro ?_ ?_)); (focus (refine ⟨⟨[?_, 1], ?_⟩⟩; rotate_left 1; repeat' (first | (with_reducible rfl) | exact trivial | ((conv => whnf); (first | (with_reducible refine And.intro ?_ ?_) | (first | with_reducible rfl | ((first | refine congrArg V.str ?_ | refine congrArg (V.int _) ?_ | refine congrArg V.bool ?_ | refine congrArg V.sl ?_); (first | with_reducible rfl | omega | (rw [List.map_append]; rfl) | rfl | (simp; done))) | (first | with_reducible rfl | omega | (rw [List.map_append]; rfl) | rfl | (simp; done)) | rfl)))))); (focus (exact ⟨by first | (rw [hk1, List.append_assoc]; rfl) | (rw [hk1]; rfl) | (rw [hk1]; done) | (simp [hk1]; done) | fail, by first | (simp at hal ⊢; omega) | (simp; done) | (simp at hal ⊢; done) | fail⟩)); (focus (first | (simp; done) | (dsimp only [List.length_cons]; omega) | fail)))
        | ((refine ⟨((w0 :: a) ++ [w1], [.str w1, errV [] c], []), ?_⟩); (refine And.intro ?_ (And.intro ?_ ?_)); (focus (refine ⟨⟨[?_, 1], ?_⟩⟩; rotate_left 1; repeat' (first | (with_reducible rfl) | exact trivial | ((conv => whnf); (first | (with_reducible refine And.intro ?_ ?_) | (first | with_reducible rfl | ((first | refine congrArg V.str ?_ | refine congrArg (V.int _) ?_ | refine congrArg V.bool ?_ | refine congrArg V.sl ?_); (first | with_reducible rfl | omega | (rw [List.map_append]; rfl) | rfl | (simp; done))) | (first | with_reducible rfl | omega | (rw [List.map_append]; rfl) | rfl | (simp; done)) | rfl)))))); (focus (exact ⟨by first | (rw [hk1, List.append_assoc]; rfl) | (rw [hk1]; rfl) | (rw [hk1]; done) | (simp [hk1]; done) | fail, by first | (simp at hal ⊢; omega) | (simp; done) | (simp at hal ⊢; done) | fail⟩)); (focus (first | (simp; done) | (dsimp only [List.length_cons]; omega) | fail)))
        | ((refine ⟨((w0 :: a) ++ [w1], [.str w1, errV (w2 :: rest) c], (w2 :: rest)), ?_⟩); (refine And.intro ?_ (And.intro ?_ ?_)); (focus (refine ⟨⟨[?_, 1], ?_⟩⟩; rotate_left 1; repeat' (first | (with_reducible rfl) | exact trivial | ((conv => whnf); (first | (with_reducible refine And.intro ?_ ?_) | (first | with_reducible rfl | ((first | refine congrArg V.str ?_ | refine congrArg (V.int _) ?_ | refine congrArg V.bool ?_ | refine congrArg V.sl ?_); (first | with_reducible rfl | omega | (rw [List.map_append]; rfl) | rfl | (simp; done))) | (first | with_reducible rfl | omega | (rw [List.map_append]; rfl) | rfl | (simp; done)) | rfl)))))); (focus (exact ⟨by first | (rw [hk1, List.append_assoc]; rfl) | (rw [hk1]; rfl) | (rw [hk1]; done) | (simp [hk1]; done) | fail, by first | (simp at hal ⊢; omega) | (simp; done) | (simp at hal ⊢; done) | fail⟩)); (focus (first | (simp; done) | (dsimp only [List.length_cons]; omega) | fail)))
        | fail)
      · skip
        repeat' ((conv => whnf); (first
         | (with_reducible first | refine AW.seq ?_ | refine AW.region base (by kernel_rfl) ?_ | refine AW.cond ?_ | refine AW.block ?_ | refine AW.ret ?_ | refine AW.exit ?_ | refine AW.skip ?_ | refine Br.t ?_ | refine Br.f ?_)
         | ((with_reducible refine Or.inl ?_); (conv => whnf); (with_reducible refine And.intro LitSl.mk ?_))
         | refine Br.t ?_
         | refine Br.f ?_
         | (with_reducible refine Or.inr ⟨[?_], _, _, _, _, asX1_fn ?_ ?_ ?_ ?_, ?_⟩)
         | (with_reducible refine Or.inr (Or.inr ⟨[?_], _, _, _, _, asX1_fn ?_ ?_ ?_ ?_, ?_⟩))
         | (with_reducible refine Br.mk (fun hb => ?_) (fun hb => ?_) <;> (try rw [hb]) <;> (try simp only [List.length_map, decide_eq_true_eq, decide_eq_false_iff_not, Bool.not_eq_true', Bool.not_eq_false', Int.ofNat_lt, Int.ofNat_le, Int.not_lt, Int.not_le, Int.toNat_natCast] at hb))
         | ((with_reducible first | refine Or.inl (And.intro ?_ ?_) | refine And.intro ?_ ?_); (focus (first | with_reducible rfl | exact trivial | (exact ⟨rfl, trivial⟩) | (exact ⟨rfl, rfl, trivial⟩) | omega | (intro r hr; simp only [List.mem_singleton] at hr; subst hr; rfl)  | ((simp only [List.length_map] at *; omega)) | (simp only [in64]; omega) | assumption | (simp; done) | (simp [V.cells]; done) | (simp [in64, maxLen, limK] at *; omega) | ((show confB _ _ = true); kernel_rfl) | rfl)))
         | (intro row hrow; (try simp only [Int.toNat_natCast, List.length_map, toNat_pred, toNat_succ', toNat_zero', toNat_one'] at hrow); (first | (have hsm := same_map (by assumption) hrow; subst hsm; clear hrow) | (obtain ⟨p, hp, rfl⟩ := of_map hrow; clear hrow)))))
        all_goals (conv => whnf)
        all_goals (first
        | (exfalso; simp at hk1; done)
        | (exact congrArg V.sl (by first | (rw [hk1, List.append_nil]; done) | (rw [hk1, List.append_nil]; rfl) | fail))
        | ((refine ⟨([] ++ [w1], [.str w1, errV [] c], []), ?_⟩); (refine And.intro ?_ (And.intro ?_ ?_)); (focus (refine ⟨⟨[?_, 1], ?_⟩⟩; rotate_left 1; repeat' (first | (with_reducible rfl) | exact trivial | ((conv => whnf); (first | (with_reducible refine And.intro ?_ ?_) | (first | with_reducible rfl | ((first | refine congrArg V.str ?_ | refine congrArg (V.int _) ?_ | refine congrArg V.bool ?_ | refine congrArg V.sl ?_); (first | with_reducible rfl | omega | (rw [List.map_append]; rfl) | rfl | (simp; done))) | (first | with_reducible rfl | omega | (rw [List.map_append]; rfl) | rfl | (simp; done)) | rfl)))))); (focus (exact ⟨by first | (rw [hk1, List.append_assoc]; rfl) | (rw [hk1]; rfl) | (rw [hk1]; done) | (simp [hk1]; done) | fail, by first | (simp at hal ⊢; omega) | (simp; done) | (simp at hal ⊢; done) | fail⟩)); (focus (first | (simp; done) | (dsimp only [List.length_cons]; omega) | fail)))
        | ((refine ⟨([] ++ [w1], [.str w1, errV (w2 :: rest) c], (w2 :: rest)), ?_⟩); (refine And.intro ?_ (And.intro ?_ ?_)); (focus (refine ⟨⟨[?_, 1], ?_⟩⟩; rotate_left 1; repeat' (first | (with_reducible rfl) | exact trivial | ((conv => whnf); (first | (with_reducible refine And.intro ?_ ?_) | (first | with_reducible rfl | ((first | refine congrArg V.str ?_ | refine congrArg (V.int _) ?_ | refine congrArg V.bool ?_ | refine congrArg V.sl ?_); (first | with_reducible rfl | omega | (rw [List.map_append]; rfl) | rfl | (simp; done))) | (first | with_reducible rfl | omega | (rw [List.map_append]; rfl) | rfl | (simp; done)) | rfl)))))); (focus (exact ⟨by first | (rw [hk1, List.append_assoc]; rfl) | (rw [hk1]; rfl) | (rw [hk1]; done) | (simp [hk1]; done) | fail, by first | (simp at hal ⊢; omega) | (simp; done) | (simp at hal ⊢; done) | fail⟩)); (focus (first | (simp; done) | (dsimp only [List.length_cons]; omega) | fail)))
        | ((refine ⟨((w0 :: a) ++ [w1], [.str w1, errV [] c], []), ?_⟩); (refine And.intro ?_ (And.intro ?_ ?_)); (focus (refine ⟨⟨[?_, 1], ?_⟩⟩; rotate_left 1; repeat' (first | (with_reducible rfl) | exact trivial | ((conv => whnf); (first | (with_reducible refine And.intro ?_ ?_) | (first | with_reducible rfl | ((first | refine congrArg V.str ?_ | refine congrArg (V.int _) ?_ | refine congrArg V.bool ?_ | refine congrArg V.sl ?_); (first | with_reducible rfl | omega | (rw [List.map_append]; rfl) | rfl | (simp; done))) | (first | with_reducible rfl | omega | (rw [List.map_append]; rfl) | rfl | (simp; done)) | rfl)))))); (focus (exact ⟨by first | (rw [hk1, List.append_assoc]; rfl) | (rw [hk1]; rfl) | (rw [hk1]; done) | (simp [hk1]; done) | fail, by first | (simp at hal ⊢; omega) | (simp; done) | (simp at hal ⊢; done) | fail⟩)); (focus (first | (simp; done) | (dsimp only [List.length_cons]; omega) | fail)))
        | ((refine ⟨((w0 :: a) ++ [w1], [.str w1, errV (w2 :: rest) c], (w2 :: rest)), ?_⟩); (refine And.intro ?_ (And.intro ?_ ?_)); (focus (refine ⟨⟨[?_, 1], ?_⟩⟩; rotate_left 1; repeat' (first | (with_reducible rfl) | exact trivial | ((conv => whnf); (first | (with_reducible refine And.intro ?_ ?_) | (first | with_reducible rfl | ((first | refine congrArg V.str ?_ | refine congrArg (V.int _) ?_ | refine congrArg V.bool ?_ | refine congrArg V.sl ?_); (first | with_reducible rfl | omega | (rw [List.map_append]; rfl) | rfl | (simp; done))) | (first | with_reducible rfl | omega | (rw [List.map_append]; rfl) | rfl | (simp; done)) | rfl)))))); (focus (exact ⟨by first | (rw [hk1, List.append_assoc]; rfl) | (rw [hk1]; rfl) | (rw [hk1]; done) | (simp [hk1]; done) | fail, by first | (simp at hal ⊢; omega) | (simp; done) | (simp at hal ⊢; done) | fail⟩)); (focus (first | (simp; done) | (dsimp only [List.length_cons]; omega) | fail)))
        | fail)


set_option maxRecDepth 100000 in
set_option maxHeartbeats 400000 in
theorem where_fn1 [Inhabited TabT] (v0 : Bs) (ws : List Bs) (c : Int) (hl : (v0 :: ws).length ≤ 1000000) : Fn Tryd.prog 14 [errV (v0 :: ws) c] (.sl (((v0 :: ws) : List Bs).map encW)) := by
  refine Fn.mk' base Tryd.func14 rfl rfl rfl ?_
  repeat' ((conv => whnf); (first
   | (with_reducible first | refine AW.seq ?_ | refine AW.region base (by kernel_rfl) ?_ | refine AW.cond ?_ | refine AW.block ?_ | refine AW.ret ?_ | refine AW.exit ?_ | refine AW.skip ?_ | refine Br.t ?_ | refine Br.f ?_)
   | ((with_reducible refine Or.inl ?_); (conv => whnf); (with_reducible refine And.intro LitSl.mk ?_))
   | refine Br.t ?_
   | refine Br.f ?_
   | (with_reducible refine Br.mk (fun hb => ?_) (fun hb => ?_) <;> (try rw [hb]) <;> (try simp only [List.length_map, decide_eq_true_eq, decide_eq_false_iff_not, Bool.not_eq_true', Bool.not_eq_false', Int.ofNat_lt, Int.ofNat_le, Int.not_lt, Int.not_le, Int.toNat_natCast] at hb))
   | ((with_reducible first | refine Or.inl (And.intro ?_ ?_) | refine And.intro ?_ ?_); (focus (first | with_reducible rfl | exact trivial | (exact ⟨rfl, trivial⟩) | (exact ⟨rfl, rfl, trivial⟩) | omega | (intro r hr; simp only [List.mem_singleton] at hr; subst hr; rfl)  | ((simp only [List.length_map] at *; omega)) | (simp only [in64]; omega) | assumption | (simp; done) | (simp [V.cells]; done) | (simp [in64, maxLen, limK] at *; omega) | ((show confB _ _ = true); kernel_rfl) | rfl)))
   | (intro row hrow; (try simp only [Int.toNat_natCast, List.length_map, toNat_pred, toNat_succ', toNat_zero', toNat_one'] at hrow); (first | (have hsm := same_map (by assumption) hrow; subst hsm; clear hrow) | (obtain ⟨p, hp, rfl⟩ := of_map hrow; clear hrow)))))
  refine AW.adopt 3 999999999 (el := 9) rfl rfl (rows_of 22 rfl) ?_
  refine AW.loop (fun (⟨a, r, rest⟩ : List Bs × List V × List Bs) => ((v0 :: ws) : List Bs) = a ++ rest ∧ a.length ≤ (((v0 :: ws) : List Bs)).length) (fun (⟨a, r, rest⟩ : List Bs × List V × List Bs) => ⟨[(0, errV rest c), (3, .own 0), (4, .ptr 1 0)], [.rows 9 (a.map encW), match a with | [] => .cells [.val (.pointer none)] | _ :: _ => .cells [.elt r 0]]⟩) (fun (⟨a, r, rest⟩ : List Bs × List V × List Bs) => rest.length) ([], [], ((v0 :: ws) : List Bs)) ?_ ?_ ?_
  · exact ⟨rfl, Nat.zero_le _⟩
  · (refine ⟨⟨[999999999, 3000], ?_⟩⟩; repeat' (first | (with_reducible rfl) | exact trivial | ((conv => whnf); (first | (with_reducible refine And.intro ?_ ?_) | (first | with_reducible rfl | ((first | refine congrArg V.str ?_ | refine congrArg (V.int _) ?_ | refine congrArg V.bool ?_ | refine congrArg V.sl ?_); (first | with_reducible rfl | omega | rfl | (simp; done))) | (first | with_reducible rfl | omega | rfl | (simp; done)) | rfl)))))
  · rintro ⟨a, r, rest⟩ ⟨hk1, hk2⟩
    have hk1 : ((v0 :: ws) : List Bs) = a ++ rest := hk1
    have hk2 : a.length ≤ (((v0 :: ws) : List Bs)).length := hk2
    have hal : a.length + rest.length = (((v0 :: ws) : List Bs)).length := by rw [hk1, List.length_append]
    rcases a with _ | ⟨w0, a⟩
    · rcases rest with _ | ⟨w1, _ | ⟨w2, rest⟩⟩
      · skip
        repeat' ((conv => whnf); (first
         | (with_reducible first | refine AW.seq ?_ | refine AW.region base (by kernel_rfl) ?_ | refine AW.cond ?_ | refine AW.block ?_ | refine AW.ret ?_ | refine AW.exit ?_ | refine AW.skip ?_ | refine Br.t ?_ | refine Br.f ?_)
         | ((with_reducible refine Or.inl ?_); (conv => whnf); (with_reducible refine And.intro LitSl.mk ?_))
         | refine Br.t ?_
         | refine Br.f ?_
         | (with_reducible refine Or.inr ⟨[?_], _, _, _, _, asXE0_fn ?_, ?_⟩)
         | (with_reducible refine Or.inr (Or.inr ⟨[?_], _, _, _, _, asXE0_fn ?_, ?_⟩))
         | (with_reducible refine Br.mk (fun hb => ?_) (fun hb => ?_) <;> (try rw [hb]) <;> (try simp only [List.length_map, decide_eq_true_eq, decide_eq_false_iff_not, Bool.not_eq_true', Bool.not_eq_false', Int.ofNat_lt, Int.ofNat_le, Int.not_lt, Int.not_le, Int.toNat_natCast] at hb))
         | ((with_reducible first | refine Or.inl (And.intro ?_ ?_) | refine And.intro ?_ ?_); (focus (first | with_reducible rfl | exact trivial | (exact ⟨rfl, trivial⟩) | (exact ⟨rfl, rfl, trivial⟩) | omega | (intro r hr; simp only [List.mem_singleton] at hr; subst hr; rfl)  | ((simp only [List.length_map] at *; omega)) | (simp only [in64]; omega) | assumption | (simp; done) | (simp [V.cells]; done) | (simp [in64, maxLen, limK] at *; omega) | ((show confB _ _ = true); kernel_rfl) | rfl)))
         | (intro row hrow; (try simp only [Int.toNat_natCast, List.length_map, toNat_pred, toNat_succ', toNat_zero', toNat_one'] at hrow); (first | (have hsm := same_map (by assumption) hrow; subst hsm; clear hrow) | (obtain ⟨p, hp, rfl⟩ := of_map hrow; clear hrow)))))
        all_goals (conv => whnf)
        all_goals (first
        | (exfalso; simp at hk1; done)
        | (exact congrArg V.sl (by first | (rw [hk1, List.append_nil]; done) | (rw [hk1, List.append_nil]; rfl) | fail))
        | ((refine ⟨([] ++ [w1], [.str w1, errV [] c], []), ?_⟩); (refine And.intro ?_ (And.intro ?_ ?_)); (focus (refine ⟨⟨[?_, 1], ?_⟩⟩; rotate_left 1; repeat' (first | (with_reducible rfl) | exact trivial | ((conv => whnf); (first | (with_reducible refine And.intro ?_ ?_) | (first | with_reducible rfl | ((first | refine congrArg V.str ?_ | refine congrArg (V.int _) ?_ | refine congrArg V.bool ?_ | refine congrArg V.sl ?_); (first | with_reducible rfl | omega | (rw [List.map_append]; rfl) | rfl | (simp; done))) | (first | with_reducible rfl | omega | (rw [List.map_append]; rfl) | rfl | (simp; done)) | rfl)))))); (focus (exact ⟨by first | (rw [hk1, List.append_assoc]; rfl) | (rw [hk1]; rfl) | (rw [hk1]; done) | (simp [hk1]; done) | fail, by first | (simp at hal ⊢; omega) | (simp; done) | (simp at hal ⊢; done) | fail⟩)); (focus (first | (simp; done) | (dsimp only [List.length_cons]; omega) | fail)))
        | ((refine ⟨([] ++ [w1], [.str w1, errV (w2 :: rest) c], (w2 :: rest)), ?_⟩); (refine And.intro ?_ (And.intro ?_ ?_)); (focus (refine ⟨⟨[?_, 1], ?_⟩⟩; rotate_left 1; repeat' (first | (with_reducible rfl) | exact trivial | ((conv => whnf); (first | (with_reducible refine And.intro ?_ ?_) | (first | with_reducible rfl | ((first | refine congrArg V.str ?_ | refine congrArg (V.int _) ?_ | refine congrArg V.bool ?_ | refine congrArg V.sl ?_); (first | with_reducible rfl | omega | (rw [List.map_append]; rfl) | rfl | (simp; done))) | (first | with_reducible rfl | omega | (rw [List.map_append]; rfl) | rfl | (simp; done)) | rfl)))))); (focus (exact ⟨by first | (rw [hk1, List.append_assoc]; rfl) | (rw [hk1]; rfl) | (rw [hk1]; done) | (simp [hk1]; done) | fail, by first | (simp at hal ⊢; omega) | (simp; done) | (simp at hal ⊢; done) | fail⟩)); (focus (first | (simp; done) | (dsimp only [List.length_cons]; omega) | fail)))
        | ((refine ⟨((w0 :: a) ++ [w1], [.str w1, errV [] c], []), ?_⟩); (refine And.intro ?_ (And.intro ?_ ?_)); (focus (refine ⟨⟨[?_, 1], ?_⟩⟩; rotate_left 1; repeat' (first | (with_reducible rfl) | exact trivial | ((conv => whnf); (first | (with_reducible refine And.intro ?_ ?_) | (first | with_reducible rfl | ((first | refine congrArg V.str ?_ | refine congrArg (V.int _) ?_ | refine congrArg V.bool ?_ | refine congrArg V.sl ?_); (first | with_reducible rfl | omega | (rw [List.map_append]; rfl) | rfl | (simp; done))) | (first | with_reducible rfl | omega | (rw [List.map_append]; rfl) | rfl | (simp; done)) | rfl)))))); (focus (exact ⟨by first | (rw [hk1, List.append_assoc]; rfl) | (rw [hk1]; rfl) | (rw [hk1]; done) | (simp [hk1]; done) | fail, by first | (simp at hal ⊢; omega) | (simp; done) | (simp at hal ⊢; done) | fail⟩)); (focus (first | (simp; done) | (dsimp only [List.length_cons]; omega) | fail)))
        | ((refine ⟨((w0 :: a) ++ [w1], [.str w1, errV (w2 :: rest) c], (w2 :: rest)), ?_⟩); (refine And.intro ?_ (And.intro ?_ ?_)); (focus (refine ⟨⟨[?_, 1], ?_⟩⟩; rotate_left 1; repeat' (first | (with_reducible rfl) | exact trivial | ((conv => whnf); (first | (with_reducible refine And.intro ?_ ?_) | (first | with_reducible rfl | ((first | refine congrArg V.str ?_ | refine congrArg (V.int _) ?_ | refine congrArg V.bool ?_ | refine congrArg V.sl ?_); (first | with_reducible rfl | omega | (rw [List.map_append]; rfl) | rfl | (simp; done))) | (first | with_reducible rfl | omega | (rw [List.map_append]; rfl) | rfl | (simp; done)) | rfl)))))); (focus (exact ⟨by first | (rw [hk1, List.append_assoc]; rfl) | (rw [hk1]; rfl) | (rw [hk1]; done) | (simp [hk1]; done) | fail, by first | (simp at hal ⊢; omega) | (simp; done) | (simp at hal ⊢; done) | fail⟩)); (focus (first | (simp; done) | (dsimp only [List.length_cons]; omega) | fail)))
        | fail)
      · skip
        repeat' ((conv => whnf); (first
         | (with_reducible first | refine AW.seq ?_ | refine AW.region base (by kernel_rfl) ?_ | refine AW.cond ?_ | refine AW.block ?_ | refine AW.ret ?_ | refine AW.exit ?_ | refine AW.skip ?_ | refine Br.t ?_ | refine Br.f ?_)
         | ((with_reducible refine Or.inl ?_); (conv => whnf); (with_reducible refine And.intro LitSl.mk ?_))
         | refine Br.t ?_
         | refine Br.f ?_
         | (with_reducible refine Or.inr ⟨[?_], _, _, _, _, asX0_fn ?_ ?_ ?_, ?_⟩)
         | (with_reducible refine Or.inr (Or.inr ⟨[?_], _, _, _, _, asX0_fn ?_ ?_ ?_, ?_⟩))
         | (with_reducible refine Br.mk (fun hb => ?_) (fun hb => ?_) <;> (try rw [hb]) <;> (try simp only [List.length_map, decide_eq_true_eq, decide_eq_false_iff_not, Bool.not_eq_true', Bool.not_eq_false', Int.ofNat_lt, Int.ofNat_le, Int.not_lt, Int.not_le, Int.toNat_natCast] at hb))
         | ((with_reducible first | refine Or.inl (And.intro ?_ ?_) | refine And.intro ?_ ?_); (focus (first | with_reducible rfl | exact trivial | (exact ⟨rfl, trivial⟩) | (exact ⟨rfl, rfl, trivial⟩) | omega | (intro r hr; simp only [List.mem_singleton] at hr; subst hr; rfl)  | ((simp only [List.length_map] at *; omega)) | (simp only [in64]; omega) | assumption | (simp; done) | (simp [V.cells]; done) | (simp [in64, maxLen, limK] at *; omega) | ((show confB _ _ = true); kernel_rfl) | rfl)))
         | (intro row hrow; (try simp only [Int.toNat_natCast, List.length_map, toNat_pred, toNat_succ', toNat_zero', toNat_one'] at hrow); (first | (have hsm := same_map (by assumption) hrow; subst hsm; clear hrow) | (obtain ⟨p, hp, rfl⟩ := of_map hrow; clear hrow)))))
        all_goals (conv => whnf)
        all_goals (first
        | (exfalso; simp at hk1; done)
        | (exact congrArg V.sl (by first | (rw [hk1, List.append_nil]; done) | (rw [hk1, List.append_nil]; rfl) | fail))
        | ((refine ⟨([] ++ [w1], [.str w1, errV [] c], []), ?_⟩); (refine And.intro ?_ (And.intro ?_ ?_)); (focus (refine ⟨⟨[?_, 1], ?_⟩⟩; rotate_left 1; repeat' (first | (with_reducible rfl) | exact trivial | ((conv => whnf); (first | (with_reducible refine And.intro ?_ ?_) | (first | with_reducible rfl | ((first | refine congrArg V.str ?_ | refine congrArg (V.int _) ?_ | refine congrArg V.bool ?_ | refine congrArg V.sl ?_); (first | with_reducible rfl | omega | (rw [List.map_append]; rfl) | rfl | (simp; done))) | (first | with_reducible rfl | omega | (rw [List.map_append]; rfl) | rfl | (simp; done)) | rfl)))))); (focus (exact ⟨by first | (rw [hk1, List.append_assoc]; rfl) | (rw [hk1]; rfl) | (rw [hk1]; done) | (simp [hk1]; done) | fail, by first | (simp at hal ⊢; omega) | (simp; done) | (simp at hal ⊢; done) | fail⟩)); (focus (first | (simp; done) | (dsimp only [List.length_cons]; omega) | fail)))
        | ((refine ⟨([] ++ [w1], [.str w1, errV (w2 :: rest) c], (w2 :: rest)), ?_⟩); (refine And.intro ?_ (And.intro ?_ ?_)); (focus (refine ⟨⟨[?_, 1], ?_⟩⟩; rotate_left 1; repeat' (first | (with_reducible rfl) | exact trivial | ((conv => whnf); (first | (with_reducible refine And.intro ?_ ?_) | (first | with_reducible rfl | ((first | refine congrArg V.str ?_ | refine congrArg (V.int _) ?_ | refine congrArg V.bool ?_ | refine congrArg V.sl ?_); (first | with_reducible rfl | omega | (rw [List.map_append]; rfl) | rfl | (simp; done))) | (first | with_reducible rfl | omega | (rw [List.map_append]; rfl) | rfl | (simp; done)) | rfl)))))); (focus (exact ⟨by first | (rw [hk1, List.append_assoc]; rfl) | (rw [hk1]; rfl) | (rw [hk1]; done) | (simp [hk1]; done) | fail, by first | (simp at hal ⊢; omega) | (simp; done) | (simp at hal ⊢; done) | fail⟩)); (focus (first | (simp; done) | (dsimp only [List.length_cons]; omega) | fail)))
        | ((refine ⟨((w0 :: a) ++ [w1], [.str w1, errV [] c], []), ?_⟩); (refine And.intro ?_ (And.intro ?_ ?_)); (focus (refine ⟨⟨[?_, 1], ?_⟩⟩; rotate_left 1; repeat' (first | (with_reducible rfl) | exact trivial | ((conv => whnf); (first | (with_reducible refine And.intro ?_ ?_) | (first | with_reducible rfl | ((first | refine congrArg V.str ?_ | refine congrArg (V.int _) ?_ | refine congrArg V.bool ?_ | refine congrArg V.sl ?_); (first | with_reducible rfl | omega | (rw [List.map_append]; rfl) | rfl | (simp; done))) | (first | with_reducible rfl | omega | (rw [List.map_append]; rfl) | rfl | (simp; done)) | rfl)))))); (focus (exact ⟨by first | (rw [hk1, List.append_assoc]; rfl) | (rw [hk1]; rfl) | (rw [hk1]; done) | (simp [hk1]; done) | fail, by first | (simp at hal ⊢; omega) | (simp; done) | (simp at hal ⊢; done) | fail⟩)); (focus (first | (simp; done) | (dsimp only [List.length_cons]; omega) | fail)))
        | ((refine ⟨((w0 :: a) ++ [w1], [.str w1, errV (w2 :: rest) c], (w2 :: rest)), ?_⟩); (refine And.intro ?_ (And.intro ?_ ?_)); (focus (refine ⟨⟨[?_, 1], ?_⟩⟩; rotate_left 1; repeat' (first | (with_reducible rfl) | exact trivial | ((conv => whnf); (first | (with_reducible refine And.intro ?_ ?_) | (first | with_reducible rfl | ((first | refine congrArg V.str ?_ | refine congrArg (V.int _) ?_ | refine congrArg V.bool ?_ | refine congrArg V.sl ?_); (first | with_reducible rfl | omega | (rw [List.map_append]; rfl) | rfl | (simp; done))) | (first | with_reducible rfl | omega | (rw [List.map_append]; rfl) | rfl | (simp; done)) | rfl)))))); (focus (exact ⟨by first | (rw [hk1, List.append_assoc]; rfl) | (rw [hk1]; rfl) | (rw [hk1]; done) | (simp [hk1]; done) | fail, by first | (simp at hal ⊢; omega) | (simp; done) | (simp at hal ⊢; done) | fail⟩)); (focus (first | (simp; done) | (dsimp only [List.length_cons]; omega) | fail)))
        | fail)
      · skip
        repeat' ((conv => whnf); (first
         | (with_reducible first | refine AW.seq ?_ | refine AW.region base (by kernel_rfl) ?_ | refine AW.cond ?_ | refine AW.block ?_ | refine AW.ret ?_ | refine AW.exit ?_ | refine AW.skip ?_ | refine Br.t ?_ | refine Br.f ?_)
         | ((with_reducible refine Or.inl ?_); (conv => whnf); (with_reducible refine And.intro LitSl.mk ?_))
         | refine Br.t ?_
         | refine Br.f ?_
         | (with_reducible refine Or.inr ⟨[?_], _, _, _, _, asX0_fn ?_ ?_ ?_, ?_⟩)
         | (with_reducible refine Or.inr (Or.inr ⟨[?_], _, _, _, _, asX0_fn ?_ ?_ ?_, ?_⟩))
         | (with_reducible refine Br.mk (fun hb => ?_) (fun hb => ?_) <;> (try rw [hb]) <;> (try simp only [List.length_map, decide_eq_true_eq, decide_eq_false_iff_not, Bool.not_eq_true', Bool.not_eq_false', Int.ofNat_lt, Int.ofNat_le, Int.not_lt, Int.not_le, Int.toNat_natCast] at hb))
         | ((with_reducible first | refine Or.inl (And.intro ?_ ?_) | refine And.intro ?_ ?_); (focus (first | with_reducible rfl | exact trivial | (exact ⟨rfl, trivial⟩) | (exact ⟨rfl, rfl, trivial⟩) | omega | (intro r hr; simp only [List.mem_singleton] at hr; subst hr; rfl)  | ((simp only [List.length_map] at *; omega)) | (simp only [in64]; omega) | assumption | (simp; done) | (simp [V.cells]; done) | (simp [in64, maxLen, limK] at *; omega) | ((show confB _ _ = true); kernel_rfl) | rfl)))
         | (intro row hrow; (try simp only [Int.toNat_natCast, List.length_map, toNat_pred, toNat_succ', toNat_zero', toNat_one'] at hrow); (first | (have hsm := same_map (by assumption) hrow; subst hsm; clear hrow) | (obtain ⟨p, hp, rfl⟩ := of_map hrow; clear hrow)))))
        all_goals (conv => whnf)
        all_goals (first
        | (exfalso; simp at hk1; done)
        | (exact congrArg V.sl (by first | (rw [hk1, List.append_nil]; done) | (rw [hk1, List.append_nil]; rfl) | fail))
        | ((refine ⟨([] ++ [w1], [.str w1, errV [] c], []), ?_⟩); (refine And.intro ?_ (And.intro ?_ ?_)); (focus (refine ⟨⟨[?_, 1], ?_⟩⟩; rotate_left 1; repeat' (first | (with_reducible rfl) | exact trivial | ((conv => whnf); (first | (with_reducible refine And.intro ?_ ?_) | (first | with_reducible rfl | ((first | refine congrArg V.str ?_ | refine congrArg (V.int _) ?_ | refine congrArg V.bool ?_ | refine congrArg V.sl ?_); (first | with_reducible rfl | omega | (rw [List.map_append]; rfl) | rfl | (simp; done))) | (first | with_reducible rfl | omega | (rw [List.map_append]; rfl) | rfl | (simp; done)) | rfl)))))); (focus (exact ⟨by first | (rw [hk1, List.append_assoc]; rfl) | (rw [hk1]; rfl) | (rw [hk1]; done) | (simp [hk1]; done) | fail, by first | (simp at hal ⊢; omega) | (simp; done) | (simp at hal ⊢; done) | fail⟩)); (focus (first | (simp; done) | (dsimp only [List.length_cons]; omega) | fail)))
        | ((refine ⟨([] ++ [w1], [.str w1, errV (w2 :: rest) c], (w2 :: rest)), ?_⟩); (refine And.intro ?_ (And.intro ?_ ?_)); (focus (refine ⟨⟨[?_, 1], ?_⟩⟩; rotate_left 1; repeat' (first | (with_reducible rfl) | exact trivial | ((conv => whnf); (first | (with_reducible refine And.intro ?_ ?_) | (first | with_reducible rfl | ((first | refine congrArg V.str ?_ | refine congrArg (V.int _) ?_ | refine congrArg V.bool ?_ | refine congrArg V.sl ?_); (first | with_reducible rfl | omega | (rw [List.map_append]; rfl) | rfl | (simp; done))) | (first | with_reducible rfl | omega | (rw [List.map_append]; rfl) | rfl | (simp; done)) | rfl)))))); (focus (exact ⟨by first | (rw [hk1, List.append_assoc]; rfl) | (rw [hk1]; rfl) | (rw [hk1]; done) | (simp [hk1]; done) | fail, by first | (simp at hal ⊢; omega) | (simp; done) | (simp at hal ⊢; done) | fail⟩)); (focus (first | (simp; done) | (dsimp only [List.length_cons]; omega) | fail)))
        | ((refine ⟨((w0 :: a) ++ [w1], [.str w1, errV [] c], []), ?_⟩); (refine And.intro ?_ (And.intro ?_ ?_)); (focus (refine ⟨⟨[?_, 1], ?_⟩⟩; rotate_left 1; repeat' (first | (with_reducible rfl) | exact trivial | ((conv => whnf); (first | (with_reducible refine And.intro ?_ ?_) | (first | with_reducible rfl | ((first | refine congrArg V.str ?_ | refine congrArg (V.int _) ?_ | refine congrArg V.bool ?_ | refine congrArg V.sl ?_); (first | with_reducible rfl | omega | (rw [List.map_append]; rfl) | rfl | (simp; done))) | (first | with_reducible rfl | omega | (rw [List.map_append]; rfl) | rfl | (simp; done)) | rfl)))))); (focus (exact ⟨by first | (rw [hk1, List.append_assoc]; rfl) | (rw [hk1]; rfl) | (rw [hk1]; done) | (simp [hk1]; done) | fail, by first | (simp at hal ⊢; omega) | (simp; done) | (simp at hal ⊢; done) | fail⟩)); (focus (first | (simp; done) | (dsimp only [List.length_cons]; omega) | fail)))
        | ((refine ⟨((w0 :: a) ++ [w1], [.str w1, errV (w2 :: rest) c], (w2 :: rest)), ?_⟩); (refine And.intro ?_ (And.intro ?_ ?_)); (focus (refine ⟨⟨[?_, 1], ?_⟩⟩; rotate_left 1; repeat' (first | (with_reducible rfl) | exact trivial | ((conv => whnf); (first | (with_reducible refine And.intro ?_ ?_) | (first | with_reducible rfl | ((first | refine congrArg V.str ?_ | refine congrArg (V.int _) ?_ | refine congrArg V.bool ?_ | refine congrArg V.sl ?_); (first | with_reducible rfl | omega | (rw [List.map_append]; rfl) | rfl | (simp; done))) | (first | with_reducible rfl | omega | (rw [List.map_append]; rfl) | rfl | (simp; done)) | rfl)))))); (focus (exact ⟨by first | (rw [hk1, List.append_assoc]; rfl) | (rw [hk1]; rfl) | (rw [hk1]; done) | (simp [hk1]; done) | fail, by first | (simp at hal ⊢; omega) | (simp; done) | (simp at hal ⊢; done) | fail⟩)); (focus (first | (simp; done) | (dsimp only [List.length_cons]; omega) | fail)))
        | fail)
    · rcases rest with _ | ⟨w1, _ | ⟨w2, rest⟩⟩
      · skip
        repeat' ((conv => whnf); (first
         | (with_reducible first | refine AW.seq ?_ | refine AW.region base (by kernel_rfl) ?_ | refine AW.cond ?_ | refine AW.block ?_ | refine AW.ret ?_ | refine AW.exit ?_ | refine AW.skip ?_ | refine Br.t ?_ | refine Br.f ?_)
         | ((with_reducible refine Or.inl ?_); (conv => whnf); (with_reducible refine And.intro LitSl.mk ?_))
         | refine Br.t ?_
         | refine Br.f ?_
         | (with_reducible refine Or.inr ⟨[?_], _, _, _, _, asXE1_fn ?_ ?_, ?_⟩)
         | (with_reducible refine Or.inr (Or.inr ⟨[?_], _, _, _, _, asXE1_fn ?_ ?_, ?_⟩))
         | (with_reducible refine Br.mk (fun hb => ?_) (fun hb => ?_) <;> (try rw [hb]) <;> (try simp only [List.length_map, decide_eq_true_eq, decide_eq_false_iff_not, Bool.not_eq_true', Bool.not_eq_false', Int.ofNat_lt, Int.ofNat_le, Int.not_lt, Int.not_le, Int.toNat_natCast] at hb))
         | ((with_reducible first | refine Or.inl (And.intro ?_ ?_) | refine And.intro ?_ ?_); (focus (first | with_reducible rfl | exact trivial | (exact ⟨rfl, trivial⟩) | (exact ⟨rfl, rfl, trivial⟩) | omega | (intro r hr; simp only [List.mem_singleton] at hr; subst hr; rfl)  | ((simp only [List.length_map] at *; omega)) | (simp only [in64]; omega) | assumption | (simp; done) | (simp [V.cells]; done) | (simp [in64, maxLen, limK] at *; omega) | ((show confB _ _ = true); kernel_rfl) | rfl)))
         | (intro row hrow; (try simp only [Int.toNat_natCast, List.length_map, toNat_pred, toNat_succ', toNat_zero', toNat_one'] at hrow); (first | (have hsm := same_map (by assumption) hrow; subst hsm; clear hrow) | (obtain ⟨p, hp, rfl⟩ := of_map hrow; clear hrow)))))
        all_goals (conv => whnf)
        all_goals (first
        | (exfalso; simp at hk1; done)
        | (exact congrArg V.sl (by first | (rw [hk1, List.append_nil]; done) | (rw [hk1, List.append_nil]; rfl) | fail))
        | ((refine ⟨([] ++ [w1], [.str w1, errV [] c], []), ?_⟩); (refine And.intro ?_ (And.intro ?_ ?_)); (focus (refine ⟨⟨[?_, 1], ?_⟩⟩; rotate_left 1; repeat' (first | (with_reducible rfl) | exact trivial | ((conv => whnf); (first | (with_reducible refine And.intro ?_ ?_) | (first | with_reducible rfl | ((first | refine congrArg V.str ?_ | refine congrArg (V.int _) ?_ | refine congrArg V.bool ?_ | refine congrArg V.sl ?_); (first | with_reducible rfl | omega | (rw [List.map_append]; rfl) | rfl | (simp; done))) | (first | with_reducible rfl | omega | (rw [List.map_append]; rfl) | rfl | (simp; done)) | rfl)))))); (focus (exact ⟨by first | (rw [hk1, List.append_assoc]; rfl) | (rw [hk1]; rfl) | (rw [hk1]; done) | (simp [hk1]; done) | fail, by first | (simp at hal ⊢; omega) | (simp; done) | (simp at hal ⊢; done) | fail⟩)); (focus (first | (simp; done) | (dsimp only [List.length_cons]; omega) | fail)))
        | ((refine ⟨([] ++ [w1], [.str w1, errV (w2 :: rest) c], (w2 :: rest)), ?_⟩); (refine And.intro ?_ (And.intro ?_ ?_)); (focus (refine ⟨⟨[?_, 1], ?_⟩⟩; rotate_left 1; repeat' (first | (with_reducible rfl) | exact trivial | ((conv => whnf); (first | (with_reducible refine And.intro ?_ ?_) | (first | with_reducible rfl | ((first | refine congrArg V.str ?_ | refine congrArg (V.int _) ?_ | refine congrArg V.bool ?_ | refine congrArg V.sl ?_); (first | with_reducible rfl | omega | (rw [List.map_append]; rfl) | rfl | (simp; done))) | (first | with_reducible rfl | omega | (rw [List.map_append]; rfl) | rfl | (simp; done)) | rfl)))))); (focus (exact ⟨by first | (rw [hk1, List.append_assoc]; rfl) | (rw [hk1]; rfl) | (rw [hk1]; done) | (simp [hk1]; done) | fail, by first | (simp at hal ⊢; omega) | (simp; done) | (simp at hal ⊢; done) | fail⟩)); (focus (first | (simp; done) | (dsimp only [List.length_cons]; omega) | fail)))
        | ((refine ⟨((w0 :: a) ++ [w1], [.str w1, errV [] c], []), ?_⟩); (refine And.intro ?_ (And.intro ?_ ?_)); (focus (refine ⟨⟨[?_, 1], ?_⟩⟩; rotate_left 1; repeat' (first | (with_reducible rfl) | exact trivial | ((conv => whnf); (first | (with_reducible refine And.intro ?_ ?_) | (first | with_reducible rfl | ((first | refine congrArg V.str ?_ | refine congrArg (V.int _) ?_ | refine congrArg V.bool ?_ | refine congrArg V.sl ?_); (first | with_reducible rfl | omega | (rw [List.map_append]; rfl) | rfl | (simp; done))) | (first | with_reducible rfl | omega | (rw [List.map_append]; rfl) | rfl | (simp; done)) | rfl)))))); (focus (exact ⟨by first | (rw [hk1, List.append_assoc]; rfl) | (rw [hk1]; rfl) | (rw [hk1]; done) | (simp [hk1]; done) | fail, by first | (simp at hal ⊢; omega) | (simp; done) | (simp at hal ⊢; done) | fail⟩)); (focus (first | (simp; done) | (dsimp only [List.length_cons]; omega) | fail)))
        | ((refine ⟨((w0 :: a) ++ [w1], [.str w1, errV (w2 :: rest) c], (w2 :: rest)), ?_⟩); (refine And.intro ?_ (And.intro ?_ ?_)); (focus (refine ⟨⟨[?_, 1], ?_⟩⟩; rotate_left 1; repeat' (first | (with_reducible rfl) | exact trivial | ((conv => whnf); (first | (with_reducible refine And.intro ?_ ?_) | (first | with_reducible rfl | ((first | refine congrArg V.str ?_ | refine congrArg (V.int _) ?_ | refine congrArg V.bool ?_ | refine congrArg V.sl ?_); (first | with_reducible rfl | omega | (rw [List.map_append]; rfl) | rfl | (simp; done))) | (first | with_reducible rfl | omega | (rw [List.map_append]; rfl) | rfl | (simp; done)) | rfl)))))); (focus (exact ⟨by first | (rw [hk1, List.append_assoc]; rfl) | (rw [hk1]; rfl) | (rw [hk1]; done) | (simp [hk1]; done) | fail, by first | (simp at hal ⊢; omega) | (simp; done) | (simp at hal ⊢; done) | fail⟩)); (focus (first | (simp; done) | (dsimp only [List.length_cons]; omega) | fail)))
        | fail)
      · skip
        repeat' ((conv => whnf); (first
         | (with_reducible first | refine AW.seq ?_ | refine AW.region base (by kernel_rfl) ?_ | refine AW.cond ?_ | refine AW.block ?_ | refine AW.ret ?_ | refine AW.exit ?_ | refine AW.skip ?_ | refine Br.t ?_ | refine Br.f ?_)
         | ((with_reducible refine Or.inl ?_); (conv => whnf); (with_reducible refine And.intro LitSl.mk ?_))
         | refine Br.t ?_
         | refine Br.f ?_
         | (with_reducible refine Or.inr ⟨[?_], _, _, _, _, asX1_fn ?_ ?_ ?_ ?_, ?_⟩)
         | (with_reducible refine Or.inr (Or.inr ⟨[?_], _, _, _, _, asX1_fn ?_ ?_ ?_ ?_, ?_⟩))
         | (with_reducible refine Br.mk (fun hb => ?_) (fun hb => ?_) <;> (try rw [hb]) <;> (try simp only [List.length_map, decide_eq_true_eq, decide_eq_false_iff_not, Bool.not_eq_true', Bool.not_eq_false', Int.ofNat_lt, Int.ofNat_le, Int.not_lt, Int.not_le, Int.toNat_natCast] at hb))
         | ((with_reducible first | refine Or.inl (And.intro ?_ ?_) | refine And.intro ?_ ?_); (focus (first | with_reducible rfl | exact trivial | (exact ⟨rfl, trivial⟩) | (exact ⟨rfl, rfl, trivial⟩) | omega | (intro r hr; simp only [List.mem_singleton] at hr; subst hr; rfl)  | ((simp only [List.length_map] at *; omega)) | (simp only [in64]; omega) | assumption | (simp; done) | (simp [V.cells]; done) | (simp [in64, maxLen, limK] at *; omega) | ((show confB _ _ = true); kernel_rfl) | rfl)))
         | (intro row hrow; (try simp only [Int.toNat_natCast, List.length_map, toNat_pred, toNat_succ', toNat_zero', toNat_one'] at hrow); (first | (have hsm := same_map (by assumption) hrow; subst hsm; clear hrow) | (obtain ⟨p, hp, rfl⟩ := of_map hrow; clear hrow)))))
        all_goals (conv => whnf)
        all_goals (first
        | (exfalso; simp at hk1; done)
        | (exact congrArg V.sl (by first | (rw [hk1, List.append_nil]; done) | (rw [hk1, List.append_nil]; rfl) | fail))
        | ((refine ⟨([] ++ [w1], [.str w1, errV [] c], []), ?_⟩); (refine And.intro ?_ (And.intro ?_ ?_)); (focus (refine ⟨⟨[?_, 1], ?_⟩⟩; rotate_left 1; repeat' (first | (with_reducible rfl) | exact trivial | ((conv => whnf); (first | (with_reducible refine And.intro ?_ ?_) | (first | with_reducible rfl | ((first | refine congrArg V.str ?_ | refine congrArg (V.int _) ?_ | refine congrArg V.bool ?_ | refine congrArg V.sl ?_); (first | with_reducible rfl | omega | (rw [List.map_append]; rfl) | rfl | (simp; done))) | (first | with_reducible rfl | omega | (rw [List.map_append]; rfl) | rfl | (simp; done)) | rfl)))))); (focus (exact ⟨by first | (rw [hk1, List.append_assoc]; rfl) | (rw [hk1]; rfl) | (rw [hk1]; done) | (simp [hk1]; done) | fail, by first | (simp at hal ⊢; omega) | (simp; done) | (simp at hal ⊢; done) | fail⟩)); (focus (first | (simp; done) | (dsimp only [List.length_cons]; omega) | fail)))
        | ((refine ⟨([] ++ [w1], [.str w1, errV (w2 :: rest) c], (w2 :: rest)), ?_⟩); (refine And.intro ?_ (And.intro ?_ ?_)); (focus (refine ⟨⟨[?_, 1], ?_⟩⟩; rotate_left 1; repeat' (first | (with_reducible rfl) | exact trivial | ((conv => whnf); (first | (with_reducible refine And.intro ?_ ?_) | (first | with_reducible rfl | ((first | refine congrArg V.str ?_ | refine congrArg (V.int _) ?_ | refine congrArg V.bool ?_ | refine congrArg V.sl ?_); (first | with_reducible rfl | omega | (rw [List.map_append]; rfl) | rfl | (simp; done))) | (first | with_reducible rfl | omega | (rw [List.map_append]; rfl) | rfl | (simp; done)) | rfl)))))); (focus (exact ⟨by first | (rw [hk1, List.append_assoc]; rfl) | (rw [hk1]; rfl) | (rw [hk1]; done) | (simp [hk1]; done) | fail, by first | (simp at hal ⊢; omega) | (simp; done) | (simp at hal ⊢; done) | fail⟩)); (focus (first | (simp; done) | (dsimp only [List.length_cons]; omega) | fail)))
        | ((refine ⟨((w0 :: a) ++ [w1], [.str w1, errV [] c], []), ?_⟩); (refine And.intro ?_ (And.intro ?_ ?_)); (focus (refine ⟨⟨[?_, 1], ?_⟩⟩; rotate_left 1; repeat' (first | (with_reducible rfl) | exact trivial | ((conv => whnf); (first | (with_reducible refine And.intro ?_ ?_) | (first | with_reducible rfl | ((first | refine congrArg V.str ?_ | refine congrArg (V.int _) ?_ | refine congrArg V.bool ?_ | refine congrArg V.sl ?_); (first | with_reducible rfl | omega | (rw [List.map_append]; rfl) | rfl | (simp; done))) | (first | with_reducible rfl | omega | (rw [List.map_append]; rfl) | rfl | (simp; done)) | rfl)))))); (focus (exact ⟨by first | (rw [hk1, List.append_assoc]; rfl) | (rw [hk1]; rfl) | (rw [hk1]; done) | (simp [hk1]; done) | fail, by first | (simp at hal ⊢; omega) | (simp; done) | (simp at hal ⊢; done) | fail⟩)); (focus (first | (simp; done) | (dsimp only [List.length_cons]; omega) | fail)))
        | ((refine ⟨((w0 :: a) ++ [w1], [.str w1, errV (w2 :: rest) c], (w2 :: rest)), ?_⟩); (refine And.intro ?_ (And.intro ?_ ?_)); (focus (refine ⟨⟨[?_, 1], ?_⟩⟩; rotate_left 1; repeat' (first | (with_reducible rfl) | exact trivial | ((conv => whnf); (first | (with_reducible refine And.intro ?_ ?_) | (first | with_reducible rfl | ((first | refine congrArg V.str ?_ | refine congrArg (V.int _) ?_ | refine congrArg V.bool ?_ | refine congrArg V.sl ?_); (first | with_reducible rfl | omega | (rw [List.map_append]; rfl) | rfl | (simp; done))) | (first | with_reducible rfl | omega | (rw [List.map_append]; rfl) | rfl | (simp; done)) | rfl)))))); (focus (exact ⟨by first | (rw [hk1, List.append_assoc]; rfl) | (rw [hk1]; rfl) | (rw [hk1]; done) | (simp [hk1]; done) | fail, by first | (simp at hal ⊢; omega) | (simp; done) | (simp at hal ⊢; done) | fail⟩)); (focus (first | (simp; done) | (dsimp only [List.length_cons]; omega) | fail)))
        | fail)
      · skip
        repeat' ((conv => whnf); (first
         | (with_reducible first | refine AW.seq ?_ | refine AW.region base (by kernel_rfl) ?_ | refine AW.cond ?_ | refine AW.block ?_ | refine AW.ret ?_ | refine AW.exit ?_ | refine AW.skip ?_ | refine Br.t ?_ | refine Br.f ?_)
         | ((with_reducible refine Or.inl ?_); (conv => whnf); (with_reducible refine And.intro LitSl.mk ?_))
         | refine Br.t ?_
         | refine Br.f ?_
         | (with_reducible refine Or.inr ⟨[?_], _, _, _, _, asX1_fn ?_ ?_ ?_ ?_, ?_⟩)
         | (with_reducible refine Or.inr (Or.inr ⟨[?_], _, _, _, _, asX1_fn ?_ ?_ ?_ ?_, ?_⟩))
         | (with_reducible refine Br.mk (fun hb => ?_) (fun hb => ?_) <;> (try rw [hb]) <;> (try simp only [List.length_map, decide_eq_true_eq, decide_eq_false_iff_not, Bool.not_eq_true', Bool.not_eq_false', Int.ofNat_lt, Int.ofNat_le, Int.not_lt, Int.not_le, Int.toNat_natCast] at hb))
         | ((with_reducible first | refine Or.inl (And.intro ?_ ?_) | refine And.intro ?_ ?_); (focus (first | with_reducible rfl | exact trivial | (exact ⟨rfl, trivial⟩) | (exact ⟨rfl, rfl, trivial⟩) | omega | (intro r hr; simp only [List.mem_singleton] at hr; subst hr; rfl)  | ((simp only [List.length_map] at *; omega)) | (simp only [in64]; omega) | assumption | (simp; done) | (simp [V.cells]; done) | (simp [in64, maxLen, limK] at *; omega) | ((show confB _ _ = true); kernel_rfl) | rfl)))
         | (intro row hrow; (try simp only [Int.toNat_natCast, List.length_map, toNat_pred, toNat_succ', toNat_zero', toNat_one'] at hrow); (first | (have hsm := same_map (by assumption) hrow; subst hsm; clear hrow) | (obtain ⟨p, hp, rfl⟩ := of_map hrow; clear hrow)))))
        all_goals (conv => whnf)
        all_goals (first
        | (exfalso; simp at hk1; done)
        | (exact congrArg V.sl (by first | (rw [hk1, List.append_nil]; done) | (rw [hk1, List.append_nil]; rfl) | fail))
        | ((refine ⟨([] ++ [w1], [.str w1, errV [] c], []), ?_⟩); (refine And.intro ?_ (And.intro ?_ ?_)); (focus (refine ⟨⟨[?_, 1], ?_⟩⟩; rotate_left 1; repeat' (first | (with_reducible rfl) | exact trivial | ((conv => whnf); (first | (with_reducible refine And.intro ?_ ?_) | (first | with_reducible rfl | ((first | refine congrArg V.str ?_ | refine congrArg (V.int _) ?_ | refine congrArg V.bool ?_ | refine congrArg V.sl ?_); (first | with_reducible rfl | omega | (rw [List.map_append]; rfl) | rfl | (simp; done))) | (first | with_reducible rfl | omega | (rw [List.map_append]; rfl) | rfl | (simp; done)) | rfl)))))); (focus (exact ⟨by first | (rw [hk1, List.append_assoc]; rfl) | (rw [hk1]; rfl) | (rw [hk1]; done) | (simp [hk1]; done) | fail, by first | (simp at hal ⊢; omega) | (simp; done) | (simp at hal ⊢; done) | fail⟩)); (focus (first | (simp; done) | (dsimp only [List.length_cons]; omega) | fail)))
        | ((refine ⟨([] ++ [w1], [.str w1, errV (w2 :: rest) c], (w2 :: rest)), ?_⟩); (refine And.intro ?_ (And.intro ?_ ?_)); (focus (refine ⟨⟨[?_, 1], ?_⟩⟩; rotate_left 1; repeat' (first | (with_reducible rfl) | exact trivial | ((conv => whnf); (first | (with_reducible refine And.intro ?_ ?_) | (first | with_reducible rfl | ((first | refine congrArg V.str ?_ | refine congrArg (V.int _) ?_ | refine congrArg V.bool ?_ | refine congrArg V.sl ?_); (first | with_reducible rfl | omega | (rw [List.map_append]; rfl) | rfl | (simp; done))) | (first | with_reducible rfl | omega | (rw [List.map_append]; rfl) | rfl | (simp; done)) | rfl)))))); (focus (exact ⟨by first | (rw [hk1, List.append_assoc]; rfl) | (rw [hk1]; rfl) | (rw [hk1]; done) | (simp [hk1]; done) | fail, by first | (simp at hal ⊢; omega) | (simp; done) | (simp at hal ⊢; done) | fail⟩)); (focus (first | (simp; done) | (dsimp only [List.length_cons]; omega) | fail)))
        | ((refine ⟨((w0 :: a) ++ [w1], [.str w1, errV [] c], []), ?_⟩); (refine And.intro ?_ (And.intro ?_ ?_)); (focus (refine ⟨⟨[?_, 1], ?_⟩⟩; rotate_left 1; repeat' (first | (with_reducible rfl) | exact trivial | ((conv => whnf); (first | (with_reducible refine And.intro ?_ ?_) | (first | with_reducible rfl | ((first | refine congrArg V.str ?_ | refine congrArg (V.int _) ?_ | refine congrArg V.bool ?_ | refine congrArg V.sl ?_); (first | with_reducible rfl | omega | (rw [List.map_append]; rfl) | rfl | (simp; done))) | (first | with_reducible rfl | omega | (rw [List.map_append]; rfl) | rfl | (simp; done)) | rfl)))))); (focus (exact ⟨by first | (rw [hk1, List.append_assoc]; rfl) | (rw [hk1]; rfl) | (rw [hk1]; done) | (simp [hk1]; done) | fail, by first | (simp at hal ⊢; omega) | (simp; done) | (simp at hal ⊢; done) | fail⟩)); (focus (first | (simp; done) | (dsimp only [List.length_cons]; omega) | fail)))
        | ((refine ⟨((w0 :: a) ++ [w1], [.str w1, errV (w2 :: rest) c], (w2 :: rest)), ?_⟩); (refine And.intro ?_ (And.intro ?_ ?_)); (focus (refine ⟨⟨[?_, 1], ?_⟩⟩; rotate_left 1; repeat' (first | (with_reducible rfl) | exact trivial | ((conv => whnf); (first | (with_reducible refine And.intro ?_ ?_) | (first | with_reducible rfl | ((first | refine congrArg V.str ?_ | refine congrArg (V.int _) ?_ | refine congrArg V.bool ?_ | refine congrArg V.sl ?_); (first | with_reducible rfl | omega | (rw [List.map_append]; rfl) | rfl | (simp; done))) | (first | with_reducible rfl | omega | (rw [List.map_append]; rfl) | rfl | (simp; done)) | rfl)))))); (focus (exact ⟨by first | (rw [hk1, List.append_assoc]; rfl) | (rw [hk1]; rfl) | (rw [hk1]; done) | (simp [hk1]; done) | fail, by first | (simp at hal ⊢; omega) | (simp; done) | (simp at hal ⊢; done) | fail⟩)); (focus (first | (simp; done) | (dsimp only [List.length_cons]; omega) | fail)))
        | fail)


theorem where_fn [Inhabited TabT] : ∀ (ws : List Bs) (c : Int) (hl : ws.length ≤ 1000000), Fn Tryd.prog 14 [errV ws c] (.sl (ws.map encW))
  | [], c, _ => where_fn0 c
  | v0 :: ws, c, hl => where_fn1 v0 ws c hl

set_option maxRecDepth 100000 in
set_option maxHeartbeats 400000 in
theorem asX_nil [Inhabited TabT]  : FnM Tryd.prog 9 [noErr, .ifc 57 (.ptr 0 0)] [.cells [.val (.pointer none)]] (.bool false) [.cells [.val (.pointer none)]] := by
  refine FnM.mk' base Tryd.func9 rfl rfl rfl rfl ?_
  repeat' ((conv => whnf); (first
   | (with_reducible first | refine AW.seq ?_ | refine AW.region base (by kernel_rfl) ?_ | refine AW.cond ?_ | refine AW.block ?_ | refine AW.ret ?_ | refine AW.exit ?_ | refine AW.skip ?_ | refine Br.t ?_ | refine Br.f ?_)
   | ((with_reducible refine Or.inl ?_); (conv => whnf); (with_reducible refine And.intro LitSl.mk ?_))
   | refine Br.t ?_
   | refine Br.f ?_
   | (with_reducible refine Br.mk (fun hb => ?_) (fun hb => ?_) <;> (try rw [hb]) <;> (try simp only [List.length_map, decide_eq_true_eq, decide_eq_false_iff_not, Bool.not_eq_true', Bool.not_eq_false', Int.ofNat_lt, Int.ofNat_le, Int.not_lt, Int.not_le, Int.toNat_natCast] at hb))
   | ((with_reducible first | refine Or.inl (And.intro ?_ ?_) | refine And.intro ?_ ?_); (focus (first | with_reducible rfl | exact trivial | (exact ⟨rfl, trivial⟩) | (exact ⟨rfl, rfl, trivial⟩) | omega | (intro r hr; simp only [List.mem_singleton] at hr; subst hr; rfl)  | (simp only [in64]; omega) | assumption | (simp; done) | (simp [V.cells]; done) | (simp [in64, maxLen, limK] at *; omega) | ((show confB _ _ = true); kernel_rfl) | rfl)))
   | (intro row hrow; (try simp only [Int.toNat_natCast, List.length_map, toNat_pred, toNat_succ', toNat_zero', toNat_one'] at hrow); (first | (have hsm := same_map (by assumption) hrow; subst hsm; clear hrow) | (obtain ⟨p, hp, rfl⟩ := of_map hrow; clear hrow)))))
  all_goals (conv => whnf)
  all_goals (refine ⟨[0], ?_⟩)
  all_goals (repeat' (first | (with_reducible rfl) | exact trivial | ((conv => whnf); (first | (with_reducible refine And.intro ?_ ?_) | exact trivial | (intro hb; first | (exfalso; simp_all; done) | skip)))))
  all_goals (first | rfl)

set_option maxRecDepth 100000 in
set_option maxHeartbeats 400000 in
theorem where_nil [Inhabited TabT]  : Fn Tryd.prog 14 [noErr] (.nils) := by
  refine Fn.mk' base Tryd.func14 rfl rfl rfl ?_
  repeat' ((conv => whnf); (first
   | ((with_reducible show AW _ _ _ (Code.loop _) _ _ _); (refine AW.rounds 1 ?_))
   | (with_reducible first | refine AW.seq ?_ | refine AW.region base (by kernel_rfl) ?_ | refine AW.cond ?_ | refine AW.block ?_ | refine AW.ret ?_ | refine AW.exit ?_ | refine AW.skip ?_ | refine Br.t ?_ | refine Br.f ?_)
   | ((with_reducible refine Or.inl ?_); (conv => whnf); (with_reducible refine And.intro LitSl.mk ?_))
   | refine Br.t ?_
   | refine Br.f ?_
   | (with_reducible refine Or.inr ⟨[?_], _, _, _, _, asX_nil, ?_⟩)
   | (with_reducible refine Or.inr (Or.inr ⟨[?_], _, _, _, _, asX_nil, ?_⟩))
   | (with_reducible refine Br.mk (fun hb => ?_) (fun hb => ?_) <;> (try rw [hb]) <;> (try simp only [List.length_map, decide_eq_true_eq, decide_eq_false_iff_not, Bool.not_eq_true', Bool.not_eq_false', Int.ofNat_lt, Int.ofNat_le, Int.not_lt, Int.not_le, Int.toNat_natCast] at hb))
   | ((with_reducible first | refine Or.inl (And.intro ?_ ?_) | refine And.intro ?_ ?_); (focus (first | with_reducible rfl | exact trivial | (exact ⟨rfl, trivial⟩) | (exact ⟨rfl, rfl, trivial⟩) | omega | (intro r hr; simp only [List.mem_singleton] at hr; subst hr; rfl)  | (simp only [in64]; omega) | assumption | (simp; done) | (simp [V.cells]; done) | (simp [in64, maxLen, limK] at *; omega) | ((show confB _ _ = true); kernel_rfl) | rfl)))
   | (intro row hrow; (try simp only [Int.toNat_natCast, List.length_map, toNat_pred, toNat_succ', toNat_zero', toNat_one'] at hrow); (first | (have hsm := same_map (by assumption) hrow; subst hsm; clear hrow) | (obtain ⟨p, hp, rfl⟩ := of_map hrow; clear hrow)))))
  all_goals (conv => whnf)
  all_goals (first | rfl | (simp only [V.bool.injEq, V.tup.injEq, V.agg.injEq, V.str.injEq, V.int.injEq, V.sl.injEq, V.ifc.injEq, List.cons.injEq, and_true, true_and, and_self]; done) | (simp only [V.bool.injEq, V.tup.injEq, V.agg.injEq, V.str.injEq, V.int.injEq, V.sl.injEq, V.ifc.injEq, List.cons.injEq, and_true, true_and, and_self]; grind) | (simp  at *; done) | (simp  at *; grind))

def errPre : Bs := [101, 114, 114, 111, 114, 32]
/-- what an error says -/
def says [Inhabited TabT] : List Bs → Int → Bs
  | [], c => errPre ++ itoaT c
  | w :: ws, c => (w ++ [58, 32]) ++ says ws c

set_option maxRecDepth 100000 in
set_option maxHeartbeats 400000 in
theorem errnoError_fn [Inhabited TabT] (c : Int) (hc : 0 ≤ c ∧ c < 256) (hl : (errPre ++ itoaT c).length ≤ maxLen) : Fn Tryd.prog 7 [.int .i64 c] (.str (errPre ++ itoaT c)) := by
  refine Fn.mk' base Tryd.func7 rfl rfl rfl ?_
  repeat' ((conv => whnf); (first
   | (with_reducible first | refine AW.seq ?_ | refine AW.region base (by kernel_rfl) ?_ | refine AW.cond ?_ | refine AW.block ?_ | refine AW.ret ?_ | refine AW.exit ?_ | refine AW.skip ?_ | refine Br.t ?_ | refine Br.f ?_)
   | ((with_reducible refine Or.inl ?_); (conv => whnf); (with_reducible refine And.intro LitSl.mk ?_))
   | refine Br.t ?_
   | refine Br.f ?_
   | ((with_reducible refine Or.inl ?_); (conv => whnf); (first | (with_reducible first | refine ⟨_, itoa_fn _ hc.1 hc.2, ?_⟩)))
   | (with_reducible refine Br.mk (fun hb => ?_) (fun hb => ?_) <;> (try rw [hb]) <;> (try simp only [List.length_map, decide_eq_true_eq, decide_eq_false_iff_not, Bool.not_eq_true', Bool.not_eq_false', Int.ofNat_lt, Int.ofNat_le, Int.not_lt, Int.not_le, Int.toNat_natCast] at hb))
   | ((with_reducible first | refine Or.inl (And.intro ?_ ?_) | refine And.intro ?_ ?_); (focus (first | with_reducible rfl | exact trivial | (exact ⟨rfl, trivial⟩) | (exact ⟨rfl, rfl, trivial⟩) | omega | (intro r hr; simp only [List.mem_singleton] at hr; subst hr; rfl)  | ((rw [List.length_append] at hl; exact hl)) | (simp only [in64]; omega) | assumption | (simp; done) | (simp [V.cells]; done) | (simp [in64, maxLen, limK] at *; omega) | ((show confB _ _ = true); kernel_rfl) | rfl)))
   | (intro row hrow; (try simp only [Int.toNat_natCast, List.length_map, toNat_pred, toNat_succ', toNat_zero', toNat_one'] at hrow); (first | (have hsm := same_map (by assumption) hrow; subst hsm; clear hrow) | (obtain ⟨p, hp, rfl⟩ := of_map hrow; clear hrow)))))
  all_goals (conv => whnf)
  all_goals (first | rfl | (simp only [V.bool.injEq, V.tup.injEq, V.agg.injEq, V.str.injEq, V.int.injEq, V.sl.injEq, V.ifc.injEq, List.cons.injEq, and_true, true_and, and_self]; done) | (simp only [V.bool.injEq, V.tup.injEq, V.agg.injEq, V.str.injEq, V.int.injEq, V.sl.injEq, V.ifc.injEq, List.cons.injEq, and_true, true_and, and_self]; grind) | (simp  at *; done) | (simp  at *; grind))

theorem says_len [Inhabited TabT] (w : Bs) (ws : List Bs) (c : Int) : (says (w :: ws) c).length = w.length + 2 + (says ws c).length := by simp [says]; omega

set_option maxRecDepth 100000 in
set_option maxHeartbeats 400000 in
theorem faultError0 [Inhabited TabT] (w : Bs) (c : Int) (hc : 0 ≤ c ∧ c < 256) (hl : (says [w] c).length ≤ maxLen) : Fn Tryd.prog 54 [.elt [.str w, errV [] c] 0] (.str (says [w] c)) := by
  refine Fn.mk' base Tryd.func54 rfl rfl rfl ?_
  have hl2 : (errPre ++ itoaT c).length ≤ maxLen := by have := says_len w [] c; rw [this] at hl; exact Nat.le_trans (Nat.le_add_left _ _) hl
  repeat' ((conv => whnf); (first
   | (with_reducible first | refine AW.seq ?_ | refine AW.region base (by kernel_rfl) ?_ | refine AW.cond ?_ | refine AW.block ?_ | refine AW.ret ?_ | refine AW.exit ?_ | refine AW.skip ?_ | refine Br.t ?_ | refine Br.f ?_)
   | ((with_reducible refine Or.inl ?_); (conv => whnf); (with_reducible refine And.intro LitSl.mk ?_))
   | refine Br.t ?_
   | refine Br.f ?_
   | ((with_reducible refine Or.inl ?_); (conv => whnf); (first | (with_reducible first | refine ⟨_, errnoError_fn _ hc hl2, ?_⟩)))
   | (with_reducible refine Br.mk (fun hb => ?_) (fun hb => ?_) <;> (try rw [hb]) <;> (try simp only [List.length_map, decide_eq_true_eq, decide_eq_false_iff_not, Bool.not_eq_true', Bool.not_eq_false', Int.ofNat_lt, Int.ofNat_le, Int.not_lt, Int.not_le, Int.toNat_natCast] at hb))
   | ((with_reducible first | refine Or.inl (And.intro ?_ ?_) | refine And.intro ?_ ?_); (focus (first | with_reducible rfl | exact trivial | (exact ⟨rfl, trivial⟩) | (exact ⟨rfl, rfl, trivial⟩) | omega | (intro r hr; simp only [List.mem_singleton] at hr; subst hr; rfl)  | ((exact Nat.le_trans (Nat.le_of_eq (List.length_append).symm) hl)) | ((have h9 := says_len w [] c; simp only [List.length_append, List.length_cons, List.length_nil] at *; omega)) | ((simp only [List.length_append, List.length_cons, List.length_nil] at *; omega)) | ((rw [says_len] at hl; simp only [List.length_append, List.length_cons, List.length_nil]; omega)) | (simp only [in64]; omega) | assumption | (simp; done) | (simp [V.cells]; done) | (simp [in64, maxLen, limK] at *; omega) | ((show confB _ _ = true); kernel_rfl) | rfl)))
   | (intro row hrow; (try simp only [Int.toNat_natCast, List.length_map, toNat_pred, toNat_succ', toNat_zero', toNat_one'] at hrow); (first | (have hsm := same_map (by assumption) hrow; subst hsm; clear hrow) | (obtain ⟨p, hp, rfl⟩ := of_map hrow; clear hrow)))))
  all_goals (conv => whnf)
  all_goals (first | rfl | (simp only [V.bool.injEq, V.tup.injEq, V.agg.injEq, V.str.injEq, V.int.injEq, V.sl.injEq, V.ifc.injEq, List.cons.injEq, and_true, true_and, and_self]; done) | (simp only [V.bool.injEq, V.tup.injEq, V.agg.injEq, V.str.injEq, V.int.injEq, V.sl.injEq, V.ifc.injEq, List.cons.injEq, and_true, true_and, and_self]; grind) | (simp  at *; done) | (simp  at *; grind) | (exact congrArg V.str rfl))

set_option maxRecDepth 100000 in
set_option maxHeartbeats 400000 in
theorem faultError1 [Inhabited TabT] (w w1 : Bs) (ws : List Bs) (c : Int) (hl : (says (w :: w1 :: ws) c).length ≤ maxLen) (ih : Fn Tryd.prog 54 [.elt [.str w1, errV ws c] 0] (.str (says (w1 :: ws) c))) : Fn Tryd.prog 54 [.elt [.str w, errV (w1 :: ws) c] 0] (.str (says (w :: w1 :: ws) c)) := by
  refine Fn.mk' base Tryd.func54 rfl rfl rfl ?_
  repeat' ((conv => whnf); (first
   | (with_reducible first | refine AW.seq ?_ | refine AW.region base (by kernel_rfl) ?_ | refine AW.cond ?_ | refine AW.block ?_ | refine AW.ret ?_ | refine AW.exit ?_ | refine AW.skip ?_ | refine Br.t ?_ | refine Br.f ?_)
   | ((with_reducible refine Or.inl ?_); (conv => whnf); (with_reducible refine And.intro LitSl.mk ?_))
   | refine Br.t ?_
   | refine Br.f ?_
   | ((with_reducible refine Or.inl ?_); (conv => whnf); (first | (with_reducible first | refine ⟨_, ih, ?_⟩)))
   | (with_reducible refine Br.mk (fun hb => ?_) (fun hb => ?_) <;> (try rw [hb]) <;> (try simp only [List.length_map, decide_eq_true_eq, decide_eq_false_iff_not, Bool.not_eq_true', Bool.not_eq_false', Int.ofNat_lt, Int.ofNat_le, Int.not_lt, Int.not_le, Int.toNat_natCast] at hb))
   | ((with_reducible first | refine Or.inl (And.intro ?_ ?_) | refine And.intro ?_ ?_); (focus (first | with_reducible rfl | exact trivial | (exact ⟨rfl, trivial⟩) | (exact ⟨rfl, rfl, trivial⟩) | omega | (intro r hr; simp only [List.mem_singleton] at hr; subst hr; rfl)  | ((exact Nat.le_trans (Nat.le_of_eq (List.length_append).symm) hl)) | ((have h9 := says_len w [] c; simp only [List.length_append, List.length_cons, List.length_nil] at *; omega)) | ((simp only [List.length_append, List.length_cons, List.length_nil] at *; omega)) | ((rw [says_len] at hl; simp only [List.length_append, List.length_cons, List.length_nil]; omega)) | (simp only [in64]; omega) | assumption | (simp; done) | (simp [V.cells]; done) | (simp [in64, maxLen, limK] at *; omega) | ((show confB _ _ = true); kernel_rfl) | rfl)))
   | (intro row hrow; (try simp only [Int.toNat_natCast, List.length_map, toNat_pred, toNat_succ', toNat_zero', toNat_one'] at hrow); (first | (have hsm := same_map (by assumption) hrow; subst hsm; clear hrow) | (obtain ⟨p, hp, rfl⟩ := of_map hrow; clear hrow)))))
  all_goals (conv => whnf)
  all_goals (first | rfl | (simp only [V.bool.injEq, V.tup.injEq, V.agg.injEq, V.str.injEq, V.int.injEq, V.sl.injEq, V.ifc.injEq, List.cons.injEq, and_true, true_and, and_self]; done) | (simp only [V.bool.injEq, V.tup.injEq, V.agg.injEq, V.str.injEq, V.int.injEq, V.sl.injEq, V.ifc.injEq, List.cons.injEq, and_true, true_and, and_self]; grind) | (simp  at *; done) | (simp  at *; grind) | (exact congrArg V.str rfl))

theorem faultError_fn [Inhabited TabT] : ∀ (ws : List Bs) (w : Bs) (c : Int) (hc : 0 ≤ c ∧ c < 256) (hl : (says (w :: ws) c).length ≤ maxLen), Fn Tryd.prog 54 [.elt [.str w, errV ws c] 0] (.str (says (w :: ws) c))
  | [], w, c, hc, hl => faultError0 w c hc hl
  | w1 :: ws, w, c, hc, hl => faultError1 w w1 ws c hl (faultError_fn ws w1 c hc (by have := says_len w (w1 :: ws) c; omega))
end Go.Proofs.YthchmjdgepbjpaaDoor

-- tabvar