/-
  Laws of letters under way: what is known. No conditions.
-/
import Derived.Test.YtnblecdpkbempaaGreatDoorBag
namespace Go.Proofs.YtnblecdpkbempaaGreatDoor
open Go.RowKit
set_option linter.unusedSimpArgs false
set_option linter.unusedVariables false

theorem k8_putn : FnM Tryz.prog 26 [.ptr 0 0, .agg [.int .i64 5, .int .i64 200, .int .i64 100, .int .i64 0, .int .i64 0, .int .i64 0, .int .i64 0, .int .i64 0, .int .i64 0, .str [], .str [], .str [], .int .i64 0, .nils, .int .i64 0, .str [], .int .i64 0, .nils, .str [], .str [], .nils, .nils, .nils, .str []]] [.cells [.own 1], .rows 9 ([])] (noErr) [.cells [.own 2], .dead, .rows 9 ([[.str (bytesL kl)]])] := FnM.unnil (put_ok kl kl_ok [] (by simp))
theorem k8_putzn : FnM Tryz.prog 26 [.ptr 0 0, .agg [.int .i64 0, .int .i64 0, .int .i64 0, .int .i64 0, .int .i64 0, .int .i64 0, .int .i64 0, .int .i64 0, .int .i64 0, .str [], .str [], .str [], .int .i64 0, .nils, .int .i64 0, .str [], .int .i64 0, .nils, .str [], .str [], .nils, .nils, .nils, .str []]] [.cells [.own 1], .rows 9 ([[.str (bytesL kl)]])] (errV [] 10) [.cells [.own 1], .rows 9 ([[.str (bytesL kl)]])] := FnM.unnil (put_not zeroL kz_no [bytesL kl])
theorem k8_twice : FnM Tryz.prog 27 [.ptr 0 0, .int .i64 0] [.cells [.own 1], .rows 9 ([[.str (bytesL kl)]])] (noErr) [.cells [.own 2], .dead, .rows 9 ([[.str (bytesL kl)], [.str (bytesL kl)]])] := twice_ok 0 [bytesL kl] (by omega) (by simp) (bytesL kl) rfl (by simp)
theorem k8_take : FnM Tryz.prog 28 [.ptr 0 0, .int .i64 1] [.cells [.own 1], .rows 9 ([[.str (bytesL kl)], [.str (bytesL kl)]])] (.tup [.agg (encL kl), noErr]) [.cells [.own 2], .dead, .rows 9 ([[.str (bytesL kl)]])] := bagTake_ok 1 [bytesL kl, bytesL kl] (by omega) (by simp) (by simp) kl kl_ok rfl
theorem k8_lose : FnM Tryz.prog 69 [.ptr 0 0, .int .i64 0] [.cells [.own 1], .rows 9 ([[.str (bytesL kl)]])] (noErr) [.cells [.own 2], .dead, .rows 9 ([])] := lose_ok 0 [bytesL kl] (by omega) (by simp) (by simp)
theorem k8_len : FnM Tryz.prog 30 [.ptr 0 0] [.cells [.own 1], .rows 9 ([])] (.int .i64 0) [.cells [.own 1], .rows 9 ([])] := bagLen_fn []
theorem k8_same : Fn Tryz.prog 23 [.agg (encL kl), .agg (encL kl)] (.bool true) := by have h := sameLetter_fn kl kl (by simp [kl, zeroO]) (by simp [kl, zeroA]); rw [decide_eq_true rfl] at h; exact h

set_option maxRecDepth 100000 in
set_option maxHeartbeats 2000000 in
theorem known8_fn  : Fn Tryz.prog 24 [] (.bool true) := by
  refine Fn.mk' base Tryz.func24 rfl rfl rfl ?_
  repeat' ((conv => whnf); (first
   | ((with_reducible show AW _ _ _ (Code.seq (Code.region 4 _ _) _) _ _ _); (refine AW.adoptC 1002000 0 999999999 (el := 9) rfl rfl rfl (rows_of 37 rfl) ?_))
   | (with_reducible first | refine AW.seq ?_ | refine AW.region base (by kernel_rfl) ?_ | refine AW.cond ?_ | refine AW.block ?_ | refine AW.ret ?_ | refine AW.exit ?_ | refine AW.skip ?_ | refine Br.t ?_ | refine Br.f ?_)
   | ((with_reducible refine Or.inl ?_); (conv => whnf); (with_reducible refine And.intro LitSl.mk ?_))
   | refine Br.t ?_
   | refine Br.f ?_
   | ((refine Or.inr (Or.inr ⟨[?_, ?_], _, _, _, _, k8_putn, ?_⟩)); rotate_right; (conv => whnf); (with_reducible refine And.intro ?_ ?_); (focus (with_reducible rfl)); (conv => whnf); (with_reducible refine And.intro ?_ ?_); (focus rfl))
   | ((refine Or.inr (Or.inr ⟨[?_, ?_], _, _, _, _, k8_putzn, ?_⟩)); rotate_right; (conv => whnf); (with_reducible refine And.intro ?_ ?_); (focus (with_reducible rfl)); (conv => whnf); (with_reducible refine And.intro ?_ ?_); (focus rfl))
   | ((refine Or.inr (Or.inr ⟨[?_, ?_], _, _, _, _, k8_take, ?_⟩)); rotate_right; (conv => whnf); (with_reducible refine And.intro ?_ ?_); (focus (with_reducible rfl)); (conv => whnf); (with_reducible refine And.intro ?_ ?_); (focus rfl))
   | ((refine Or.inr (Or.inr ⟨[?_, ?_], _, _, _, _, take_no, ?_⟩)); rotate_right; (conv => whnf); (with_reducible refine And.intro ?_ ?_); (focus (with_reducible rfl)); (conv => whnf); (with_reducible refine And.intro ?_ ?_); (focus rfl))
   | ((with_reducible refine Or.inl ?_); (conv => whnf); (first | refine ⟨_, Fn.unnil k8_same, ?_⟩ | refine ⟨_, fis_fn [] 10 _, ?_⟩ | refine ⟨_, fis_fn [] 14 _, ?_⟩))
   | (with_reducible refine Or.inr ⟨[], _, _, _, _, bagNew_fn, ?_⟩)
   | (with_reducible refine Or.inr (Or.inr ⟨[], _, _, _, _, bagNew_fn, ?_⟩))
   | (with_reducible refine Or.inr ⟨[?_, ?_], _, _, _, _, k8_twice, ?_⟩)
   | (with_reducible refine Or.inr (Or.inr ⟨[?_, ?_], _, _, _, _, k8_twice, ?_⟩))
   | (with_reducible refine Or.inr ⟨[?_, ?_], _, _, _, _, k8_lose, ?_⟩)
   | (with_reducible refine Or.inr (Or.inr ⟨[?_, ?_], _, _, _, _, k8_lose, ?_⟩))
   | (with_reducible refine Or.inr ⟨[?_, ?_], _, _, _, _, k8_len, ?_⟩)
   | (with_reducible refine Or.inr (Or.inr ⟨[?_, ?_], _, _, _, _, k8_len, ?_⟩))
   | (with_reducible refine Or.inr ⟨[?_, ?_], _, _, _, _, all_nil, ?_⟩)
   | (with_reducible refine Or.inr (Or.inr ⟨[?_, ?_], _, _, _, _, all_nil, ?_⟩))
   | (with_reducible refine Br.mk (fun hb => ?_) (fun hb => ?_) <;> (try rw [hb]) <;> (try simp only [List.length_map, decide_eq_true_eq, decide_eq_false_iff_not, Bool.not_eq_true', Bool.not_eq_false', Int.ofNat_lt, Int.ofNat_le, Int.not_lt, Int.not_le, Int.toNat_natCast] at hb))
   | ((with_reducible first | refine Or.inl (And.intro ?_ ?_) | refine And.intro ?_ ?_); (focus (first | with_reducible rfl | exact trivial | (exact ⟨rfl, trivial⟩) | (exact ⟨rfl, rfl, trivial⟩) | omega | (intro r hr; simp only [List.mem_singleton] at hr; subst hr; rfl)  | ((simp only [in64, maxLen] at *; omega)) | (simp only [in64]; omega) | assumption | (simp; done) | (simp [V.cells]; done) | (simp [in64, maxLen, limK] at *; omega) | ((show confB _ _ = true); kernel_rfl) | rfl)))
   | (intro row hrow; (try simp only [Int.toNat_natCast, List.length_map, toNat_pred, toNat_succ', toNat_zero', toNat_one'] at hrow); (first | (have hsm := same_map (by assumption) hrow; subst hsm; clear hrow) | (obtain ⟨p, hp, rfl⟩ := of_map hrow; clear hrow)))))
  all_goals (conv => whnf)
  all_goals (first | rfl | (simp only [V.bool.injEq, V.tup.injEq, V.agg.injEq, V.str.injEq, V.int.injEq, V.sl.injEq, V.ifc.injEq, List.cons.injEq, and_true, true_and, and_self]; done) | (simp only [V.bool.injEq, V.tup.injEq, V.agg.injEq, V.str.injEq, V.int.injEq, V.sl.injEq, V.ifc.injEq, List.cons.injEq, and_true, true_and, and_self]; grind) | (simp  at *; done) | (simp  at *; grind))
end Go.Proofs.YtnblecdpkbempaaGreatDoor
