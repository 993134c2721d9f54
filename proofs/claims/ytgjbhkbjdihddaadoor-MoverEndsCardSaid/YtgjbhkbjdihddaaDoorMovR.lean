/-
  Walks of package mover: the reference. No conditions.
-/
import Derived.Test.YtgjbhkbjdihddaaDoorSpR
namespace Go.Proofs.YtgjbhkbjdihddaaDoor
open Go.RowKit
set_option linter.unusedSimpArgs false
set_option linter.unusedVariables false
theorem Reps.setAt {w : World} {R : Nat → Prop} {ρ : Rho} {i : Nat} {cs : List V} {xs : List Value} {v v' : V} (hr : Reps w R ρ cs xs) (hi : cs[i]? = some v) (hv : ∀ x, Rep w R ρ v x → Rep w R ρ v' x) : Reps w R ρ (cs.set i v') xs :=
  ⟨by rw [List.length_set]; exact hr.1, fun j v x hj hx => by
    rw [List.getElem?_set] at hj
    split at hj
    · rename_i he; subst he
      split at hj
      · cases hj; exact hv x (hr.2 i _ x hi hx)
      · cases hj
    · exact hr.2 j v x hj hx⟩
section
variable {P : Program} {N na : Nat} {h : Hp} {e : Env} {Q : Exit → Env → Hp → Prop}
theorem AW.ownC {c : Code} (b i k : Nat) {cs : List V} {v : V} (hb : h b = some (.cells cs)) (hi : cs[i]? = some (.own k)) (hk : h k = some (.rd v)) (K : AW P N na c e (h.set b (some (.cells (cs.set i v)))) Q) : AW P N na c e h Q :=
  ⟨fun cx an R ρ a w hn hs ht ha he => K.run cx an R ρ a w hn (hs.recell hb fun xs hr => hr.setAt hi fun x hx => by
    cases hx with
    | own hq =>
      have := hs.brep k _ _ hq hk
      exact Rep.mono this (fun _ h => h) (fun _ _ => rfl) (fun _ _ h => by cases h)) (fun j o hj => Hp.mono_set h b _ j (ht j o hj)) ha he⟩
end

set_option maxRecDepth 100000 in
set_option maxHeartbeats 400000 in
theorem rnew_fn  : Fn Tryd.prog 29 [] (.sl [[.int .i64 1, .int .i64 1, .int .i64 0, .str [], .str []]]) := by
  refine Fn.mk' base Tryd.func29 rfl rfl rfl ?_
  repeat' ((conv => whnf); (first
   | (with_reducible first | refine AW.seq ?_ | refine AW.region base (by kernel_rfl) ?_ | refine AW.cond ?_ | refine AW.block ?_ | refine AW.ret ?_ | refine AW.exit ?_ | refine AW.skip ?_ | refine Br.t ?_ | refine Br.f ?_)
   | (with_reducible refine Br.mkT (fun hb => (by (first | (simp at hb; done) | omega | (simp only [decide_eq_true_eq, decide_eq_false_iff_not, Bool.not_eq_true', Bool.not_eq_false'] at hb; first | omega | fail) | fail))) (fun hb => ?_))
   | (with_reducible refine Br.mkF (fun hb => (by (first | (simp at hb; done) | omega | (simp only [decide_eq_true_eq, decide_eq_false_iff_not, Bool.not_eq_true', Bool.not_eq_false'] at hb; first | omega | fail) | fail))) (fun hb => ?_))
   | ((with_reducible refine Or.inl ?_); (conv => whnf); (with_reducible refine And.intro LitSl.mk ?_))
   | refine Br.t ?_
   | refine Br.f ?_
   | (with_reducible refine Br.mk (fun hb => ?_) (fun hb => ?_) <;> (try rw [hb]) <;> (try simp only [List.length_map, decide_eq_true_eq, decide_eq_false_iff_not, Bool.not_eq_true', Bool.not_eq_false', Int.ofNat_lt, Int.ofNat_le, Int.not_lt, Int.not_le, Int.toNat_natCast] at hb))
   | ((with_reducible first | refine Or.inl (And.intro ?_ ?_) | refine And.intro ?_ ?_); (focus (first | with_reducible rfl | exact trivial | (exact ⟨rfl, trivial⟩) | (exact ⟨rfl, rfl, trivial⟩) | omega | (intro r hr; simp only [List.mem_singleton] at hr; subst hr; rfl)  | ((simp only [in64, maxLen] at *; omega)) | ((simp only [List.length_map]; omega)) | ((exact ⟨by omega, by simp only [List.length_map]; omega⟩)) | (simp only [in64]; omega) | assumption | (simp; done) | (simp [V.cells]; done) | (simp [in64, maxLen, limK] at *; omega) | ((show confB _ _ = true); kernel_rfl) | rfl)))
   | (intro row hrow; (try simp only [Int.toNat_natCast, List.length_map, toNat_pred, toNat_succ', toNat_zero', toNat_one'] at hrow); (first | (have hsm := same_map (by assumption) hrow; subst hsm; clear hrow) | (obtain ⟨p, hp, rfl⟩ := of_map hrow; clear hrow)))))
  all_goals (conv => whnf)
  all_goals (first | rfl | (simp only [V.bool.injEq, V.tup.injEq, V.agg.injEq, V.str.injEq, V.int.injEq, V.sl.injEq, V.ifc.injEq, List.cons.injEq, and_true, true_and, and_self]; done) | (simp only [V.bool.injEq, V.tup.injEq, V.agg.injEq, V.str.injEq, V.int.injEq, V.sl.injEq, V.ifc.injEq, List.cons.injEq, and_true, true_and, and_self]; grind) | (simp  at *; done) | (simp  at *; grind))

set_option maxRecDepth 100000 in
set_option maxHeartbeats 400000 in
theorem rstate_fn  : FnM Tryd.prog 10 [] [] (.ptr 0 0) [.cells [.sl [[.int .i64 1, .int .i64 1, .int .i64 0, .str [], .str []]], .int .i64 0, .int .i64 0, .int .i64 0, .int .i64 0, .int .i64 0, .int .i64 0, .int .i64 0, .str [], .int .i64 0, .int .i64 0, .int .i64 0, .int .i64 0, .int .i64 2, .nils, .int .i64 0]] := by
  refine FnM.mk' base Tryd.func10 rfl rfl rfl rfl ?_
  repeat' ((conv => whnf); (first
   | (with_reducible first | refine AW.seq ?_ | refine AW.region base (by kernel_rfl) ?_ | refine AW.cond ?_ | refine AW.block ?_ | refine AW.ret ?_ | refine AW.exit ?_ | refine AW.skip ?_ | refine Br.t ?_ | refine Br.f ?_)
   | (with_reducible refine Br.mkT (fun hb => (by (first | (simp at hb; done) | omega | (simp only [decide_eq_true_eq, decide_eq_false_iff_not, Bool.not_eq_true', Bool.not_eq_false'] at hb; first | omega | fail) | fail))) (fun hb => ?_))
   | (with_reducible refine Br.mkF (fun hb => (by (first | (simp at hb; done) | omega | (simp only [decide_eq_true_eq, decide_eq_false_iff_not, Bool.not_eq_true', Bool.not_eq_false'] at hb; first | omega | fail) | fail))) (fun hb => ?_))
   | ((with_reducible refine Or.inl ?_); (conv => whnf); (with_reducible refine And.intro LitSl.mk ?_))
   | refine Br.t ?_
   | refine Br.f ?_
   | ((with_reducible refine Or.inl ?_); (conv => whnf); (first | (with_reducible first | refine ⟨_, rnew_fn, ?_⟩)))
   | (with_reducible refine Br.mk (fun hb => ?_) (fun hb => ?_) <;> (try rw [hb]) <;> (try simp only [List.length_map, decide_eq_true_eq, decide_eq_false_iff_not, Bool.not_eq_true', Bool.not_eq_false', Int.ofNat_lt, Int.ofNat_le, Int.not_lt, Int.not_le, Int.toNat_natCast] at hb))
   | ((with_reducible first | refine Or.inl (And.intro ?_ ?_) | refine And.intro ?_ ?_); (focus (first | with_reducible rfl | exact trivial | (exact ⟨rfl, trivial⟩) | (exact ⟨rfl, rfl, trivial⟩) | omega | (intro r hr; simp only [List.mem_singleton] at hr; subst hr; rfl)  | ((simp only [in64, maxLen] at *; omega)) | ((simp only [List.length_map]; omega)) | ((exact ⟨by omega, by simp only [List.length_map]; omega⟩)) | (simp only [in64]; omega) | assumption | (simp; done) | (simp [V.cells]; done) | (simp [in64, maxLen, limK] at *; omega) | ((show confB _ _ = true); kernel_rfl) | rfl)))
   | (intro row hrow; (try simp only [Int.toNat_natCast, List.length_map, toNat_pred, toNat_succ', toNat_zero', toNat_one'] at hrow); (first | (have hsm := same_map (by assumption) hrow; subst hsm; clear hrow) | (obtain ⟨p, hp, rfl⟩ := of_map hrow; clear hrow)))))
  all_goals (conv => whnf)
  all_goals (refine ⟨[?_], ?_⟩)
  all_goals (repeat' (first | (with_reducible rfl) | exact trivial | ((conv => whnf); (first | (with_reducible refine And.intro ?_ ?_) | exact trivial | (intro hb; first | (exfalso; simp_all; done) | skip)))))
  all_goals (first | rfl)

theorem rhas_k : Fn Tryd.prog 56 [.agg [.str [], .str []], .str [107]] (.bool true) := by
  have h := hasr_fn ⟨[], []⟩ [107]
  rw [hasB_all, show isKeyB [107] = true from rfl] at h; exact h

set_option maxRecDepth 100000 in
set_option maxHeartbeats 400000 in
theorem rat_k (e n : Int) : Fn Tryd.prog 34 [.sl [[.int .i64 1, .int .i64 e, .int .i64 n, .str [], .str []]], .str [107]] (.tup [.agg [.int .i64 1, .int .i64 e, .int .i64 n, .str [], .str []], .bool true]) := by
  refine Fn.mk' base Tryd.func34 rfl rfl rfl ?_
  repeat' ((conv => whnf); (first
   | ((with_reducible show AW _ _ _ (Code.loop _) _ _ _); (refine AW.rounds 2 ?_))
   | (with_reducible first | refine AW.seq ?_ | refine AW.region base (by kernel_rfl) ?_ | refine AW.cond ?_ | refine AW.block ?_ | refine AW.ret ?_ | refine AW.exit ?_ | refine AW.skip ?_ | refine Br.t ?_ | refine Br.f ?_)
   | (with_reducible refine Br.mkT (fun hb => (by (first | (simp at hb; done) | omega | (simp only [decide_eq_true_eq, decide_eq_false_iff_not, Bool.not_eq_true', Bool.not_eq_false'] at hb; first | omega | fail) | fail))) (fun hb => ?_))
   | (with_reducible refine Br.mkF (fun hb => (by (first | (simp at hb; done) | omega | (simp only [decide_eq_true_eq, decide_eq_false_iff_not, Bool.not_eq_true', Bool.not_eq_false'] at hb; first | omega | fail) | fail))) (fun hb => ?_))
   | ((with_reducible refine Or.inl ?_); (conv => whnf); (with_reducible refine And.intro LitSl.mk ?_))
   | refine Br.t ?_
   | refine Br.f ?_
   | (intro row hrow; have e0 := Option.some.inj (show some _ = some row from hrow); subst e0)
   | ((with_reducible refine Or.inl ?_); (conv => whnf); (first | (with_reducible first | refine ⟨_, rhas_k, ?_⟩)))
   | (with_reducible refine Br.mk (fun hb => ?_) (fun hb => ?_) <;> (try rw [hb]) <;> (try simp only [List.length_map, decide_eq_true_eq, decide_eq_false_iff_not, Bool.not_eq_true', Bool.not_eq_false', Int.ofNat_lt, Int.ofNat_le, Int.not_lt, Int.not_le, Int.toNat_natCast] at hb))
   | ((with_reducible first | refine Or.inl (And.intro ?_ ?_) | refine And.intro ?_ ?_); (focus (first | with_reducible rfl | exact trivial | (exact ⟨rfl, trivial⟩) | (exact ⟨rfl, rfl, trivial⟩) | omega | (intro r hr; simp only [List.mem_singleton] at hr; subst hr; rfl)  | ((simp only [in64, maxLen] at *; omega)) | ((simp only [List.length_map]; omega)) | ((exact ⟨by omega, by simp only [List.length_map]; omega⟩)) | (simp only [in64]; omega) | assumption | (simp; done) | (simp [V.cells]; done) | (simp [in64, maxLen, limK] at *; omega) | ((show confB _ _ = true); kernel_rfl) | rfl)))
   | (intro row hrow; (try simp only [Int.toNat_natCast, List.length_map, toNat_pred, toNat_succ', toNat_zero', toNat_one'] at hrow); (first | (have hsm := same_map (by assumption) hrow; subst hsm; clear hrow) | (obtain ⟨p, hp, rfl⟩ := of_map hrow; clear hrow)))))
  all_goals (conv => whnf)
  all_goals (first | rfl | (simp only [V.bool.injEq, V.tup.injEq, V.agg.injEq, V.str.injEq, V.int.injEq, V.sl.injEq, V.ifc.injEq, List.cons.injEq, and_true, true_and, and_self]; done) | (simp only [V.bool.injEq, V.tup.injEq, V.agg.injEq, V.str.injEq, V.int.injEq, V.sl.injEq, V.ifc.injEq, List.cons.injEq, and_true, true_and, and_self]; grind) | (simp  at *; done) | (simp  at *; grind))

set_option maxRecDepth 100000 in
set_option maxHeartbeats 400000 in
theorem rat_fn (e n : Int) : Fn Tryd.prog 62 [.sl [[.int .i64 1, .int .i64 e, .int .i64 n, .str [], .str []]], .int .i64 1] (.int .i64 0) := by
  refine Fn.mk' base Tryd.func62 rfl rfl rfl ?_
  repeat' ((conv => whnf); (first
   | ((with_reducible show AW _ _ _ (Code.loop _) _ _ _); (refine AW.rounds 2 ?_))
   | (with_reducible first | refine AW.seq ?_ | refine AW.region base (by kernel_rfl) ?_ | refine AW.cond ?_ | refine AW.block ?_ | refine AW.ret ?_ | refine AW.exit ?_ | refine AW.skip ?_ | refine Br.t ?_ | refine Br.f ?_)
   | (with_reducible refine Br.mkT (fun hb => (by (first | (simp at hb; done) | omega | (simp only [decide_eq_true_eq, decide_eq_false_iff_not, Bool.not_eq_true', Bool.not_eq_false'] at hb; first | omega | fail) | fail))) (fun hb => ?_))
   | (with_reducible refine Br.mkF (fun hb => (by (first | (simp at hb; done) | omega | (simp only [decide_eq_true_eq, decide_eq_false_iff_not, Bool.not_eq_true', Bool.not_eq_false'] at hb; first | omega | fail) | fail))) (fun hb => ?_))
   | ((with_reducible refine Or.inl ?_); (conv => whnf); (with_reducible refine And.intro LitSl.mk ?_))
   | refine Br.t ?_
   | refine Br.f ?_
   | (intro row hrow; have e0 := Option.some.inj (show some _ = some row from hrow); subst e0)
   | (with_reducible refine Br.mk (fun hb => ?_) (fun hb => ?_) <;> (try rw [hb]) <;> (try simp only [List.length_map, decide_eq_true_eq, decide_eq_false_iff_not, Bool.not_eq_true', Bool.not_eq_false', Int.ofNat_lt, Int.ofNat_le, Int.not_lt, Int.not_le, Int.toNat_natCast] at hb))
   | ((with_reducible first | refine Or.inl (And.intro ?_ ?_) | refine And.intro ?_ ?_); (focus (first | with_reducible rfl | exact trivial | (exact ⟨rfl, trivial⟩) | (exact ⟨rfl, rfl, trivial⟩) | omega | (intro r hr; simp only [List.mem_singleton] at hr; subst hr; rfl)  | ((simp only [in64, maxLen] at *; omega)) | ((simp only [List.length_map]; omega)) | ((exact ⟨by omega, by simp only [List.length_map]; omega⟩)) | (simp only [in64]; omega) | assumption | (simp; done) | (simp [V.cells]; done) | (simp [in64, maxLen, limK] at *; omega) | ((show confB _ _ = true); kernel_rfl) | rfl)))
   | (intro row hrow; (try simp only [Int.toNat_natCast, List.length_map, toNat_pred, toNat_succ', toNat_zero', toNat_one'] at hrow); (first | (have hsm := same_map (by assumption) hrow; subst hsm; clear hrow) | (obtain ⟨p, hp, rfl⟩ := of_map hrow; clear hrow)))))
  all_goals (conv => whnf)
  all_goals (first | rfl | (simp only [V.bool.injEq, V.tup.injEq, V.agg.injEq, V.str.injEq, V.int.injEq, V.sl.injEq, V.ifc.injEq, List.cons.injEq, and_true, true_and, and_self]; done) | (simp only [V.bool.injEq, V.tup.injEq, V.agg.injEq, V.str.injEq, V.int.injEq, V.sl.injEq, V.ifc.injEq, List.cons.injEq, and_true, true_and, and_self]; grind) | (simp  at *; done) | (simp  at *; grind))

set_option maxRecDepth 100000 in
set_option maxHeartbeats 400000 in
theorem rmovep_fn (e n ep nd : Int) : Fn Tryd.prog 39 [.sl [[.int .i64 1, .int .i64 e, .int .i64 n, .str [], .str []]], .int .i64 1, .int .i64 ep, .int .i64 nd] (.sl [[.int .i64 1, .int .i64 ep, .int .i64 nd, .str [], .str []]]) := by
  refine Fn.mk' base Tryd.func39 rfl rfl rfl ?_
  repeat' ((conv => whnf); (first
   | (with_reducible first | refine AW.seq ?_ | refine AW.region base (by kernel_rfl) ?_ | refine AW.cond ?_ | refine AW.block ?_ | refine AW.ret ?_ | refine AW.exit ?_ | refine AW.skip ?_ | refine Br.t ?_ | refine Br.f ?_)
   | (with_reducible refine Br.mkT (fun hb => (by (first | (simp at hb; done) | omega | (simp only [decide_eq_true_eq, decide_eq_false_iff_not, Bool.not_eq_true', Bool.not_eq_false'] at hb; first | omega | fail) | fail))) (fun hb => ?_))
   | (with_reducible refine Br.mkF (fun hb => (by (first | (simp at hb; done) | omega | (simp only [decide_eq_true_eq, decide_eq_false_iff_not, Bool.not_eq_true', Bool.not_eq_false'] at hb; first | omega | fail) | fail))) (fun hb => ?_))
   | ((with_reducible refine Or.inl ?_); (conv => whnf); (with_reducible refine And.intro LitSl.mk ?_))
   | refine Br.t ?_
   | refine Br.f ?_
   | (intro row hrow; have e0 := Option.some.inj (show some _ = some row from hrow); subst e0)
   | ((with_reducible refine Or.inl ?_); (conv => whnf); (first | (with_reducible first | refine ⟨_, rat_fn e n, ?_⟩)))
   | (with_reducible refine Br.mk (fun hb => ?_) (fun hb => ?_) <;> (try rw [hb]) <;> (try simp only [List.length_map, decide_eq_true_eq, decide_eq_false_iff_not, Bool.not_eq_true', Bool.not_eq_false', Int.ofNat_lt, Int.ofNat_le, Int.not_lt, Int.not_le, Int.toNat_natCast] at hb))
   | ((with_reducible first | refine Or.inl (And.intro ?_ ?_) | refine And.intro ?_ ?_); (focus (first | with_reducible rfl | exact trivial | (exact ⟨rfl, trivial⟩) | (exact ⟨rfl, rfl, trivial⟩) | omega | (intro r hr; simp only [List.mem_singleton] at hr; subst hr; rfl)  | ((simp only [in64, maxLen] at *; omega)) | ((simp only [List.length_map]; omega)) | ((exact ⟨by omega, by simp only [List.length_map]; omega⟩)) | (simp only [in64]; omega) | assumption | (simp; done) | (simp [V.cells]; done) | (simp [in64, maxLen, limK] at *; omega) | ((show confB _ _ = true); kernel_rfl) | rfl)))
   | (intro row hrow; (try simp only [Int.toNat_natCast, List.length_map, toNat_pred, toNat_succ', toNat_zero', toNat_one'] at hrow); (first | (have hsm := same_map (by assumption) hrow; subst hsm; clear hrow) | (obtain ⟨p, hp, rfl⟩ := of_map hrow; clear hrow)))))
  all_goals (conv => whnf)
  all_goals (first | rfl | (simp only [V.bool.injEq, V.tup.injEq, V.agg.injEq, V.str.injEq, V.int.injEq, V.sl.injEq, V.ifc.injEq, List.cons.injEq, and_true, true_and, and_self]; done) | (simp only [V.bool.injEq, V.tup.injEq, V.agg.injEq, V.str.injEq, V.int.injEq, V.sl.injEq, V.ifc.injEq, List.cons.injEq, and_true, true_and, and_self]; grind) | (simp  at *; done) | (simp  at *; grind))

set_option maxRecDepth 100000 in
set_option maxHeartbeats 400000 in
theorem rsaid_1 (e n nx tc : Int) (j : JobV) (he : 0 ≤ j.ep ∧ j.ep ≤ 1000)  : FnM Tryd.prog 57 [.ptr 0 0] [.cells [.sl [[.int .i64 1, .int .i64 e, .int .i64 n, .str [], .str []]], .int .i64 1, .int .i64 j.sh, .int .i64 j.ep, .int .i64 j.fr, .int .i64 j.to, .int .i64 j.pc, .int .i64 j.ps, .str j.key, .int .i64 j.ot, .int .i64 j.oe, .int .i64 j.a, .int .i64 j.b, .int .i64 nx, .nils, .int .i64 tc]] (.sl [[.int .i64 7, .int .i64 100, .int .i64 j.fr, .int .i64 j.sh, .int .i64 j.ep, .int .i64 0, .int .i64 0, .int .i64 0, .int .i64 0, .str [], .str [], .str [], .int .i64 0, .nils, .int .i64 0, .str [], .int .i64 0, .nils, .str [], .str [], .nils, .nils, .nils, .str []]]) [.cells [.sl [[.int .i64 1, .int .i64 e, .int .i64 n, .str [], .str []]], .int .i64 1, .int .i64 j.sh, .int .i64 j.ep, .int .i64 j.fr, .int .i64 j.to, .int .i64 j.pc, .int .i64 j.ps, .str j.key, .int .i64 j.ot, .int .i64 j.oe, .int .i64 j.a, .int .i64 j.b, .int .i64 nx, .nils, .int .i64 tc]] := by
  refine FnM.mk' base Tryd.func57 rfl rfl rfl rfl ?_
  repeat' ((conv => whnf); (first
   | (with_reducible first | refine AW.seq ?_ | refine AW.region base (by kernel_rfl) ?_ | refine AW.cond ?_ | refine AW.block ?_ | refine AW.ret ?_ | refine AW.exit ?_ | refine AW.skip ?_ | refine Br.t ?_ | refine Br.f ?_)
   | (with_reducible refine Br.mkT (fun hb => (by (first | (simp at hb; done) | omega | (simp only [decide_eq_true_eq, decide_eq_false_iff_not, Bool.not_eq_true', Bool.not_eq_false'] at hb; first | omega | fail) | fail))) (fun hb => ?_))
   | (with_reducible refine Br.mkF (fun hb => (by (first | (simp at hb; done) | omega | (simp only [decide_eq_true_eq, decide_eq_false_iff_not, Bool.not_eq_true', Bool.not_eq_false'] at hb; first | omega | fail) | fail))) (fun hb => ?_))
   | ((with_reducible refine Or.inl ?_); (conv => whnf); (with_reducible refine And.intro LitSl.mk ?_))
   | refine Br.t ?_
   | refine Br.f ?_
   | (with_reducible refine Br.mk (fun hb => ?_) (fun hb => ?_) <;> (try rw [hb]) <;> (try simp only [List.length_map, decide_eq_true_eq, decide_eq_false_iff_not, Bool.not_eq_true', Bool.not_eq_false', Int.ofNat_lt, Int.ofNat_le, Int.not_lt, Int.not_le, Int.toNat_natCast] at hb))
   | ((with_reducible first | refine Or.inl (And.intro ?_ ?_) | refine And.intro ?_ ?_); (focus (first | with_reducible rfl | exact trivial | (exact ⟨rfl, trivial⟩) | (exact ⟨rfl, rfl, trivial⟩) | omega | (intro r hr; simp only [List.mem_singleton] at hr; subst hr; rfl)  | ((simp only [in64, maxLen] at *; omega)) | ((simp only [List.length_map]; omega)) | ((exact ⟨by omega, by simp only [List.length_map]; omega⟩)) | (simp only [in64]; omega) | assumption | (simp; done) | (simp [V.cells]; done) | (simp [in64, maxLen, limK] at *; omega) | ((show confB _ _ = true); kernel_rfl) | rfl)))
   | (intro row hrow; (try simp only [Int.toNat_natCast, List.length_map, toNat_pred, toNat_succ', toNat_zero', toNat_one'] at hrow); (first | (have hsm := same_map (by assumption) hrow; subst hsm; clear hrow) | (obtain ⟨p, hp, rfl⟩ := of_map hrow; clear hrow)))))
  all_goals (conv => whnf)
  all_goals (refine ⟨[0], ?_⟩)
  all_goals (repeat' (first | (with_reducible rfl) | exact trivial | ((conv => whnf); (first | (with_reducible refine And.intro ?_ ?_) | exact trivial | (intro hb; first | (exfalso; simp_all; done) | skip)))))
  all_goals (first | rfl)

set_option maxRecDepth 100000 in
set_option maxHeartbeats 400000 in
theorem rto_1 (e n nx tc : Int) (j : JobV) (he : 0 ≤ j.ep ∧ j.ep ≤ 1000) (pc : Int)  : FnM Tryd.prog 35 [.ptr 0 0, .int .i64 1, .int .i64 pc] [.cells [.sl [[.int .i64 1, .int .i64 e, .int .i64 n, .str [], .str []]], .int .i64 j.ph, .int .i64 j.sh, .int .i64 j.ep, .int .i64 j.fr, .int .i64 j.to, .int .i64 j.pc, .int .i64 j.ps, .str j.key, .int .i64 j.ot, .int .i64 j.oe, .int .i64 j.a, .int .i64 j.b, .int .i64 nx, .nils, .int .i64 tc]] (.sl [[.int .i64 7, .int .i64 100, .int .i64 j.fr, .int .i64 j.sh, .int .i64 j.ep, .int .i64 0, .int .i64 0, .int .i64 0, .int .i64 0, .str [], .str [], .str [], .int .i64 0, .nils, .int .i64 0, .str [], .int .i64 0, .nils, .str [], .str [], .nils, .nils, .nils, .str []]]) [.cells [.sl [[.int .i64 1, .int .i64 e, .int .i64 n, .str [], .str []]], .int .i64 1, .int .i64 j.sh, .int .i64 j.ep, .int .i64 j.fr, .int .i64 j.to, .int .i64 pc, .int .i64 j.ps, .str j.key, .int .i64 j.ot, .int .i64 j.oe, .int .i64 j.a, .int .i64 j.b, .int .i64 nx, .nils, .int .i64 0]] := by
  refine FnM.mk' base Tryd.func35 rfl rfl rfl rfl ?_
  repeat' ((conv => whnf); (first
   | (with_reducible first | refine AW.seq ?_ | refine AW.region base (by kernel_rfl) ?_ | refine AW.cond ?_ | refine AW.block ?_ | refine AW.ret ?_ | refine AW.exit ?_ | refine AW.skip ?_ | refine Br.t ?_ | refine Br.f ?_)
   | (with_reducible refine Br.mkT (fun hb => (by (first | (simp at hb; done) | omega | (simp only [decide_eq_true_eq, decide_eq_false_iff_not, Bool.not_eq_true', Bool.not_eq_false'] at hb; first | omega | fail) | fail))) (fun hb => ?_))
   | (with_reducible refine Br.mkF (fun hb => (by (first | (simp at hb; done) | omega | (simp only [decide_eq_true_eq, decide_eq_false_iff_not, Bool.not_eq_true', Bool.not_eq_false'] at hb; first | omega | fail) | fail))) (fun hb => ?_))
   | ((with_reducible refine Or.inl ?_); (conv => whnf); (with_reducible refine And.intro LitSl.mk ?_))
   | refine Br.t ?_
   | refine Br.f ?_
   | (with_reducible refine Or.inr ⟨[?_], _, _, _, _, rsaid_1 e n nx 0 ⟨1, j.sh, j.ep, j.fr, j.to, pc, j.ps, j.key, j.ot, j.oe, j.a, j.b⟩ he, ?_⟩)
   | (with_reducible refine Or.inr (Or.inr ⟨[?_], _, _, _, _, rsaid_1 e n nx 0 ⟨1, j.sh, j.ep, j.fr, j.to, pc, j.ps, j.key, j.ot, j.oe, j.a, j.b⟩ he, ?_⟩))
   | (with_reducible refine Br.mk (fun hb => ?_) (fun hb => ?_) <;> (try rw [hb]) <;> (try simp only [List.length_map, decide_eq_true_eq, decide_eq_false_iff_not, Bool.not_eq_true', Bool.not_eq_false', Int.ofNat_lt, Int.ofNat_le, Int.not_lt, Int.not_le, Int.toNat_natCast] at hb))
   | ((with_reducible first | refine Or.inl (And.intro ?_ ?_) | refine And.intro ?_ ?_); (focus (first | with_reducible rfl | exact trivial | (exact ⟨rfl, trivial⟩) | (exact ⟨rfl, rfl, trivial⟩) | omega | (intro r hr; simp only [List.mem_singleton] at hr; subst hr; rfl)  | ((simp only [in64, maxLen] at *; omega)) | ((simp only [List.length_map]; omega)) | ((exact ⟨by omega, by simp only [List.length_map]; omega⟩)) | (simp only [in64]; omega) | assumption | (simp; done) | (simp [V.cells]; done) | (simp [in64, maxLen, limK] at *; omega) | ((show confB _ _ = true); kernel_rfl) | rfl)))
   | (intro row hrow; (try simp only [Int.toNat_natCast, List.length_map, toNat_pred, toNat_succ', toNat_zero', toNat_one'] at hrow); (first | (have hsm := same_map (by assumption) hrow; subst hsm; clear hrow) | (obtain ⟨p, hp, rfl⟩ := of_map hrow; clear hrow)))))
  all_goals (conv => whnf)
  all_goals (refine ⟨[0], ?_⟩)
  all_goals (repeat' (first | (with_reducible rfl) | exact trivial | ((conv => whnf); (first | (with_reducible refine And.intro ?_ ?_) | exact trivial | (intro hb; first | (exfalso; simp_all; done) | skip)))))
  all_goals (first | rfl)

set_option maxRecDepth 100000 in
set_option maxHeartbeats 400000 in
theorem rsaid_2 (e n nx tc : Int) (j : JobV) (ps : List Bs) (hps : ps.length ≤ 10) (he : 0 ≤ j.ep ∧ j.ep ≤ 1000)  : FnM Tryd.prog 57 [.ptr 0 0] [.cells [.sl [[.int .i64 1, .int .i64 e, .int .i64 n, .str [], .str []]], .int .i64 2, .int .i64 j.sh, .int .i64 j.ep, .int .i64 j.fr, .int .i64 j.to, .int .i64 j.pc, .int .i64 j.ps, .str j.key, .int .i64 j.ot, .int .i64 j.oe, .int .i64 j.a, .int .i64 j.b, .int .i64 nx, .sl (ps.map encP), .int .i64 tc]] (.sl [[.int .i64 9, .int .i64 100, .int .i64 j.fr, .int .i64 j.sh, .int .i64 j.ep, .int .i64 j.pc, .int .i64 0, .int .i64 0, .int .i64 0, .str [], .str [], .str [], .int .i64 0, .nils, .int .i64 0, .str [], .int .i64 0, .nils, .str [], .str [], .nils, .nils, .nils, .str []]]) [.cells [.sl [[.int .i64 1, .int .i64 e, .int .i64 n, .str [], .str []]], .int .i64 2, .int .i64 j.sh, .int .i64 j.ep, .int .i64 j.fr, .int .i64 j.to, .int .i64 j.pc, .int .i64 j.ps, .str j.key, .int .i64 j.ot, .int .i64 j.oe, .int .i64 j.a, .int .i64 j.b, .int .i64 nx, .sl (ps.map encP), .int .i64 tc]] := by
  refine FnM.mk' base Tryd.func57 rfl rfl rfl rfl ?_
  repeat' ((conv => whnf); (first
   | (with_reducible first | refine AW.seq ?_ | refine AW.region base (by kernel_rfl) ?_ | refine AW.cond ?_ | refine AW.block ?_ | refine AW.ret ?_ | refine AW.exit ?_ | refine AW.skip ?_ | refine Br.t ?_ | refine Br.f ?_)
   | (with_reducible refine Br.mkT (fun hb => (by (first | (simp at hb; done) | omega | (simp only [decide_eq_true_eq, decide_eq_false_iff_not, Bool.not_eq_true', Bool.not_eq_false'] at hb; first | omega | fail) | fail))) (fun hb => ?_))
   | (with_reducible refine Br.mkF (fun hb => (by (first | (simp at hb; done) | omega | (simp only [decide_eq_true_eq, decide_eq_false_iff_not, Bool.not_eq_true', Bool.not_eq_false'] at hb; first | omega | fail) | fail))) (fun hb => ?_))
   | ((with_reducible refine Or.inl ?_); (conv => whnf); (with_reducible refine And.intro LitSl.mk ?_))
   | refine Br.t ?_
   | refine Br.f ?_
   | (with_reducible refine Br.mk (fun hb => ?_) (fun hb => ?_) <;> (try rw [hb]) <;> (try simp only [List.length_map, decide_eq_true_eq, decide_eq_false_iff_not, Bool.not_eq_true', Bool.not_eq_false', Int.ofNat_lt, Int.ofNat_le, Int.not_lt, Int.not_le, Int.toNat_natCast] at hb))
   | ((with_reducible first | refine Or.inl (And.intro ?_ ?_) | refine And.intro ?_ ?_); (focus (first | with_reducible rfl | exact trivial | (exact ⟨rfl, trivial⟩) | (exact ⟨rfl, rfl, trivial⟩) | omega | (intro r hr; simp only [List.mem_singleton] at hr; subst hr; rfl)  | ((simp only [in64, maxLen] at *; omega)) | ((simp only [List.length_map]; omega)) | ((exact ⟨by omega, by simp only [List.length_map]; omega⟩)) | (simp only [in64]; omega) | assumption | (simp; done) | (simp [V.cells]; done) | (simp [in64, maxLen, limK] at *; omega) | ((show confB _ _ = true); kernel_rfl) | rfl)))
   | (intro row hrow; (try simp only [Int.toNat_natCast, List.length_map, toNat_pred, toNat_succ', toNat_zero', toNat_one'] at hrow); (first | (have hsm := same_map (by assumption) hrow; subst hsm; clear hrow) | (obtain ⟨p, hp, rfl⟩ := of_map hrow; clear hrow)))))
  all_goals (conv => whnf)
  all_goals (refine ⟨[0], ?_⟩)
  all_goals (repeat' (first | (with_reducible rfl) | exact trivial | ((conv => whnf); (first | (with_reducible refine And.intro ?_ ?_) | exact trivial | (intro hb; first | (exfalso; simp_all; done) | skip)))))
  all_goals (first | rfl)

set_option maxRecDepth 100000 in
set_option maxHeartbeats 400000 in
theorem rto_2 (e n nx tc : Int) (j : JobV) (ps : List Bs) (hps : ps.length ≤ 10) (he : 0 ≤ j.ep ∧ j.ep ≤ 1000) (pc : Int)  : FnM Tryd.prog 35 [.ptr 0 0, .int .i64 2, .int .i64 pc] [.cells [.sl [[.int .i64 1, .int .i64 e, .int .i64 n, .str [], .str []]], .int .i64 j.ph, .int .i64 j.sh, .int .i64 j.ep, .int .i64 j.fr, .int .i64 j.to, .int .i64 j.pc, .int .i64 j.ps, .str j.key, .int .i64 j.ot, .int .i64 j.oe, .int .i64 j.a, .int .i64 j.b, .int .i64 nx, .sl (ps.map encP), .int .i64 tc]] (.sl [[.int .i64 9, .int .i64 100, .int .i64 j.fr, .int .i64 j.sh, .int .i64 j.ep, .int .i64 pc, .int .i64 0, .int .i64 0, .int .i64 0, .str [], .str [], .str [], .int .i64 0, .nils, .int .i64 0, .str [], .int .i64 0, .nils, .str [], .str [], .nils, .nils, .nils, .str []]]) [.cells [.sl [[.int .i64 1, .int .i64 e, .int .i64 n, .str [], .str []]], .int .i64 2, .int .i64 j.sh, .int .i64 j.ep, .int .i64 j.fr, .int .i64 j.to, .int .i64 pc, .int .i64 j.ps, .str j.key, .int .i64 j.ot, .int .i64 j.oe, .int .i64 j.a, .int .i64 j.b, .int .i64 nx, .sl (ps.map encP), .int .i64 0]] := by
  refine FnM.mk' base Tryd.func35 rfl rfl rfl rfl ?_
  repeat' ((conv => whnf); (first
   | (with_reducible first | refine AW.seq ?_ | refine AW.region base (by kernel_rfl) ?_ | refine AW.cond ?_ | refine AW.block ?_ | refine AW.ret ?_ | refine AW.exit ?_ | refine AW.skip ?_ | refine Br.t ?_ | refine Br.f ?_)
   | (with_reducible refine Br.mkT (fun hb => (by (first | (simp at hb; done) | omega | (simp only [decide_eq_true_eq, decide_eq_false_iff_not, Bool.not_eq_true', Bool.not_eq_false'] at hb; first | omega | fail) | fail))) (fun hb => ?_))
   | (with_reducible refine Br.mkF (fun hb => (by (first | (simp at hb; done) | omega | (simp only [decide_eq_true_eq, decide_eq_false_iff_not, Bool.not_eq_true', Bool.not_eq_false'] at hb; first | omega | fail) | fail))) (fun hb => ?_))
   | ((with_reducible refine Or.inl ?_); (conv => whnf); (with_reducible refine And.intro LitSl.mk ?_))
   | refine Br.t ?_
   | refine Br.f ?_
   | (with_reducible refine Or.inr ⟨[?_], _, _, _, _, rsaid_2 e n nx 0 ⟨2, j.sh, j.ep, j.fr, j.to, pc, j.ps, j.key, j.ot, j.oe, j.a, j.b⟩ ps hps he, ?_⟩)
   | (with_reducible refine Or.inr (Or.inr ⟨[?_], _, _, _, _, rsaid_2 e n nx 0 ⟨2, j.sh, j.ep, j.fr, j.to, pc, j.ps, j.key, j.ot, j.oe, j.a, j.b⟩ ps hps he, ?_⟩))
   | (with_reducible refine Br.mk (fun hb => ?_) (fun hb => ?_) <;> (try rw [hb]) <;> (try simp only [List.length_map, decide_eq_true_eq, decide_eq_false_iff_not, Bool.not_eq_true', Bool.not_eq_false', Int.ofNat_lt, Int.ofNat_le, Int.not_lt, Int.not_le, Int.toNat_natCast] at hb))
   | ((with_reducible first | refine Or.inl (And.intro ?_ ?_) | refine And.intro ?_ ?_); (focus (first | with_reducible rfl | exact trivial | (exact ⟨rfl, trivial⟩) | (exact ⟨rfl, rfl, trivial⟩) | omega | (intro r hr; simp only [List.mem_singleton] at hr; subst hr; rfl)  | ((simp only [in64, maxLen] at *; omega)) | ((simp only [List.length_map]; omega)) | ((exact ⟨by omega, by simp only [List.length_map]; omega⟩)) | (simp only [in64]; omega) | assumption | (simp; done) | (simp [V.cells]; done) | (simp [in64, maxLen, limK] at *; omega) | ((show confB _ _ = true); kernel_rfl) | rfl)))
   | (intro row hrow; (try simp only [Int.toNat_natCast, List.length_map, toNat_pred, toNat_succ', toNat_zero', toNat_one'] at hrow); (first | (have hsm := same_map (by assumption) hrow; subst hsm; clear hrow) | (obtain ⟨p, hp, rfl⟩ := of_map hrow; clear hrow)))))
  all_goals (conv => whnf)
  all_goals (refine ⟨[0], ?_⟩)
  all_goals (repeat' (first | (with_reducible rfl) | exact trivial | ((conv => whnf); (first | (with_reducible refine And.intro ?_ ?_) | exact trivial | (intro hb; first | (exfalso; simp_all; done) | skip)))))
  all_goals (first | rfl)

set_option maxRecDepth 100000 in
set_option maxHeartbeats 400000 in
theorem rsaid_3 (e n nx tc : Int) (j : JobV) (ps : List Bs) (hps : ps.length ≤ 10) (he : 0 ≤ j.ep ∧ j.ep ≤ 1000) (data : Bs) (hp0 : 0 ≤ j.pc) (hp : ps[j.pc.toNat]? = some data)  : FnM Tryd.prog 57 [.ptr 0 0] [.cells [.sl [[.int .i64 1, .int .i64 e, .int .i64 n, .str [], .str []]], .int .i64 3, .int .i64 j.sh, .int .i64 j.ep, .int .i64 j.fr, .int .i64 j.to, .int .i64 j.pc, .int .i64 j.ps, .str j.key, .int .i64 j.ot, .int .i64 j.oe, .int .i64 j.a, .int .i64 j.b, .int .i64 nx, .sl (ps.map encP), .int .i64 tc]] (.sl [[.int .i64 11, .int .i64 100, .int .i64 j.to, .int .i64 j.sh, .int .i64 (j.ep + 1), .int .i64 j.pc, .int .i64 0, .int .i64 0, .int .i64 0, .str [], .str [], .str [], .int .i64 0, .nils, .int .i64 0, .str [], .int .i64 0, .nils, .str [], .str [], .nils, .nils, .nils, .str data]]) [.cells [.sl [[.int .i64 1, .int .i64 e, .int .i64 n, .str [], .str []]], .int .i64 3, .int .i64 j.sh, .int .i64 j.ep, .int .i64 j.fr, .int .i64 j.to, .int .i64 j.pc, .int .i64 j.ps, .str j.key, .int .i64 j.ot, .int .i64 j.oe, .int .i64 j.a, .int .i64 j.b, .int .i64 nx, .sl (ps.map encP), .int .i64 tc]] := by
  refine FnM.mk' base Tryd.func57 rfl rfl rfl rfl ?_
  have hlt := (List.getElem?_eq_some_iff.1 hp).1
  repeat' ((conv => whnf); (first
   | (with_reducible first | refine AW.seq ?_ | refine AW.region base (by kernel_rfl) ?_ | refine AW.cond ?_ | refine AW.block ?_ | refine AW.ret ?_ | refine AW.exit ?_ | refine AW.skip ?_ | refine Br.t ?_ | refine Br.f ?_)
   | (with_reducible refine Br.mkT (fun hb => (by (first | (simp at hb; done) | omega | (simp only [decide_eq_true_eq, decide_eq_false_iff_not, Bool.not_eq_true', Bool.not_eq_false'] at hb; first | omega | fail) | fail))) (fun hb => ?_))
   | (with_reducible refine Br.mkF (fun hb => (by (first | (simp at hb; done) | omega | (simp only [decide_eq_true_eq, decide_eq_false_iff_not, Bool.not_eq_true', Bool.not_eq_false'] at hb; first | omega | fail) | fail))) (fun hb => ?_))
   | ((with_reducible refine Or.inl ?_); (conv => whnf); (with_reducible refine And.intro LitSl.mk ?_))
   | refine Br.t ?_
   | refine Br.f ?_
   | (with_reducible refine Br.mk (fun hb => ?_) (fun hb => ?_) <;> (try rw [hb]) <;> (try simp only [List.length_map, decide_eq_true_eq, decide_eq_false_iff_not, Bool.not_eq_true', Bool.not_eq_false', Int.ofNat_lt, Int.ofNat_le, Int.not_lt, Int.not_le, Int.toNat_natCast] at hb))
   | ((with_reducible first | refine Or.inl (And.intro ?_ ?_) | refine And.intro ?_ ?_); (focus (first | with_reducible rfl | exact trivial | (exact ⟨rfl, trivial⟩) | (exact ⟨rfl, rfl, trivial⟩) | omega | (intro r hr; simp only [List.mem_singleton] at hr; subst hr; rfl)  | ((simp only [in64, maxLen] at *; omega)) | ((simp only [List.length_map]; omega)) | ((exact ⟨by omega, by simp only [List.length_map]; omega⟩)) | (simp only [in64]; omega) | assumption | (simp; done) | (simp [V.cells]; done) | (simp [in64, maxLen, limK] at *; omega) | ((show confB _ _ = true); kernel_rfl) | rfl)))
   | (intro row hrow; (try simp only [Int.toNat_natCast, List.length_map, toNat_pred, toNat_succ', toNat_zero', toNat_one'] at hrow); (first | (have hsm := same_map (by assumption) hrow; subst hsm; clear hrow) | (obtain ⟨p, hp, rfl⟩ := of_map hrow; clear hrow)))))
  all_goals (conv => whnf)
  all_goals (refine ⟨[0], ?_⟩)
  all_goals (repeat' (first | (with_reducible rfl) | exact trivial | ((conv => whnf); (first | (with_reducible refine And.intro ?_ ?_) | exact trivial | (intro hb; first | (exfalso; simp_all; done) | skip)))))
  all_goals (first | rfl)

set_option maxRecDepth 100000 in
set_option maxHeartbeats 400000 in
theorem rto_3 (e n nx tc : Int) (j : JobV) (ps : List Bs) (hps : ps.length ≤ 10) (he : 0 ≤ j.ep ∧ j.ep ≤ 1000) (pc : Int) (data : Bs) (hp0 : 0 ≤ pc) (hp : ps[pc.toNat]? = some data)  : FnM Tryd.prog 35 [.ptr 0 0, .int .i64 3, .int .i64 pc] [.cells [.sl [[.int .i64 1, .int .i64 e, .int .i64 n, .str [], .str []]], .int .i64 j.ph, .int .i64 j.sh, .int .i64 j.ep, .int .i64 j.fr, .int .i64 j.to, .int .i64 j.pc, .int .i64 j.ps, .str j.key, .int .i64 j.ot, .int .i64 j.oe, .int .i64 j.a, .int .i64 j.b, .int .i64 nx, .sl (ps.map encP), .int .i64 tc]] (.sl [[.int .i64 11, .int .i64 100, .int .i64 j.to, .int .i64 j.sh, .int .i64 (j.ep + 1), .int .i64 pc, .int .i64 0, .int .i64 0, .int .i64 0, .str [], .str [], .str [], .int .i64 0, .nils, .int .i64 0, .str [], .int .i64 0, .nils, .str [], .str [], .nils, .nils, .nils, .str data]]) [.cells [.sl [[.int .i64 1, .int .i64 e, .int .i64 n, .str [], .str []]], .int .i64 3, .int .i64 j.sh, .int .i64 j.ep, .int .i64 j.fr, .int .i64 j.to, .int .i64 pc, .int .i64 j.ps, .str j.key, .int .i64 j.ot, .int .i64 j.oe, .int .i64 j.a, .int .i64 j.b, .int .i64 nx, .sl (ps.map encP), .int .i64 0]] := by
  refine FnM.mk' base Tryd.func35 rfl rfl rfl rfl ?_
  repeat' ((conv => whnf); (first
   | (with_reducible first | refine AW.seq ?_ | refine AW.region base (by kernel_rfl) ?_ | refine AW.cond ?_ | refine AW.block ?_ | refine AW.ret ?_ | refine AW.exit ?_ | refine AW.skip ?_ | refine Br.t ?_ | refine Br.f ?_)
   | (with_reducible refine Br.mkT (fun hb => (by (first | (simp at hb; done) | omega | (simp only [decide_eq_true_eq, decide_eq_false_iff_not, Bool.not_eq_true', Bool.not_eq_false'] at hb; first | omega | fail) | fail))) (fun hb => ?_))
   | (with_reducible refine Br.mkF (fun hb => (by (first | (simp at hb; done) | omega | (simp only [decide_eq_true_eq, decide_eq_false_iff_not, Bool.not_eq_true', Bool.not_eq_false'] at hb; first | omega | fail) | fail))) (fun hb => ?_))
   | ((with_reducible refine Or.inl ?_); (conv => whnf); (with_reducible refine And.intro LitSl.mk ?_))
   | refine Br.t ?_
   | refine Br.f ?_
   | (with_reducible refine Or.inr ⟨[?_], _, _, _, _, rsaid_3 e n nx 0 ⟨3, j.sh, j.ep, j.fr, j.to, pc, j.ps, j.key, j.ot, j.oe, j.a, j.b⟩ ps hps he data hp0 hp, ?_⟩)
   | (with_reducible refine Or.inr (Or.inr ⟨[?_], _, _, _, _, rsaid_3 e n nx 0 ⟨3, j.sh, j.ep, j.fr, j.to, pc, j.ps, j.key, j.ot, j.oe, j.a, j.b⟩ ps hps he data hp0 hp, ?_⟩))
   | (with_reducible refine Br.mk (fun hb => ?_) (fun hb => ?_) <;> (try rw [hb]) <;> (try simp only [List.length_map, decide_eq_true_eq, decide_eq_false_iff_not, Bool.not_eq_true', Bool.not_eq_false', Int.ofNat_lt, Int.ofNat_le, Int.not_lt, Int.not_le, Int.toNat_natCast] at hb))
   | ((with_reducible first | refine Or.inl (And.intro ?_ ?_) | refine And.intro ?_ ?_); (focus (first | with_reducible rfl | exact trivial | (exact ⟨rfl, trivial⟩) | (exact ⟨rfl, rfl, trivial⟩) | omega | (intro r hr; simp only [List.mem_singleton] at hr; subst hr; rfl)  | ((simp only [in64, maxLen] at *; omega)) | ((simp only [List.length_map]; omega)) | ((exact ⟨by omega, by simp only [List.length_map]; omega⟩)) | (simp only [in64]; omega) | assumption | (simp; done) | (simp [V.cells]; done) | (simp [in64, maxLen, limK] at *; omega) | ((show confB _ _ = true); kernel_rfl) | rfl)))
   | (intro row hrow; (try simp only [Int.toNat_natCast, List.length_map, toNat_pred, toNat_succ', toNat_zero', toNat_one'] at hrow); (first | (have hsm := same_map (by assumption) hrow; subst hsm; clear hrow) | (obtain ⟨p, hp, rfl⟩ := of_map hrow; clear hrow)))))
  all_goals (conv => whnf)
  all_goals (refine ⟨[0], ?_⟩)
  all_goals (repeat' (first | (with_reducible rfl) | exact trivial | ((conv => whnf); (first | (with_reducible refine And.intro ?_ ?_) | exact trivial | (intro hb; first | (exfalso; simp_all; done) | skip)))))
  all_goals (first | rfl)

set_option maxRecDepth 100000 in
set_option maxHeartbeats 400000 in
theorem rsaid_4 (e n nx tc : Int) (j : JobV) (ps : List Bs) (hps : ps.length ≤ 10) (he : 0 ≤ j.ep ∧ j.ep ≤ 1000)  : FnM Tryd.prog 57 [.ptr 0 0] [.cells [.sl [[.int .i64 1, .int .i64 e, .int .i64 n, .str [], .str []]], .int .i64 4, .int .i64 j.sh, .int .i64 j.ep, .int .i64 j.fr, .int .i64 j.to, .int .i64 j.pc, .int .i64 j.ps, .str j.key, .int .i64 j.ot, .int .i64 j.oe, .int .i64 j.a, .int .i64 j.b, .int .i64 nx, .sl (ps.map encP), .int .i64 tc]] (.sl [[.int .i64 13, .int .i64 100, .int .i64 j.to, .int .i64 j.sh, .int .i64 (j.ep + 1), .int .i64 j.ps, .int .i64 0, .int .i64 0, .int .i64 0, .str [], .str [], .str [], .int .i64 0, .nils, .int .i64 0, .str [], .int .i64 0, .nils, .str [], .str [], .nils, .nils, .nils, .str []]]) [.cells [.sl [[.int .i64 1, .int .i64 e, .int .i64 n, .str [], .str []]], .int .i64 4, .int .i64 j.sh, .int .i64 j.ep, .int .i64 j.fr, .int .i64 j.to, .int .i64 j.pc, .int .i64 j.ps, .str j.key, .int .i64 j.ot, .int .i64 j.oe, .int .i64 j.a, .int .i64 j.b, .int .i64 nx, .sl (ps.map encP), .int .i64 tc]] := by
  refine FnM.mk' base Tryd.func57 rfl rfl rfl rfl ?_
  repeat' ((conv => whnf); (first
   | (with_reducible first | refine AW.seq ?_ | refine AW.region base (by kernel_rfl) ?_ | refine AW.cond ?_ | refine AW.block ?_ | refine AW.ret ?_ | refine AW.exit ?_ | refine AW.skip ?_ | refine Br.t ?_ | refine Br.f ?_)
   | (with_reducible refine Br.mkT (fun hb => (by (first | (simp at hb; done) | omega | (simp only [decide_eq_true_eq, decide_eq_false_iff_not, Bool.not_eq_true', Bool.not_eq_false'] at hb; first | omega | fail) | fail))) (fun hb => ?_))
   | (with_reducible refine Br.mkF (fun hb => (by (first | (simp at hb; done) | omega | (simp only [decide_eq_true_eq, decide_eq_false_iff_not, Bool.not_eq_true', Bool.not_eq_false'] at hb; first | omega | fail) | fail))) (fun hb => ?_))
   | ((with_reducible refine Or.inl ?_); (conv => whnf); (with_reducible refine And.intro LitSl.mk ?_))
   | refine Br.t ?_
   | refine Br.f ?_
   | (with_reducible refine Br.mk (fun hb => ?_) (fun hb => ?_) <;> (try rw [hb]) <;> (try simp only [List.length_map, decide_eq_true_eq, decide_eq_false_iff_not, Bool.not_eq_true', Bool.not_eq_false', Int.ofNat_lt, Int.ofNat_le, Int.not_lt, Int.not_le, Int.toNat_natCast] at hb))
   | ((with_reducible first | refine Or.inl (And.intro ?_ ?_) | refine And.intro ?_ ?_); (focus (first | with_reducible rfl | exact trivial | (exact ⟨rfl, trivial⟩) | (exact ⟨rfl, rfl, trivial⟩) | omega | (intro r hr; simp only [List.mem_singleton] at hr; subst hr; rfl)  | ((simp only [in64, maxLen] at *; omega)) | ((simp only [List.length_map]; omega)) | ((exact ⟨by omega, by simp only [List.length_map]; omega⟩)) | (simp only [in64]; omega) | assumption | (simp; done) | (simp [V.cells]; done) | (simp [in64, maxLen, limK] at *; omega) | ((show confB _ _ = true); kernel_rfl) | rfl)))
   | (intro row hrow; (try simp only [Int.toNat_natCast, List.length_map, toNat_pred, toNat_succ', toNat_zero', toNat_one'] at hrow); (first | (have hsm := same_map (by assumption) hrow; subst hsm; clear hrow) | (obtain ⟨p, hp, rfl⟩ := of_map hrow; clear hrow)))))
  all_goals (conv => whnf)
  all_goals (refine ⟨[0], ?_⟩)
  all_goals (repeat' (first | (with_reducible rfl) | exact trivial | ((conv => whnf); (first | (with_reducible refine And.intro ?_ ?_) | exact trivial | (intro hb; first | (exfalso; simp_all; done) | skip)))))
  all_goals (first | rfl)

set_option maxRecDepth 100000 in
set_option maxHeartbeats 400000 in
theorem rto_4 (e n nx tc : Int) (j : JobV) (ps : List Bs) (hps : ps.length ≤ 10) (he : 0 ≤ j.ep ∧ j.ep ≤ 1000) (pc : Int)  : FnM Tryd.prog 35 [.ptr 0 0, .int .i64 4, .int .i64 pc] [.cells [.sl [[.int .i64 1, .int .i64 e, .int .i64 n, .str [], .str []]], .int .i64 j.ph, .int .i64 j.sh, .int .i64 j.ep, .int .i64 j.fr, .int .i64 j.to, .int .i64 j.pc, .int .i64 j.ps, .str j.key, .int .i64 j.ot, .int .i64 j.oe, .int .i64 j.a, .int .i64 j.b, .int .i64 nx, .sl (ps.map encP), .int .i64 tc]] (.sl [[.int .i64 13, .int .i64 100, .int .i64 j.to, .int .i64 j.sh, .int .i64 (j.ep + 1), .int .i64 j.ps, .int .i64 0, .int .i64 0, .int .i64 0, .str [], .str [], .str [], .int .i64 0, .nils, .int .i64 0, .str [], .int .i64 0, .nils, .str [], .str [], .nils, .nils, .nils, .str []]]) [.cells [.sl [[.int .i64 1, .int .i64 e, .int .i64 n, .str [], .str []]], .int .i64 4, .int .i64 j.sh, .int .i64 j.ep, .int .i64 j.fr, .int .i64 j.to, .int .i64 pc, .int .i64 j.ps, .str j.key, .int .i64 j.ot, .int .i64 j.oe, .int .i64 j.a, .int .i64 j.b, .int .i64 nx, .sl (ps.map encP), .int .i64 0]] := by
  refine FnM.mk' base Tryd.func35 rfl rfl rfl rfl ?_
  repeat' ((conv => whnf); (first
   | (with_reducible first | refine AW.seq ?_ | refine AW.region base (by kernel_rfl) ?_ | refine AW.cond ?_ | refine AW.block ?_ | refine AW.ret ?_ | refine AW.exit ?_ | refine AW.skip ?_ | refine Br.t ?_ | refine Br.f ?_)
   | (with_reducible refine Br.mkT (fun hb => (by (first | (simp at hb; done) | omega | (simp only [decide_eq_true_eq, decide_eq_false_iff_not, Bool.not_eq_true', Bool.not_eq_false'] at hb; first | omega | fail) | fail))) (fun hb => ?_))
   | (with_reducible refine Br.mkF (fun hb => (by (first | (simp at hb; done) | omega | (simp only [decide_eq_true_eq, decide_eq_false_iff_not, Bool.not_eq_true', Bool.not_eq_false'] at hb; first | omega | fail) | fail))) (fun hb => ?_))
   | ((with_reducible refine Or.inl ?_); (conv => whnf); (with_reducible refine And.intro LitSl.mk ?_))
   | refine Br.t ?_
   | refine Br.f ?_
   | (with_reducible refine Or.inr ⟨[?_], _, _, _, _, rsaid_4 e n nx 0 ⟨4, j.sh, j.ep, j.fr, j.to, pc, j.ps, j.key, j.ot, j.oe, j.a, j.b⟩ ps hps he, ?_⟩)
   | (with_reducible refine Or.inr (Or.inr ⟨[?_], _, _, _, _, rsaid_4 e n nx 0 ⟨4, j.sh, j.ep, j.fr, j.to, pc, j.ps, j.key, j.ot, j.oe, j.a, j.b⟩ ps hps he, ?_⟩))
   | (with_reducible refine Br.mk (fun hb => ?_) (fun hb => ?_) <;> (try rw [hb]) <;> (try simp only [List.length_map, decide_eq_true_eq, decide_eq_false_iff_not, Bool.not_eq_true', Bool.not_eq_false', Int.ofNat_lt, Int.ofNat_le, Int.not_lt, Int.not_le, Int.toNat_natCast] at hb))
   | ((with_reducible first | refine Or.inl (And.intro ?_ ?_) | refine And.intro ?_ ?_); (focus (first | with_reducible rfl | exact trivial | (exact ⟨rfl, trivial⟩) | (exact ⟨rfl, rfl, trivial⟩) | omega | (intro r hr; simp only [List.mem_singleton] at hr; subst hr; rfl)  | ((simp only [in64, maxLen] at *; omega)) | ((simp only [List.length_map]; omega)) | ((exact ⟨by omega, by simp only [List.length_map]; omega⟩)) | (simp only [in64]; omega) | assumption | (simp; done) | (simp [V.cells]; done) | (simp [in64, maxLen, limK] at *; omega) | ((show confB _ _ = true); kernel_rfl) | rfl)))
   | (intro row hrow; (try simp only [Int.toNat_natCast, List.length_map, toNat_pred, toNat_succ', toNat_zero', toNat_one'] at hrow); (first | (have hsm := same_map (by assumption) hrow; subst hsm; clear hrow) | (obtain ⟨p, hp, rfl⟩ := of_map hrow; clear hrow)))))
  all_goals (conv => whnf)
  all_goals (refine ⟨[0], ?_⟩)
  all_goals (repeat' (first | (with_reducible rfl) | exact trivial | ((conv => whnf); (first | (with_reducible refine And.intro ?_ ?_) | exact trivial | (intro hb; first | (exfalso; simp_all; done) | skip)))))
  all_goals (first | rfl)

set_option maxRecDepth 100000 in
set_option maxHeartbeats 400000 in
theorem rsaid_5 (e n nx tc : Int) (j : JobV) (ps : List Bs) (hps : ps.length ≤ 10) (he : 0 ≤ j.ep ∧ j.ep ≤ 1000)  : FnM Tryd.prog 57 [.ptr 0 0] [.cells [.sl [[.int .i64 1, .int .i64 e, .int .i64 n, .str [], .str []]], .int .i64 5, .int .i64 j.sh, .int .i64 j.ep, .int .i64 j.fr, .int .i64 j.to, .int .i64 j.pc, .int .i64 j.ps, .str j.key, .int .i64 j.ot, .int .i64 j.oe, .int .i64 j.a, .int .i64 j.b, .int .i64 nx, .sl (ps.map encP), .int .i64 tc]] (.sl [[.int .i64 17, .int .i64 100, .int .i64 j.fr, .int .i64 j.sh, .int .i64 j.ep, .int .i64 0, .int .i64 0, .int .i64 0, .int .i64 0, .str [], .str [], .str [], .int .i64 0, .nils, .int .i64 0, .str [], .int .i64 0, .nils, .str [], .str [], .nils, .nils, .nils, .str []]]) [.cells [.sl [[.int .i64 1, .int .i64 e, .int .i64 n, .str [], .str []]], .int .i64 5, .int .i64 j.sh, .int .i64 j.ep, .int .i64 j.fr, .int .i64 j.to, .int .i64 j.pc, .int .i64 j.ps, .str j.key, .int .i64 j.ot, .int .i64 j.oe, .int .i64 j.a, .int .i64 j.b, .int .i64 nx, .sl (ps.map encP), .int .i64 tc]] := by
  refine FnM.mk' base Tryd.func57 rfl rfl rfl rfl ?_
  repeat' ((conv => whnf); (first
   | (with_reducible first | refine AW.seq ?_ | refine AW.region base (by kernel_rfl) ?_ | refine AW.cond ?_ | refine AW.block ?_ | refine AW.ret ?_ | refine AW.exit ?_ | refine AW.skip ?_ | refine Br.t ?_ | refine Br.f ?_)
   | (with_reducible refine Br.mkT (fun hb => (by (first | (simp at hb; done) | omega | (simp only [decide_eq_true_eq, decide_eq_false_iff_not, Bool.not_eq_true', Bool.not_eq_false'] at hb; first | omega | fail) | fail))) (fun hb => ?_))
   | (with_reducible refine Br.mkF (fun hb => (by (first | (simp at hb; done) | omega | (simp only [decide_eq_true_eq, decide_eq_false_iff_not, Bool.not_eq_true', Bool.not_eq_false'] at hb; first | omega | fail) | fail))) (fun hb => ?_))
   | ((with_reducible refine Or.inl ?_); (conv => whnf); (with_reducible refine And.intro LitSl.mk ?_))
   | refine Br.t ?_
   | refine Br.f ?_
   | (with_reducible refine Br.mk (fun hb => ?_) (fun hb => ?_) <;> (try rw [hb]) <;> (try simp only [List.length_map, decide_eq_true_eq, decide_eq_false_iff_not, Bool.not_eq_true', Bool.not_eq_false', Int.ofNat_lt, Int.ofNat_le, Int.not_lt, Int.not_le, Int.toNat_natCast] at hb))
   | ((with_reducible first | refine Or.inl (And.intro ?_ ?_) | refine And.intro ?_ ?_); (focus (first | with_reducible rfl | exact trivial | (exact ⟨rfl, trivial⟩) | (exact ⟨rfl, rfl, trivial⟩) | omega | (intro r hr; simp only [List.mem_singleton] at hr; subst hr; rfl)  | ((simp only [in64, maxLen] at *; omega)) | ((simp only [List.length_map]; omega)) | ((exact ⟨by omega, by simp only [List.length_map]; omega⟩)) | (simp only [in64]; omega) | assumption | (simp; done) | (simp [V.cells]; done) | (simp [in64, maxLen, limK] at *; omega) | ((show confB _ _ = true); kernel_rfl) | rfl)))
   | (intro row hrow; (try simp only [Int.toNat_natCast, List.length_map, toNat_pred, toNat_succ', toNat_zero', toNat_one'] at hrow); (first | (have hsm := same_map (by assumption) hrow; subst hsm; clear hrow) | (obtain ⟨p, hp, rfl⟩ := of_map hrow; clear hrow)))))
  all_goals (conv => whnf)
  all_goals (refine ⟨[0], ?_⟩)
  all_goals (repeat' (first | (with_reducible rfl) | exact trivial | ((conv => whnf); (first | (with_reducible refine And.intro ?_ ?_) | exact trivial | (intro hb; first | (exfalso; simp_all; done) | skip)))))
  all_goals (first | rfl)

set_option maxRecDepth 100000 in
set_option maxHeartbeats 400000 in
theorem rto_5 (e n nx tc : Int) (j : JobV) (ps : List Bs) (hps : ps.length ≤ 10) (he : 0 ≤ j.ep ∧ j.ep ≤ 1000) (pc : Int)  : FnM Tryd.prog 35 [.ptr 0 0, .int .i64 5, .int .i64 pc] [.cells [.sl [[.int .i64 1, .int .i64 e, .int .i64 n, .str [], .str []]], .int .i64 j.ph, .int .i64 j.sh, .int .i64 j.ep, .int .i64 j.fr, .int .i64 j.to, .int .i64 j.pc, .int .i64 j.ps, .str j.key, .int .i64 j.ot, .int .i64 j.oe, .int .i64 j.a, .int .i64 j.b, .int .i64 nx, .sl (ps.map encP), .int .i64 tc]] (.sl [[.int .i64 17, .int .i64 100, .int .i64 j.fr, .int .i64 j.sh, .int .i64 j.ep, .int .i64 0, .int .i64 0, .int .i64 0, .int .i64 0, .str [], .str [], .str [], .int .i64 0, .nils, .int .i64 0, .str [], .int .i64 0, .nils, .str [], .str [], .nils, .nils, .nils, .str []]]) [.cells [.sl [[.int .i64 1, .int .i64 e, .int .i64 n, .str [], .str []]], .int .i64 5, .int .i64 j.sh, .int .i64 j.ep, .int .i64 j.fr, .int .i64 j.to, .int .i64 pc, .int .i64 j.ps, .str j.key, .int .i64 j.ot, .int .i64 j.oe, .int .i64 j.a, .int .i64 j.b, .int .i64 nx, .sl (ps.map encP), .int .i64 0]] := by
  refine FnM.mk' base Tryd.func35 rfl rfl rfl rfl ?_
  repeat' ((conv => whnf); (first
   | (with_reducible first | refine AW.seq ?_ | refine AW.region base (by kernel_rfl) ?_ | refine AW.cond ?_ | refine AW.block ?_ | refine AW.ret ?_ | refine AW.exit ?_ | refine AW.skip ?_ | refine Br.t ?_ | refine Br.f ?_)
   | (with_reducible refine Br.mkT (fun hb => (by (first | (simp at hb; done) | omega | (simp only [decide_eq_true_eq, decide_eq_false_iff_not, Bool.not_eq_true', Bool.not_eq_false'] at hb; first | omega | fail) | fail))) (fun hb => ?_))
   | (with_reducible refine Br.mkF (fun hb => (by (first | (simp at hb; done) | omega | (simp only [decide_eq_true_eq, decide_eq_false_iff_not, Bool.not_eq_true', Bool.not_eq_false'] at hb; first | omega | fail) | fail))) (fun hb => ?_))
   | ((with_reducible refine Or.inl ?_); (conv => whnf); (with_reducible refine And.intro LitSl.mk ?_))
   | refine Br.t ?_
   | refine Br.f ?_
   | (with_reducible refine Or.inr ⟨[?_], _, _, _, _, rsaid_5 e n nx 0 ⟨5, j.sh, j.ep, j.fr, j.to, pc, j.ps, j.key, j.ot, j.oe, j.a, j.b⟩ ps hps he, ?_⟩)
   | (with_reducible refine Or.inr (Or.inr ⟨[?_], _, _, _, _, rsaid_5 e n nx 0 ⟨5, j.sh, j.ep, j.fr, j.to, pc, j.ps, j.key, j.ot, j.oe, j.a, j.b⟩ ps hps he, ?_⟩))
   | (with_reducible refine Br.mk (fun hb => ?_) (fun hb => ?_) <;> (try rw [hb]) <;> (try simp only [List.length_map, decide_eq_true_eq, decide_eq_false_iff_not, Bool.not_eq_true', Bool.not_eq_false', Int.ofNat_lt, Int.ofNat_le, Int.not_lt, Int.not_le, Int.toNat_natCast] at hb))
   | ((with_reducible first | refine Or.inl (And.intro ?_ ?_) | refine And.intro ?_ ?_); (focus (first | with_reducible rfl | exact trivial | (exact ⟨rfl, trivial⟩) | (exact ⟨rfl, rfl, trivial⟩) | omega | (intro r hr; simp only [List.mem_singleton] at hr; subst hr; rfl)  | ((simp only [in64, maxLen] at *; omega)) | ((simp only [List.length_map]; omega)) | ((exact ⟨by omega, by simp only [List.length_map]; omega⟩)) | (simp only [in64]; omega) | assumption | (simp; done) | (simp [V.cells]; done) | (simp [in64, maxLen, limK] at *; omega) | ((show confB _ _ = true); kernel_rfl) | rfl)))
   | (intro row hrow; (try simp only [Int.toNat_natCast, List.length_map, toNat_pred, toNat_succ', toNat_zero', toNat_one'] at hrow); (first | (have hsm := same_map (by assumption) hrow; subst hsm; clear hrow) | (obtain ⟨p, hp, rfl⟩ := of_map hrow; clear hrow)))))
  all_goals (conv => whnf)
  all_goals (refine ⟨[0], ?_⟩)
  all_goals (repeat' (first | (with_reducible rfl) | exact trivial | ((conv => whnf); (first | (with_reducible refine And.intro ?_ ?_) | exact trivial | (intro hb; first | (exfalso; simp_all; done) | skip)))))
  all_goals (first | rfl)

set_option maxRecDepth 100000 in
set_option maxHeartbeats 400000 in
theorem rsaid_6 (e n nx tc : Int) (j : JobV) (ps : List Bs) (hps : ps.length ≤ 10) (he : 0 ≤ j.ep ∧ j.ep ≤ 1000)  : FnM Tryd.prog 57 [.ptr 0 0] [.cells [.sl [[.int .i64 1, .int .i64 e, .int .i64 n, .str [], .str []]], .int .i64 6, .int .i64 j.sh, .int .i64 j.ep, .int .i64 j.fr, .int .i64 j.to, .int .i64 j.pc, .int .i64 j.ps, .str j.key, .int .i64 j.ot, .int .i64 j.oe, .int .i64 j.a, .int .i64 j.b, .int .i64 nx, .sl (ps.map encP), .int .i64 tc]] (.sl [[.int .i64 15, .int .i64 100, .int .i64 j.fr, .int .i64 j.sh, .int .i64 j.ep, .int .i64 0, .int .i64 0, .int .i64 0, .int .i64 0, .str [], .str [], .str [], .int .i64 0, .nils, .int .i64 0, .str [], .int .i64 0, .nils, .str [], .str [], .nils, .nils, .nils, .str []]]) [.cells [.sl [[.int .i64 1, .int .i64 e, .int .i64 n, .str [], .str []]], .int .i64 6, .int .i64 j.sh, .int .i64 j.ep, .int .i64 j.fr, .int .i64 j.to, .int .i64 j.pc, .int .i64 j.ps, .str j.key, .int .i64 j.ot, .int .i64 j.oe, .int .i64 j.a, .int .i64 j.b, .int .i64 nx, .sl (ps.map encP), .int .i64 tc]] := by
  refine FnM.mk' base Tryd.func57 rfl rfl rfl rfl ?_
  repeat' ((conv => whnf); (first
   | (with_reducible first | refine AW.seq ?_ | refine AW.region base (by kernel_rfl) ?_ | refine AW.cond ?_ | refine AW.block ?_ | refine AW.ret ?_ | refine AW.exit ?_ | refine AW.skip ?_ | refine Br.t ?_ | refine Br.f ?_)
   | (with_reducible refine Br.mkT (fun hb => (by (first | (simp at hb; done) | omega | (simp only [decide_eq_true_eq, decide_eq_false_iff_not, Bool.not_eq_true', Bool.not_eq_false'] at hb; first | omega | fail) | fail))) (fun hb => ?_))
   | (with_reducible refine Br.mkF (fun hb => (by (first | (simp at hb; done) | omega | (simp only [decide_eq_true_eq, decide_eq_false_iff_not, Bool.not_eq_true', Bool.not_eq_false'] at hb; first | omega | fail) | fail))) (fun hb => ?_))
   | ((with_reducible refine Or.inl ?_); (conv => whnf); (with_reducible refine And.intro LitSl.mk ?_))
   | refine Br.t ?_
   | refine Br.f ?_
   | (with_reducible refine Br.mk (fun hb => ?_) (fun hb => ?_) <;> (try rw [hb]) <;> (try simp only [List.length_map, decide_eq_true_eq, decide_eq_false_iff_not, Bool.not_eq_true', Bool.not_eq_false', Int.ofNat_lt, Int.ofNat_le, Int.not_lt, Int.not_le, Int.toNat_natCast] at hb))
   | ((with_reducible first | refine Or.inl (And.intro ?_ ?_) | refine And.intro ?_ ?_); (focus (first | with_reducible rfl | exact trivial | (exact ⟨rfl, trivial⟩) | (exact ⟨rfl, rfl, trivial⟩) | omega | (intro r hr; simp only [List.mem_singleton] at hr; subst hr; rfl)  | ((simp only [in64, maxLen] at *; omega)) | ((simp only [List.length_map]; omega)) | ((exact ⟨by omega, by simp only [List.length_map]; omega⟩)) | (simp only [in64]; omega) | assumption | (simp; done) | (simp [V.cells]; done) | (simp [in64, maxLen, limK] at *; omega) | ((show confB _ _ = true); kernel_rfl) | rfl)))
   | (intro row hrow; (try simp only [Int.toNat_natCast, List.length_map, toNat_pred, toNat_succ', toNat_zero', toNat_one'] at hrow); (first | (have hsm := same_map (by assumption) hrow; subst hsm; clear hrow) | (obtain ⟨p, hp, rfl⟩ := of_map hrow; clear hrow)))))
  all_goals (conv => whnf)
  all_goals (refine ⟨[0], ?_⟩)
  all_goals (repeat' (first | (with_reducible rfl) | exact trivial | ((conv => whnf); (first | (with_reducible refine And.intro ?_ ?_) | exact trivial | (intro hb; first | (exfalso; simp_all; done) | skip)))))
  all_goals (first | rfl)

set_option maxRecDepth 100000 in
set_option maxHeartbeats 400000 in
theorem rto_6 (e n nx tc : Int) (j : JobV) (ps : List Bs) (hps : ps.length ≤ 10) (he : 0 ≤ j.ep ∧ j.ep ≤ 1000) (pc : Int)  : FnM Tryd.prog 35 [.ptr 0 0, .int .i64 6, .int .i64 pc] [.cells [.sl [[.int .i64 1, .int .i64 e, .int .i64 n, .str [], .str []]], .int .i64 j.ph, .int .i64 j.sh, .int .i64 j.ep, .int .i64 j.fr, .int .i64 j.to, .int .i64 j.pc, .int .i64 j.ps, .str j.key, .int .i64 j.ot, .int .i64 j.oe, .int .i64 j.a, .int .i64 j.b, .int .i64 nx, .sl (ps.map encP), .int .i64 tc]] (.sl [[.int .i64 15, .int .i64 100, .int .i64 j.fr, .int .i64 j.sh, .int .i64 j.ep, .int .i64 0, .int .i64 0, .int .i64 0, .int .i64 0, .str [], .str [], .str [], .int .i64 0, .nils, .int .i64 0, .str [], .int .i64 0, .nils, .str [], .str [], .nils, .nils, .nils, .str []]]) [.cells [.sl [[.int .i64 1, .int .i64 e, .int .i64 n, .str [], .str []]], .int .i64 6, .int .i64 j.sh, .int .i64 j.ep, .int .i64 j.fr, .int .i64 j.to, .int .i64 pc, .int .i64 j.ps, .str j.key, .int .i64 j.ot, .int .i64 j.oe, .int .i64 j.a, .int .i64 j.b, .int .i64 nx, .sl (ps.map encP), .int .i64 0]] := by
  refine FnM.mk' base Tryd.func35 rfl rfl rfl rfl ?_
  repeat' ((conv => whnf); (first
   | (with_reducible first | refine AW.seq ?_ | refine AW.region base (by kernel_rfl) ?_ | refine AW.cond ?_ | refine AW.block ?_ | refine AW.ret ?_ | refine AW.exit ?_ | refine AW.skip ?_ | refine Br.t ?_ | refine Br.f ?_)
   | (with_reducible refine Br.mkT (fun hb => (by (first | (simp at hb; done) | omega | (simp only [decide_eq_true_eq, decide_eq_false_iff_not, Bool.not_eq_true', Bool.not_eq_false'] at hb; first | omega | fail) | fail))) (fun hb => ?_))
   | (with_reducible refine Br.mkF (fun hb => (by (first | (simp at hb; done) | omega | (simp only [decide_eq_true_eq, decide_eq_false_iff_not, Bool.not_eq_true', Bool.not_eq_false'] at hb; first | omega | fail) | fail))) (fun hb => ?_))
   | ((with_reducible refine Or.inl ?_); (conv => whnf); (with_reducible refine And.intro LitSl.mk ?_))
   | refine Br.t ?_
   | refine Br.f ?_
   | (with_reducible refine Or.inr ⟨[?_], _, _, _, _, rsaid_6 e n nx 0 ⟨6, j.sh, j.ep, j.fr, j.to, pc, j.ps, j.key, j.ot, j.oe, j.a, j.b⟩ ps hps he, ?_⟩)
   | (with_reducible refine Or.inr (Or.inr ⟨[?_], _, _, _, _, rsaid_6 e n nx 0 ⟨6, j.sh, j.ep, j.fr, j.to, pc, j.ps, j.key, j.ot, j.oe, j.a, j.b⟩ ps hps he, ?_⟩))
   | (with_reducible refine Br.mk (fun hb => ?_) (fun hb => ?_) <;> (try rw [hb]) <;> (try simp only [List.length_map, decide_eq_true_eq, decide_eq_false_iff_not, Bool.not_eq_true', Bool.not_eq_false', Int.ofNat_lt, Int.ofNat_le, Int.not_lt, Int.not_le, Int.toNat_natCast] at hb))
   | ((with_reducible first | refine Or.inl (And.intro ?_ ?_) | refine And.intro ?_ ?_); (focus (first | with_reducible rfl | exact trivial | (exact ⟨rfl, trivial⟩) | (exact ⟨rfl, rfl, trivial⟩) | omega | (intro r hr; simp only [List.mem_singleton] at hr; subst hr; rfl)  | ((simp only [in64, maxLen] at *; omega)) | ((simp only [List.length_map]; omega)) | ((exact ⟨by omega, by simp only [List.length_map]; omega⟩)) | (simp only [in64]; omega) | assumption | (simp; done) | (simp [V.cells]; done) | (simp [in64, maxLen, limK] at *; omega) | ((show confB _ _ = true); kernel_rfl) | rfl)))
   | (intro row hrow; (try simp only [Int.toNat_natCast, List.length_map, toNat_pred, toNat_succ', toNat_zero', toNat_one'] at hrow); (first | (have hsm := same_map (by assumption) hrow; subst hsm; clear hrow) | (obtain ⟨p, hp, rfl⟩ := of_map hrow; clear hrow)))))
  all_goals (conv => whnf)
  all_goals (refine ⟨[0], ?_⟩)
  all_goals (repeat' (first | (with_reducible rfl) | exact trivial | ((conv => whnf); (first | (with_reducible refine And.intro ?_ ?_) | exact trivial | (intro hb; first | (exfalso; simp_all; done) | skip)))))
  all_goals (first | rfl)

set_option maxRecDepth 100000 in
set_option maxHeartbeats 400000 in
theorem rmove_k (nd : Int) (h0 : 0 < nd ∧ nd < 3) : FnM Tryd.prog 12 [.ptr 0 0, .str [107], .int .i64 nd] [.cells [.sl [[.int .i64 1, .int .i64 1, .int .i64 0, .str [], .str []]], .int .i64 0, .int .i64 0, .int .i64 0, .int .i64 0, .int .i64 0, .int .i64 0, .int .i64 0, .str [], .int .i64 0, .int .i64 0, .int .i64 0, .int .i64 0, .int .i64 2, .nils, .int .i64 0]] (.tup [.sl [[.int .i64 7, .int .i64 100, .int .i64 0, .int .i64 1, .int .i64 1, .int .i64 0, .int .i64 0, .int .i64 0, .int .i64 0, .str [], .str [], .str [], .int .i64 0, .nils, .int .i64 0, .str [], .int .i64 0, .nils, .str [], .str [], .nils, .nils, .nils, .str []]], .int .i64 0]) [.cells [.sl [[.int .i64 1, .int .i64 1, .int .i64 0, .str [], .str []]], .int .i64 1, .int .i64 1, .int .i64 1, .int .i64 0, .int .i64 nd, .int .i64 0, .int .i64 0, .str [], .int .i64 0, .int .i64 0, .int .i64 0, .int .i64 0, .int .i64 2, .nils, .int .i64 0]] := by
  refine FnM.mk' base Tryd.func12 rfl rfl rfl rfl ?_
  repeat' ((conv => whnf); (first
   | (with_reducible first | refine AW.seq ?_ | refine AW.region base (by kernel_rfl) ?_ | refine AW.cond ?_ | refine AW.block ?_ | refine AW.ret ?_ | refine AW.exit ?_ | refine AW.skip ?_ | refine Br.t ?_ | refine Br.f ?_)
   | (with_reducible refine Br.mkT (fun hb => (by (first | (simp at hb; done) | omega | (simp only [decide_eq_true_eq, decide_eq_false_iff_not, Bool.not_eq_true', Bool.not_eq_false'] at hb; first | omega | fail) | fail))) (fun hb => ?_))
   | (with_reducible refine Br.mkF (fun hb => (by (first | (simp at hb; done) | omega | (simp only [decide_eq_true_eq, decide_eq_false_iff_not, Bool.not_eq_true', Bool.not_eq_false'] at hb; first | omega | fail) | fail))) (fun hb => ?_))
   | ((with_reducible refine Or.inl ?_); (conv => whnf); (with_reducible refine And.intro LitSl.mk ?_))
   | refine Br.t ?_
   | refine Br.f ?_
   | ((with_reducible refine Or.inl ?_); (conv => whnf); (first | (with_reducible first | refine ⟨_, rat_k 1 0, ?_⟩)))
   | (with_reducible refine Or.inr ⟨[?_], _, _, _, _, rto_1 1 0 2 0 ⟨0, 1, 1, 0, nd, 0, 0, [], 0, 0, 0, 0⟩ (show (0 : Int) ≤ 1 ∧ (1 : Int) ≤ 1000 by decide) 0, ?_⟩)
   | (with_reducible refine Or.inr (Or.inr ⟨[?_], _, _, _, _, rto_1 1 0 2 0 ⟨0, 1, 1, 0, nd, 0, 0, [], 0, 0, 0, 0⟩ (show (0 : Int) ≤ 1 ∧ (1 : Int) ≤ 1000 by decide) 0, ?_⟩))
   | (with_reducible refine Br.mk (fun hb => ?_) (fun hb => ?_) <;> (try rw [hb]) <;> (try simp only [List.length_map, decide_eq_true_eq, decide_eq_false_iff_not, Bool.not_eq_true', Bool.not_eq_false', Int.ofNat_lt, Int.ofNat_le, Int.not_lt, Int.not_le, Int.toNat_natCast] at hb))
   | ((with_reducible first | refine Or.inl (And.intro ?_ ?_) | refine And.intro ?_ ?_); (focus (first | with_reducible rfl | exact trivial | (exact ⟨rfl, trivial⟩) | (exact ⟨rfl, rfl, trivial⟩) | omega | (intro r hr; simp only [List.mem_singleton] at hr; subst hr; rfl)  | ((simp only [in64, maxLen] at *; omega)) | ((simp only [List.length_map]; omega)) | ((exact ⟨by omega, by simp only [List.length_map]; omega⟩)) | (simp only [in64]; omega) | assumption | (simp; done) | (simp [V.cells]; done) | (simp [in64, maxLen, limK] at *; omega) | ((show confB _ _ = true); kernel_rfl) | rfl)))
   | (intro row hrow; (try simp only [Int.toNat_natCast, List.length_map, toNat_pred, toNat_succ', toNat_zero', toNat_one'] at hrow); (first | (have hsm := same_map (by assumption) hrow; subst hsm; clear hrow) | (obtain ⟨p, hp, rfl⟩ := of_map hrow; clear hrow)))))
  all_goals (conv => whnf)
  all_goals (refine ⟨[0], ?_⟩)
  all_goals (repeat' (first | (with_reducible rfl) | exact trivial | ((conv => whnf); (first | (with_reducible refine And.intro ?_ ?_) | exact trivial | (intro hb; first | (exfalso; simp_all; done) | skip)))))
  all_goals (first | rfl)

set_option maxRecDepth 100000 in
set_option maxHeartbeats 400000 in
theorem ranswers_1 (e n nx tc : Int) (j : JobV) (he : 0 ≤ j.ep ∧ j.ep ≤ 1000) (x2 : Int) (dt : Bs) (hx : 1 ≤ x2)  : FnM Tryd.prog 38 [.ptr 0 0, .agg [.int .i64 8, .int .i64 j.fr, .int .i64 100, .int .i64 j.sh, .int .i64 j.ep, .int .i64 x2, .int .i64 0, .int .i64 0, .int .i64 0, .str [], .str [], .str [], .int .i64 0, .nils, .int .i64 0, .str [], .int .i64 0, .nils, .str [], .str [], .nils, .nils, .nils, .str dt]] [.cells [.sl [[.int .i64 1, .int .i64 e, .int .i64 n, .str [], .str []]], .int .i64 1, .int .i64 j.sh, .int .i64 j.ep, .int .i64 j.fr, .int .i64 j.to, .int .i64 j.pc, .int .i64 j.ps, .str j.key, .int .i64 j.ot, .int .i64 j.oe, .int .i64 j.a, .int .i64 j.b, .int .i64 nx, .nils, .int .i64 tc]] (.bool true) [.cells [.sl [[.int .i64 1, .int .i64 e, .int .i64 n, .str [], .str []]], .int .i64 1, .int .i64 j.sh, .int .i64 j.ep, .int .i64 j.fr, .int .i64 j.to, .int .i64 j.pc, .int .i64 j.ps, .str j.key, .int .i64 j.ot, .int .i64 j.oe, .int .i64 j.a, .int .i64 j.b, .int .i64 nx, .nils, .int .i64 tc]] := by
  refine FnM.mk' base Tryd.func38 rfl rfl rfl rfl ?_
  repeat' ((conv => whnf); (first
   | (with_reducible first | refine AW.seq ?_ | refine AW.region base (by kernel_rfl) ?_ | refine AW.cond ?_ | refine AW.block ?_ | refine AW.ret ?_ | refine AW.exit ?_ | refine AW.skip ?_ | refine Br.t ?_ | refine Br.f ?_)
   | (with_reducible refine Br.mkT (fun hb => (by (first | (simp at hb; done) | omega | (simp only [decide_eq_true_eq, decide_eq_false_iff_not, Bool.not_eq_true', Bool.not_eq_false'] at hb; first | omega | fail) | fail))) (fun hb => ?_))
   | (with_reducible refine Br.mkF (fun hb => (by (first | (simp at hb; done) | omega | (simp only [decide_eq_true_eq, decide_eq_false_iff_not, Bool.not_eq_true', Bool.not_eq_false'] at hb; first | omega | fail) | fail))) (fun hb => ?_))
   | ((with_reducible refine Or.inl ?_); (conv => whnf); (with_reducible refine And.intro LitSl.mk ?_))
   | refine Br.t ?_
   | refine Br.f ?_
   | (intro row hrow; have e0 := Option.some.inj (show some _ = some row from hrow); subst e0)
   | (with_reducible refine Or.inr ⟨[?_], _, _, _, _, rsaid_1 e n nx tc ⟨1, j.sh, j.ep, j.fr, j.to, j.pc, j.ps, j.key, j.ot, j.oe, j.a, j.b⟩ he, ?_⟩)
   | (with_reducible refine Or.inr (Or.inr ⟨[?_], _, _, _, _, rsaid_1 e n nx tc ⟨1, j.sh, j.ep, j.fr, j.to, j.pc, j.ps, j.key, j.ot, j.oe, j.a, j.b⟩ he, ?_⟩))
   | (with_reducible refine Br.mk (fun hb => ?_) (fun hb => ?_) <;> (try rw [hb]) <;> (try simp only [List.length_map, decide_eq_true_eq, decide_eq_false_iff_not, Bool.not_eq_true', Bool.not_eq_false', Int.ofNat_lt, Int.ofNat_le, Int.not_lt, Int.not_le, Int.toNat_natCast] at hb))
   | ((with_reducible first | refine Or.inl (And.intro ?_ ?_) | refine And.intro ?_ ?_); (focus (first | with_reducible rfl | exact trivial | (exact ⟨rfl, trivial⟩) | (exact ⟨rfl, rfl, trivial⟩) | omega | (intro r hr; simp only [List.mem_singleton] at hr; subst hr; rfl)  | ((simp only [in64, maxLen] at *; omega)) | ((simp only [List.length_map]; omega)) | ((exact ⟨by omega, by simp only [List.length_map]; omega⟩)) | (simp only [in64]; omega) | assumption | (simp; done) | (simp [V.cells]; done) | (simp [in64, maxLen, limK] at *; omega) | ((show confB _ _ = true); kernel_rfl) | rfl)))
   | (intro row hrow; (try simp only [Int.toNat_natCast, List.length_map, toNat_pred, toNat_succ', toNat_zero', toNat_one'] at hrow); (first | (have hsm := same_map (by assumption) hrow; subst hsm; clear hrow) | (obtain ⟨p, hp, rfl⟩ := of_map hrow; clear hrow)))))
  all_goals (conv => whnf)
  all_goals (refine ⟨[0], ?_⟩)
  all_goals (repeat' (first | (with_reducible rfl) | exact trivial | ((conv => whnf); (first | (with_reducible refine And.intro ?_ ?_) | exact trivial | (intro hb; first | (exfalso; simp_all; done) | skip)))))
  all_goals (first | rfl | (exact congrArg V.bool (decide_eq_true (by first | rfl | omega))))

set_option maxRecDepth 100000 in
set_option maxHeartbeats 400000 in
theorem ranswers_2 (e n nx tc : Int) (j : JobV) (ps : List Bs) (hps : ps.length ≤ 10) (he : 0 ≤ j.ep ∧ j.ep ≤ 1000) (x2 : Int) (dt : Bs)  : FnM Tryd.prog 38 [.ptr 0 0, .agg [.int .i64 10, .int .i64 j.fr, .int .i64 100, .int .i64 j.sh, .int .i64 j.ep, .int .i64 j.pc, .int .i64 0, .int .i64 0, .int .i64 0, .str [], .str [], .str [], .int .i64 0, .nils, .int .i64 0, .str [], .int .i64 0, .nils, .str [], .str [], .nils, .nils, .nils, .str dt]] [.cells [.sl [[.int .i64 1, .int .i64 e, .int .i64 n, .str [], .str []]], .int .i64 2, .int .i64 j.sh, .int .i64 j.ep, .int .i64 j.fr, .int .i64 j.to, .int .i64 j.pc, .int .i64 j.ps, .str j.key, .int .i64 j.ot, .int .i64 j.oe, .int .i64 j.a, .int .i64 j.b, .int .i64 nx, .sl (ps.map encP), .int .i64 tc]] (.bool true) [.cells [.sl [[.int .i64 1, .int .i64 e, .int .i64 n, .str [], .str []]], .int .i64 2, .int .i64 j.sh, .int .i64 j.ep, .int .i64 j.fr, .int .i64 j.to, .int .i64 j.pc, .int .i64 j.ps, .str j.key, .int .i64 j.ot, .int .i64 j.oe, .int .i64 j.a, .int .i64 j.b, .int .i64 nx, .sl (ps.map encP), .int .i64 tc]] := by
  refine FnM.mk' base Tryd.func38 rfl rfl rfl rfl ?_
  repeat' ((conv => whnf); (first
   | (with_reducible first | refine AW.seq ?_ | refine AW.region base (by kernel_rfl) ?_ | refine AW.cond ?_ | refine AW.block ?_ | refine AW.ret ?_ | refine AW.exit ?_ | refine AW.skip ?_ | refine Br.t ?_ | refine Br.f ?_)
   | (with_reducible refine Br.mkT (fun hb => (by (first | (simp at hb; done) | omega | (simp only [decide_eq_true_eq, decide_eq_false_iff_not, Bool.not_eq_true', Bool.not_eq_false'] at hb; first | omega | fail) | fail))) (fun hb => ?_))
   | (with_reducible refine Br.mkF (fun hb => (by (first | (simp at hb; done) | omega | (simp only [decide_eq_true_eq, decide_eq_false_iff_not, Bool.not_eq_true', Bool.not_eq_false'] at hb; first | omega | fail) | fail))) (fun hb => ?_))
   | ((with_reducible refine Or.inl ?_); (conv => whnf); (with_reducible refine And.intro LitSl.mk ?_))
   | refine Br.t ?_
   | refine Br.f ?_
   | (intro row hrow; have e0 := Option.some.inj (show some _ = some row from hrow); subst e0)
   | (with_reducible refine Or.inr ⟨[?_], _, _, _, _, rsaid_2 e n nx tc ⟨2, j.sh, j.ep, j.fr, j.to, j.pc, j.ps, j.key, j.ot, j.oe, j.a, j.b⟩ ps hps he, ?_⟩)
   | (with_reducible refine Or.inr (Or.inr ⟨[?_], _, _, _, _, rsaid_2 e n nx tc ⟨2, j.sh, j.ep, j.fr, j.to, j.pc, j.ps, j.key, j.ot, j.oe, j.a, j.b⟩ ps hps he, ?_⟩))
   | (with_reducible refine Br.mk (fun hb => ?_) (fun hb => ?_) <;> (try rw [hb]) <;> (try simp only [List.length_map, decide_eq_true_eq, decide_eq_false_iff_not, Bool.not_eq_true', Bool.not_eq_false', Int.ofNat_lt, Int.ofNat_le, Int.not_lt, Int.not_le, Int.toNat_natCast] at hb))
   | ((with_reducible first | refine Or.inl (And.intro ?_ ?_) | refine And.intro ?_ ?_); (focus (first | with_reducible rfl | exact trivial | (exact ⟨rfl, trivial⟩) | (exact ⟨rfl, rfl, trivial⟩) | omega | (intro r hr; simp only [List.mem_singleton] at hr; subst hr; rfl)  | ((simp only [in64, maxLen] at *; omega)) | ((simp only [List.length_map]; omega)) | ((exact ⟨by omega, by simp only [List.length_map]; omega⟩)) | (simp only [in64]; omega) | assumption | (simp; done) | (simp [V.cells]; done) | (simp [in64, maxLen, limK] at *; omega) | ((show confB _ _ = true); kernel_rfl) | rfl)))
   | (intro row hrow; (try simp only [Int.toNat_natCast, List.length_map, toNat_pred, toNat_succ', toNat_zero', toNat_one'] at hrow); (first | (have hsm := same_map (by assumption) hrow; subst hsm; clear hrow) | (obtain ⟨p, hp, rfl⟩ := of_map hrow; clear hrow)))))
  all_goals (conv => whnf)
  all_goals (refine ⟨[0], ?_⟩)
  all_goals (repeat' (first | (with_reducible rfl) | exact trivial | ((conv => whnf); (first | (with_reducible refine And.intro ?_ ?_) | exact trivial | (intro hb; first | (exfalso; simp_all; done) | skip)))))
  all_goals (first | rfl | (exact congrArg V.bool (decide_eq_true (by first | rfl | omega))))

set_option maxRecDepth 100000 in
set_option maxHeartbeats 400000 in
theorem ranswers_3 (e n nx tc : Int) (j : JobV) (ps : List Bs) (hps : ps.length ≤ 10) (he : 0 ≤ j.ep ∧ j.ep ≤ 1000) (x2 : Int) (dt : Bs) (data : Bs) (hp0 : 0 ≤ j.pc) (hp : ps[j.pc.toNat]? = some data)  : FnM Tryd.prog 38 [.ptr 0 0, .agg [.int .i64 12, .int .i64 j.to, .int .i64 100, .int .i64 j.sh, .int .i64 (j.ep + 1), .int .i64 j.pc, .int .i64 0, .int .i64 0, .int .i64 0, .str [], .str [], .str [], .int .i64 0, .nils, .int .i64 0, .str [], .int .i64 0, .nils, .str [], .str [], .nils, .nils, .nils, .str dt]] [.cells [.sl [[.int .i64 1, .int .i64 e, .int .i64 n, .str [], .str []]], .int .i64 3, .int .i64 j.sh, .int .i64 j.ep, .int .i64 j.fr, .int .i64 j.to, .int .i64 j.pc, .int .i64 j.ps, .str j.key, .int .i64 j.ot, .int .i64 j.oe, .int .i64 j.a, .int .i64 j.b, .int .i64 nx, .sl (ps.map encP), .int .i64 tc]] (.bool true) [.cells [.sl [[.int .i64 1, .int .i64 e, .int .i64 n, .str [], .str []]], .int .i64 3, .int .i64 j.sh, .int .i64 j.ep, .int .i64 j.fr, .int .i64 j.to, .int .i64 j.pc, .int .i64 j.ps, .str j.key, .int .i64 j.ot, .int .i64 j.oe, .int .i64 j.a, .int .i64 j.b, .int .i64 nx, .sl (ps.map encP), .int .i64 tc]] := by
  refine FnM.mk' base Tryd.func38 rfl rfl rfl rfl ?_
  repeat' ((conv => whnf); (first
   | (with_reducible first | refine AW.seq ?_ | refine AW.region base (by kernel_rfl) ?_ | refine AW.cond ?_ | refine AW.block ?_ | refine AW.ret ?_ | refine AW.exit ?_ | refine AW.skip ?_ | refine Br.t ?_ | refine Br.f ?_)
   | (with_reducible refine Br.mkT (fun hb => (by (first | (simp at hb; done) | omega | (simp only [decide_eq_true_eq, decide_eq_false_iff_not, Bool.not_eq_true', Bool.not_eq_false'] at hb; first | omega | fail) | fail))) (fun hb => ?_))
   | (with_reducible refine Br.mkF (fun hb => (by (first | (simp at hb; done) | omega | (simp only [decide_eq_true_eq, decide_eq_false_iff_not, Bool.not_eq_true', Bool.not_eq_false'] at hb; first | omega | fail) | fail))) (fun hb => ?_))
   | ((with_reducible refine Or.inl ?_); (conv => whnf); (with_reducible refine And.intro LitSl.mk ?_))
   | refine Br.t ?_
   | refine Br.f ?_
   | (intro row hrow; have e0 := Option.some.inj (show some _ = some row from hrow); subst e0)
   | (with_reducible refine Or.inr ⟨[?_], _, _, _, _, rsaid_3 e n nx tc ⟨3, j.sh, j.ep, j.fr, j.to, j.pc, j.ps, j.key, j.ot, j.oe, j.a, j.b⟩ ps hps he data hp0 hp, ?_⟩)
   | (with_reducible refine Or.inr (Or.inr ⟨[?_], _, _, _, _, rsaid_3 e n nx tc ⟨3, j.sh, j.ep, j.fr, j.to, j.pc, j.ps, j.key, j.ot, j.oe, j.a, j.b⟩ ps hps he data hp0 hp, ?_⟩))
   | (with_reducible refine Br.mk (fun hb => ?_) (fun hb => ?_) <;> (try rw [hb]) <;> (try simp only [List.length_map, decide_eq_true_eq, decide_eq_false_iff_not, Bool.not_eq_true', Bool.not_eq_false', Int.ofNat_lt, Int.ofNat_le, Int.not_lt, Int.not_le, Int.toNat_natCast] at hb))
   | ((with_reducible first | refine Or.inl (And.intro ?_ ?_) | refine And.intro ?_ ?_); (focus (first | with_reducible rfl | exact trivial | (exact ⟨rfl, trivial⟩) | (exact ⟨rfl, rfl, trivial⟩) | omega | (intro r hr; simp only [List.mem_singleton] at hr; subst hr; rfl)  | ((simp only [in64, maxLen] at *; omega)) | ((simp only [List.length_map]; omega)) | ((exact ⟨by omega, by simp only [List.length_map]; omega⟩)) | (simp only [in64]; omega) | assumption | (simp; done) | (simp [V.cells]; done) | (simp [in64, maxLen, limK] at *; omega) | ((show confB _ _ = true); kernel_rfl) | rfl)))
   | (intro row hrow; (try simp only [Int.toNat_natCast, List.length_map, toNat_pred, toNat_succ', toNat_zero', toNat_one'] at hrow); (first | (have hsm := same_map (by assumption) hrow; subst hsm; clear hrow) | (obtain ⟨p, hp, rfl⟩ := of_map hrow; clear hrow)))))
  all_goals (conv => whnf)
  all_goals (refine ⟨[0], ?_⟩)
  all_goals (repeat' (first | (with_reducible rfl) | exact trivial | ((conv => whnf); (first | (with_reducible refine And.intro ?_ ?_) | exact trivial | (intro hb; first | (exfalso; simp_all; done) | skip)))))
  all_goals (first | rfl | (exact congrArg V.bool (decide_eq_true (by first | rfl | omega))))

set_option maxRecDepth 100000 in
set_option maxHeartbeats 400000 in
theorem ranswers_4 (e n nx tc : Int) (j : JobV) (ps : List Bs) (hps : ps.length ≤ 10) (he : 0 ≤ j.ep ∧ j.ep ≤ 1000) (x2 : Int) (dt : Bs)  : FnM Tryd.prog 38 [.ptr 0 0, .agg [.int .i64 14, .int .i64 j.to, .int .i64 100, .int .i64 j.sh, .int .i64 (j.ep + 1), .int .i64 x2, .int .i64 0, .int .i64 0, .int .i64 0, .str [], .str [], .str [], .int .i64 0, .nils, .int .i64 0, .str [], .int .i64 0, .nils, .str [], .str [], .nils, .nils, .nils, .str dt]] [.cells [.sl [[.int .i64 1, .int .i64 e, .int .i64 n, .str [], .str []]], .int .i64 4, .int .i64 j.sh, .int .i64 j.ep, .int .i64 j.fr, .int .i64 j.to, .int .i64 j.pc, .int .i64 j.ps, .str j.key, .int .i64 j.ot, .int .i64 j.oe, .int .i64 j.a, .int .i64 j.b, .int .i64 nx, .sl (ps.map encP), .int .i64 tc]] (.bool true) [.cells [.sl [[.int .i64 1, .int .i64 e, .int .i64 n, .str [], .str []]], .int .i64 4, .int .i64 j.sh, .int .i64 j.ep, .int .i64 j.fr, .int .i64 j.to, .int .i64 j.pc, .int .i64 j.ps, .str j.key, .int .i64 j.ot, .int .i64 j.oe, .int .i64 j.a, .int .i64 j.b, .int .i64 nx, .sl (ps.map encP), .int .i64 tc]] := by
  refine FnM.mk' base Tryd.func38 rfl rfl rfl rfl ?_
  repeat' ((conv => whnf); (first
   | (with_reducible first | refine AW.seq ?_ | refine AW.region base (by kernel_rfl) ?_ | refine AW.cond ?_ | refine AW.block ?_ | refine AW.ret ?_ | refine AW.exit ?_ | refine AW.skip ?_ | refine Br.t ?_ | refine Br.f ?_)
   | (with_reducible refine Br.mkT (fun hb => (by (first | (simp at hb; done) | omega | (simp only [decide_eq_true_eq, decide_eq_false_iff_not, Bool.not_eq_true', Bool.not_eq_false'] at hb; first | omega | fail) | fail))) (fun hb => ?_))
   | (with_reducible refine Br.mkF (fun hb => (by (first | (simp at hb; done) | omega | (simp only [decide_eq_true_eq, decide_eq_false_iff_not, Bool.not_eq_true', Bool.not_eq_false'] at hb; first | omega | fail) | fail))) (fun hb => ?_))
   | ((with_reducible refine Or.inl ?_); (conv => whnf); (with_reducible refine And.intro LitSl.mk ?_))
   | refine Br.t ?_
   | refine Br.f ?_
   | (intro row hrow; have e0 := Option.some.inj (show some _ = some row from hrow); subst e0)
   | (with_reducible refine Or.inr ⟨[?_], _, _, _, _, rsaid_4 e n nx tc ⟨4, j.sh, j.ep, j.fr, j.to, j.pc, j.ps, j.key, j.ot, j.oe, j.a, j.b⟩ ps hps he, ?_⟩)
   | (with_reducible refine Or.inr (Or.inr ⟨[?_], _, _, _, _, rsaid_4 e n nx tc ⟨4, j.sh, j.ep, j.fr, j.to, j.pc, j.ps, j.key, j.ot, j.oe, j.a, j.b⟩ ps hps he, ?_⟩))
   | (with_reducible refine Br.mk (fun hb => ?_) (fun hb => ?_) <;> (try rw [hb]) <;> (try simp only [List.length_map, decide_eq_true_eq, decide_eq_false_iff_not, Bool.not_eq_true', Bool.not_eq_false', Int.ofNat_lt, Int.ofNat_le, Int.not_lt, Int.not_le, Int.toNat_natCast] at hb))
   | ((with_reducible first | refine Or.inl (And.intro ?_ ?_) | refine And.intro ?_ ?_); (focus (first | with_reducible rfl | exact trivial | (exact ⟨rfl, trivial⟩) | (exact ⟨rfl, rfl, trivial⟩) | omega | (intro r hr; simp only [List.mem_singleton] at hr; subst hr; rfl)  | ((simp only [in64, maxLen] at *; omega)) | ((simp only [List.length_map]; omega)) | ((exact ⟨by omega, by simp only [List.length_map]; omega⟩)) | (simp only [in64]; omega) | assumption | (simp; done) | (simp [V.cells]; done) | (simp [in64, maxLen, limK] at *; omega) | ((show confB _ _ = true); kernel_rfl) | rfl)))
   | (intro row hrow; (try simp only [Int.toNat_natCast, List.length_map, toNat_pred, toNat_succ', toNat_zero', toNat_one'] at hrow); (first | (have hsm := same_map (by assumption) hrow; subst hsm; clear hrow) | (obtain ⟨p, hp, rfl⟩ := of_map hrow; clear hrow)))))
  all_goals (conv => whnf)
  all_goals (refine ⟨[0], ?_⟩)
  all_goals (repeat' (first | (with_reducible rfl) | exact trivial | ((conv => whnf); (first | (with_reducible refine And.intro ?_ ?_) | exact trivial | (intro hb; first | (exfalso; simp_all; done) | skip)))))
  all_goals (first | rfl | (exact congrArg V.bool (decide_eq_true (by first | rfl | omega))))

set_option maxRecDepth 100000 in
set_option maxHeartbeats 400000 in
theorem ranswers_5 (e n nx tc : Int) (j : JobV) (ps : List Bs) (hps : ps.length ≤ 10) (he : 0 ≤ j.ep ∧ j.ep ≤ 1000) (x2 : Int) (dt : Bs)  : FnM Tryd.prog 38 [.ptr 0 0, .agg [.int .i64 18, .int .i64 j.fr, .int .i64 100, .int .i64 j.sh, .int .i64 j.ep, .int .i64 x2, .int .i64 0, .int .i64 0, .int .i64 0, .str [], .str [], .str [], .int .i64 0, .nils, .int .i64 0, .str [], .int .i64 0, .nils, .str [], .str [], .nils, .nils, .nils, .str dt]] [.cells [.sl [[.int .i64 1, .int .i64 e, .int .i64 n, .str [], .str []]], .int .i64 5, .int .i64 j.sh, .int .i64 j.ep, .int .i64 j.fr, .int .i64 j.to, .int .i64 j.pc, .int .i64 j.ps, .str j.key, .int .i64 j.ot, .int .i64 j.oe, .int .i64 j.a, .int .i64 j.b, .int .i64 nx, .sl (ps.map encP), .int .i64 tc]] (.bool true) [.cells [.sl [[.int .i64 1, .int .i64 e, .int .i64 n, .str [], .str []]], .int .i64 5, .int .i64 j.sh, .int .i64 j.ep, .int .i64 j.fr, .int .i64 j.to, .int .i64 j.pc, .int .i64 j.ps, .str j.key, .int .i64 j.ot, .int .i64 j.oe, .int .i64 j.a, .int .i64 j.b, .int .i64 nx, .sl (ps.map encP), .int .i64 tc]] := by
  refine FnM.mk' base Tryd.func38 rfl rfl rfl rfl ?_
  repeat' ((conv => whnf); (first
   | (with_reducible first | refine AW.seq ?_ | refine AW.region base (by kernel_rfl) ?_ | refine AW.cond ?_ | refine AW.block ?_ | refine AW.ret ?_ | refine AW.exit ?_ | refine AW.skip ?_ | refine Br.t ?_ | refine Br.f ?_)
   | (with_reducible refine Br.mkT (fun hb => (by (first | (simp at hb; done) | omega | (simp only [decide_eq_true_eq, decide_eq_false_iff_not, Bool.not_eq_true', Bool.not_eq_false'] at hb; first | omega | fail) | fail))) (fun hb => ?_))
   | (with_reducible refine Br.mkF (fun hb => (by (first | (simp at hb; done) | omega | (simp only [decide_eq_true_eq, decide_eq_false_iff_not, Bool.not_eq_true', Bool.not_eq_false'] at hb; first | omega | fail) | fail))) (fun hb => ?_))
   | ((with_reducible refine Or.inl ?_); (conv => whnf); (with_reducible refine And.intro LitSl.mk ?_))
   | refine Br.t ?_
   | refine Br.f ?_
   | (intro row hrow; have e0 := Option.some.inj (show some _ = some row from hrow); subst e0)
   | (with_reducible refine Or.inr ⟨[?_], _, _, _, _, rsaid_5 e n nx tc ⟨5, j.sh, j.ep, j.fr, j.to, j.pc, j.ps, j.key, j.ot, j.oe, j.a, j.b⟩ ps hps he, ?_⟩)
   | (with_reducible refine Or.inr (Or.inr ⟨[?_], _, _, _, _, rsaid_5 e n nx tc ⟨5, j.sh, j.ep, j.fr, j.to, j.pc, j.ps, j.key, j.ot, j.oe, j.a, j.b⟩ ps hps he, ?_⟩))
   | (with_reducible refine Br.mk (fun hb => ?_) (fun hb => ?_) <;> (try rw [hb]) <;> (try simp only [List.length_map, decide_eq_true_eq, decide_eq_false_iff_not, Bool.not_eq_true', Bool.not_eq_false', Int.ofNat_lt, Int.ofNat_le, Int.not_lt, Int.not_le, Int.toNat_natCast] at hb))
   | ((with_reducible first | refine Or.inl (And.intro ?_ ?_) | refine And.intro ?_ ?_); (focus (first | with_reducible rfl | exact trivial | (exact ⟨rfl, trivial⟩) | (exact ⟨rfl, rfl, trivial⟩) | omega | (intro r hr; simp only [List.mem_singleton] at hr; subst hr; rfl)  | ((simp only [in64, maxLen] at *; omega)) | ((simp only [List.length_map]; omega)) | ((exact ⟨by omega, by simp only [List.length_map]; omega⟩)) | (simp only [in64]; omega) | assumption | (simp; done) | (simp [V.cells]; done) | (simp [in64, maxLen, limK] at *; omega) | ((show confB _ _ = true); kernel_rfl) | rfl)))
   | (intro row hrow; (try simp only [Int.toNat_natCast, List.length_map, toNat_pred, toNat_succ', toNat_zero', toNat_one'] at hrow); (first | (have hsm := same_map (by assumption) hrow; subst hsm; clear hrow) | (obtain ⟨p, hp, rfl⟩ := of_map hrow; clear hrow)))))
  all_goals (conv => whnf)
  all_goals (refine ⟨[0], ?_⟩)
  all_goals (repeat' (first | (with_reducible rfl) | exact trivial | ((conv => whnf); (first | (with_reducible refine And.intro ?_ ?_) | exact trivial | (intro hb; first | (exfalso; simp_all; done) | skip)))))
  all_goals (first | rfl | (exact congrArg V.bool (decide_eq_true (by first | rfl | omega))))

set_option maxRecDepth 100000 in
set_option maxHeartbeats 400000 in
theorem rtake_8 (e n nx tc : Int) (j : JobV) (he : 0 ≤ j.ep ∧ j.ep ≤ 1000) (x2 : Int) (hx : 1 ≤ x2) (dt : Bs)  : FnM Tryd.prog 15 [.ptr 0 0, .agg [.int .i64 8, .int .i64 j.fr, .int .i64 100, .int .i64 j.sh, .int .i64 j.ep, .int .i64 x2, .int .i64 0, .int .i64 0, .int .i64 0, .str [], .str [], .str [], .int .i64 0, .nils, .int .i64 0, .str [], .int .i64 0, .nils, .str [], .str [], .nils, .nils, .nils, .str dt]] [.cells [.sl [[.int .i64 1, .int .i64 e, .int .i64 n, .str [], .str []]], .int .i64 1, .int .i64 j.sh, .int .i64 j.ep, .int .i64 j.fr, .int .i64 j.to, .int .i64 j.pc, .int .i64 j.ps, .str j.key, .int .i64 j.ot, .int .i64 j.oe, .int .i64 j.a, .int .i64 j.b, .int .i64 nx, .nils, .int .i64 tc]] (.sl [[.int .i64 9, .int .i64 100, .int .i64 j.fr, .int .i64 j.sh, .int .i64 j.ep, .int .i64 0, .int .i64 0, .int .i64 0, .int .i64 0, .str [], .str [], .str [], .int .i64 0, .nils, .int .i64 0, .str [], .int .i64 0, .nils, .str [], .str [], .nils, .nils, .nils, .str []]]) [.cells [.sl [[.int .i64 1, .int .i64 e, .int .i64 n, .str [], .str []]], .int .i64 2, .int .i64 j.sh, .int .i64 j.ep, .int .i64 j.fr, .int .i64 j.to, .int .i64 0, .int .i64 x2, .str j.key, .int .i64 j.ot, .int .i64 j.oe, .int .i64 j.a, .int .i64 j.b, .int .i64 nx, .sl (([] : List Bs).map encP), .int .i64 0]] := by
  refine FnM.mk' base Tryd.func15 rfl rfl rfl rfl ?_
  repeat' ((conv => whnf); (first
   | ((with_reducible show AW _ _ _ (Code.seq (Code.region 11 _ _) _) _ _ _); (refine AW.nilC 0 14 rfl rfl ?_))
   | (with_reducible first | refine AW.seq ?_ | refine AW.region base (by kernel_rfl) ?_ | refine AW.cond ?_ | refine AW.block ?_ | refine AW.ret ?_ | refine AW.exit ?_ | refine AW.skip ?_ | refine Br.t ?_ | refine Br.f ?_)
   | (with_reducible refine Br.mkT (fun hb => (by (first | (simp at hb; done) | omega | (simp only [decide_eq_true_eq, decide_eq_false_iff_not, Bool.not_eq_true', Bool.not_eq_false'] at hb; first | omega | fail) | fail))) (fun hb => ?_))
   | (with_reducible refine Br.mkF (fun hb => (by (first | (simp at hb; done) | omega | (simp only [decide_eq_true_eq, decide_eq_false_iff_not, Bool.not_eq_true', Bool.not_eq_false'] at hb; first | omega | fail) | fail))) (fun hb => ?_))
   | ((with_reducible refine Or.inl ?_); (conv => whnf); (with_reducible refine And.intro LitSl.mk ?_))
   | refine Br.t ?_
   | refine Br.f ?_
   | (with_reducible refine Or.inr ⟨[?_], _, _, _, _, ranswers_1 e n nx tc j he x2 dt hx, ?_⟩)
   | (with_reducible refine Or.inr (Or.inr ⟨[?_], _, _, _, _, ranswers_1 e n nx tc j he x2 dt hx, ?_⟩))
   | (with_reducible refine Or.inr ⟨[?_], _, _, _, _, rto_2 e n nx tc ⟨1, j.sh, j.ep, j.fr, j.to, j.pc, x2, j.key, j.ot, j.oe, j.a, j.b⟩ [] (by simp) he 0, ?_⟩)
   | (with_reducible refine Or.inr (Or.inr ⟨[?_], _, _, _, _, rto_2 e n nx tc ⟨1, j.sh, j.ep, j.fr, j.to, j.pc, x2, j.key, j.ot, j.oe, j.a, j.b⟩ [] (by simp) he 0, ?_⟩))
   | (with_reducible refine Br.mk (fun hb => ?_) (fun hb => ?_) <;> (try rw [hb]) <;> (try simp only [List.length_map, decide_eq_true_eq, decide_eq_false_iff_not, Bool.not_eq_true', Bool.not_eq_false', Int.ofNat_lt, Int.ofNat_le, Int.not_lt, Int.not_le, Int.toNat_natCast] at hb))
   | ((with_reducible first | refine Or.inl (And.intro ?_ ?_) | refine And.intro ?_ ?_); (focus (first | with_reducible rfl | exact trivial | (exact ⟨rfl, trivial⟩) | (exact ⟨rfl, rfl, trivial⟩) | omega | (intro r hr; simp only [List.mem_singleton] at hr; subst hr; rfl)  | ((simp only [in64, maxLen] at *; omega)) | ((simp only [List.length_map]; omega)) | ((exact ⟨by omega, by simp only [List.length_map]; omega⟩)) | (simp only [in64]; omega) | assumption | (simp; done) | (simp [V.cells]; done) | (simp [in64, maxLen, limK] at *; omega) | ((show confB _ _ = true); kernel_rfl) | rfl)))
   | (intro row hrow; (try simp only [Int.toNat_natCast, List.length_map, toNat_pred, toNat_succ', toNat_zero', toNat_one'] at hrow); (first | (have hsm := same_map (by assumption) hrow; subst hsm; clear hrow) | (obtain ⟨p, hp, rfl⟩ := of_map hrow; clear hrow)))))
  all_goals (conv => whnf)
  all_goals (refine ⟨[0], ?_⟩)
  all_goals (repeat' (first | (with_reducible rfl) | exact trivial | ((conv => whnf); (first | (with_reducible refine And.intro ?_ ?_) | exact trivial | (intro hb; first | (exfalso; simp_all; done) | skip)))))
  all_goals (first | rfl)

set_option maxRecDepth 100000 in
set_option maxHeartbeats 400000 in
theorem rtake_10a (e n nx tc : Int) (j : JobV) (ps : List Bs) (hps : ps.length ≤ 9) (he : 0 ≤ j.ep ∧ j.ep ≤ 1000) (hpc : 0 ≤ j.pc ∧ j.pc ≤ 1000) (h1 : j.pc + 1 < j.ps) (dt : Bs)  : FnM Tryd.prog 15 [.ptr 0 0, .agg [.int .i64 10, .int .i64 j.fr, .int .i64 100, .int .i64 j.sh, .int .i64 j.ep, .int .i64 j.pc, .int .i64 0, .int .i64 0, .int .i64 0, .str [], .str [], .str [], .int .i64 0, .nils, .int .i64 0, .str [], .int .i64 0, .nils, .str [], .str [], .nils, .nils, .nils, .str dt]] [.cells [.sl [[.int .i64 1, .int .i64 e, .int .i64 n, .str [], .str []]], .int .i64 2, .int .i64 j.sh, .int .i64 j.ep, .int .i64 j.fr, .int .i64 j.to, .int .i64 j.pc, .int .i64 j.ps, .str j.key, .int .i64 j.ot, .int .i64 j.oe, .int .i64 j.a, .int .i64 j.b, .int .i64 nx, .sl (ps.map encP), .int .i64 tc]] (.sl [[.int .i64 9, .int .i64 100, .int .i64 j.fr, .int .i64 j.sh, .int .i64 j.ep, .int .i64 (j.pc + 1), .int .i64 0, .int .i64 0, .int .i64 0, .str [], .str [], .str [], .int .i64 0, .nils, .int .i64 0, .str [], .int .i64 0, .nils, .str [], .str [], .nils, .nils, .nils, .str []]]) [.cells [.sl [[.int .i64 1, .int .i64 e, .int .i64 n, .str [], .str []]], .int .i64 2, .int .i64 j.sh, .int .i64 j.ep, .int .i64 j.fr, .int .i64 j.to, .int .i64 (j.pc + 1), .int .i64 j.ps, .str j.key, .int .i64 j.ot, .int .i64 j.oe, .int .i64 j.a, .int .i64 j.b, .int .i64 nx, .sl ((ps ++ [dt]).map encP), .int .i64 0]] := by
  refine FnM.mk' base Tryd.func15 rfl rfl rfl rfl ?_
  repeat' ((conv => whnf); (first
   | ((with_reducible show AW _ _ _ (Code.seq (Code.seq (Code.region 14 _ _) _) _) _ _ _); (refine AW.freeze 14009 rfl ?_); (refine AW.ownC 0 14 14009 rfl rfl rfl ?_))
   | (with_reducible first | refine AW.seq ?_ | refine AW.region base (by kernel_rfl) ?_ | refine AW.cond ?_ | refine AW.block ?_ | refine AW.ret ?_ | refine AW.exit ?_ | refine AW.skip ?_ | refine Br.t ?_ | refine Br.f ?_)
   | (with_reducible refine Br.mkT (fun hb => (by (first | (simp at hb; done) | omega | (simp only [decide_eq_true_eq, decide_eq_false_iff_not, Bool.not_eq_true', Bool.not_eq_false'] at hb; first | omega | fail) | fail))) (fun hb => ?_))
   | (with_reducible refine Br.mkF (fun hb => (by (first | (simp at hb; done) | omega | (simp only [decide_eq_true_eq, decide_eq_false_iff_not, Bool.not_eq_true', Bool.not_eq_false'] at hb; first | omega | fail) | fail))) (fun hb => ?_))
   | ((with_reducible refine Or.inl ?_); (conv => whnf); (with_reducible refine And.intro LitSl.mk ?_))
   | refine Br.t ?_
   | refine Br.f ?_
   | (with_reducible refine Or.inr ⟨[?_], _, _, _, _, ranswers_2 e n nx tc j ps (by omega) he 0 dt, ?_⟩)
   | (with_reducible refine Or.inr (Or.inr ⟨[?_], _, _, _, _, ranswers_2 e n nx tc j ps (by omega) he 0 dt, ?_⟩))
   | (with_reducible refine Or.inr ⟨[?_], _, _, _, _, rto_2 e n nx tc ⟨2, j.sh, j.ep, j.fr, j.to, j.pc, j.ps, j.key, j.ot, j.oe, j.a, j.b⟩ (ps ++ [dt]) (by simp; omega) he (j.pc + 1), ?_⟩)
   | (with_reducible refine Or.inr (Or.inr ⟨[?_], _, _, _, _, rto_2 e n nx tc ⟨2, j.sh, j.ep, j.fr, j.to, j.pc, j.ps, j.key, j.ot, j.oe, j.a, j.b⟩ (ps ++ [dt]) (by simp; omega) he (j.pc + 1), ?_⟩))
   | (with_reducible refine Br.mk (fun hb => ?_) (fun hb => ?_) <;> (try rw [hb]) <;> (try simp only [List.length_map, decide_eq_true_eq, decide_eq_false_iff_not, Bool.not_eq_true', Bool.not_eq_false', Int.ofNat_lt, Int.ofNat_le, Int.not_lt, Int.not_le, Int.toNat_natCast] at hb))
   | ((with_reducible first | refine Or.inl (And.intro ?_ ?_) | refine And.intro ?_ ?_); (focus (first | with_reducible rfl | exact trivial | (exact ⟨rfl, trivial⟩) | (exact ⟨rfl, rfl, trivial⟩) | omega | (intro r hr; simp only [List.mem_singleton] at hr; subst hr; rfl)  | ((simp only [in64, maxLen] at *; omega)) | ((simp only [List.length_map]; omega)) | ((exact ⟨by omega, by simp only [List.length_map]; omega⟩)) | (simp only [in64]; omega) | assumption | (simp; done) | (simp [V.cells]; done) | (simp [in64, maxLen, limK] at *; omega) | ((show confB _ _ = true); kernel_rfl) | rfl)))
   | (intro row hrow; (try simp only [Int.toNat_natCast, List.length_map, toNat_pred, toNat_succ', toNat_zero', toNat_one'] at hrow); (first | (have hsm := same_map (by assumption) hrow; subst hsm; clear hrow) | (obtain ⟨p, hp, rfl⟩ := of_map hrow; clear hrow)))))
  all_goals (conv => whnf)
  all_goals (refine ⟨[0], ?_⟩)
  all_goals (repeat' (first | (with_reducible rfl) | exact trivial | ((conv => whnf); (first | (with_reducible refine And.intro ?_ ?_) | exact trivial | (intro hb; first | (exfalso; simp_all; done) | skip)))))
  all_goals (first | rfl | (simp; done))

set_option maxRecDepth 100000 in
set_option maxHeartbeats 400000 in
theorem rtake_10b (e n nx tc : Int) (j : JobV) (ps : List Bs) (hps : ps.length ≤ 9) (he : 0 ≤ j.ep ∧ j.ep ≤ 1000) (hpc : 0 ≤ j.pc ∧ j.pc ≤ 1000) (h1 : ¬ j.pc + 1 < j.ps) (dt d0 : Bs) (hd : (ps ++ [dt])[(0 : Int).toNat]? = some d0)  : FnM Tryd.prog 15 [.ptr 0 0, .agg [.int .i64 10, .int .i64 j.fr, .int .i64 100, .int .i64 j.sh, .int .i64 j.ep, .int .i64 j.pc, .int .i64 0, .int .i64 0, .int .i64 0, .str [], .str [], .str [], .int .i64 0, .nils, .int .i64 0, .str [], .int .i64 0, .nils, .str [], .str [], .nils, .nils, .nils, .str dt]] [.cells [.sl [[.int .i64 1, .int .i64 e, .int .i64 n, .str [], .str []]], .int .i64 2, .int .i64 j.sh, .int .i64 j.ep, .int .i64 j.fr, .int .i64 j.to, .int .i64 j.pc, .int .i64 j.ps, .str j.key, .int .i64 j.ot, .int .i64 j.oe, .int .i64 j.a, .int .i64 j.b, .int .i64 nx, .sl (ps.map encP), .int .i64 tc]] (.sl [[.int .i64 11, .int .i64 100, .int .i64 j.to, .int .i64 j.sh, .int .i64 (j.ep + 1), .int .i64 0, .int .i64 0, .int .i64 0, .int .i64 0, .str [], .str [], .str [], .int .i64 0, .nils, .int .i64 0, .str [], .int .i64 0, .nils, .str [], .str [], .nils, .nils, .nils, .str d0]]) [.cells [.sl [[.int .i64 1, .int .i64 e, .int .i64 n, .str [], .str []]], .int .i64 3, .int .i64 j.sh, .int .i64 j.ep, .int .i64 j.fr, .int .i64 j.to, .int .i64 0, .int .i64 j.ps, .str j.key, .int .i64 j.ot, .int .i64 j.oe, .int .i64 j.a, .int .i64 j.b, .int .i64 nx, .sl ((ps ++ [dt]).map encP), .int .i64 0]] := by
  refine FnM.mk' base Tryd.func15 rfl rfl rfl rfl ?_
  repeat' ((conv => whnf); (first
   | ((with_reducible show AW _ _ _ (Code.seq (Code.seq (Code.region 14 _ _) _) _) _ _ _); (refine AW.freeze 14009 rfl ?_); (refine AW.ownC 0 14 14009 rfl rfl rfl ?_))
   | (with_reducible first | refine AW.seq ?_ | refine AW.region base (by kernel_rfl) ?_ | refine AW.cond ?_ | refine AW.block ?_ | refine AW.ret ?_ | refine AW.exit ?_ | refine AW.skip ?_ | refine Br.t ?_ | refine Br.f ?_)
   | (with_reducible refine Br.mkT (fun hb => (by (first | (simp at hb; done) | omega | (simp only [decide_eq_true_eq, decide_eq_false_iff_not, Bool.not_eq_true', Bool.not_eq_false'] at hb; first | omega | fail) | fail))) (fun hb => ?_))
   | (with_reducible refine Br.mkF (fun hb => (by (first | (simp at hb; done) | omega | (simp only [decide_eq_true_eq, decide_eq_false_iff_not, Bool.not_eq_true', Bool.not_eq_false'] at hb; first | omega | fail) | fail))) (fun hb => ?_))
   | ((with_reducible refine Or.inl ?_); (conv => whnf); (with_reducible refine And.intro LitSl.mk ?_))
   | refine Br.t ?_
   | refine Br.f ?_
   | (with_reducible refine Or.inr ⟨[?_], _, _, _, _, ranswers_2 e n nx tc j ps (by omega) he 0 dt, ?_⟩)
   | (with_reducible refine Or.inr (Or.inr ⟨[?_], _, _, _, _, ranswers_2 e n nx tc j ps (by omega) he 0 dt, ?_⟩))
   | (with_reducible refine Or.inr ⟨[?_], _, _, _, _, rto_3 e n nx tc ⟨2, j.sh, j.ep, j.fr, j.to, j.pc, j.ps, j.key, j.ot, j.oe, j.a, j.b⟩ (ps ++ [dt]) (by simp; omega) he 0 d0 (by omega) hd, ?_⟩)
   | (with_reducible refine Or.inr (Or.inr ⟨[?_], _, _, _, _, rto_3 e n nx tc ⟨2, j.sh, j.ep, j.fr, j.to, j.pc, j.ps, j.key, j.ot, j.oe, j.a, j.b⟩ (ps ++ [dt]) (by simp; omega) he 0 d0 (by omega) hd, ?_⟩))
   | (with_reducible refine Br.mk (fun hb => ?_) (fun hb => ?_) <;> (try rw [hb]) <;> (try simp only [List.length_map, decide_eq_true_eq, decide_eq_false_iff_not, Bool.not_eq_true', Bool.not_eq_false', Int.ofNat_lt, Int.ofNat_le, Int.not_lt, Int.not_le, Int.toNat_natCast] at hb))
   | ((with_reducible first | refine Or.inl (And.intro ?_ ?_) | refine And.intro ?_ ?_); (focus (first | with_reducible rfl | exact trivial | (exact ⟨rfl, trivial⟩) | (exact ⟨rfl, rfl, trivial⟩) | omega | (intro r hr; simp only [List.mem_singleton] at hr; subst hr; rfl)  | ((simp only [in64, maxLen] at *; omega)) | ((simp only [List.length_map]; omega)) | ((exact ⟨by omega, by simp only [List.length_map]; omega⟩)) | (simp only [in64]; omega) | assumption | (simp; done) | (simp [V.cells]; done) | (simp [in64, maxLen, limK] at *; omega) | ((show confB _ _ = true); kernel_rfl) | rfl)))
   | (intro row hrow; (try simp only [Int.toNat_natCast, List.length_map, toNat_pred, toNat_succ', toNat_zero', toNat_one'] at hrow); (first | (have hsm := same_map (by assumption) hrow; subst hsm; clear hrow) | (obtain ⟨p, hp, rfl⟩ := of_map hrow; clear hrow)))))
  all_goals (conv => whnf)
  all_goals (refine ⟨[0], ?_⟩)
  all_goals (repeat' (first | (with_reducible rfl) | exact trivial | ((conv => whnf); (first | (with_reducible refine And.intro ?_ ?_) | exact trivial | (intro hb; first | (exfalso; simp_all; done) | skip)))))
  all_goals (first | rfl | (simp; done))

set_option maxRecDepth 100000 in
set_option maxHeartbeats 400000 in
theorem rtake_12a (e n nx tc : Int) (j : JobV) (ps : List Bs) (hps : ps.length ≤ 10) (he : 0 ≤ j.ep ∧ j.ep ≤ 1000) (hpc : 0 ≤ j.pc ∧ j.pc ≤ 1000) (h1 : j.pc + 1 < j.ps) (dx : Bs) (hx : ps[j.pc.toNat]? = some dx) (dt d1 : Bs) (hd : ps[(j.pc + 1).toNat]? = some d1)  : FnM Tryd.prog 15 [.ptr 0 0, .agg [.int .i64 12, .int .i64 j.to, .int .i64 100, .int .i64 j.sh, .int .i64 (j.ep + 1), .int .i64 j.pc, .int .i64 0, .int .i64 0, .int .i64 0, .str [], .str [], .str [], .int .i64 0, .nils, .int .i64 0, .str [], .int .i64 0, .nils, .str [], .str [], .nils, .nils, .nils, .str dt]] [.cells [.sl [[.int .i64 1, .int .i64 e, .int .i64 n, .str [], .str []]], .int .i64 3, .int .i64 j.sh, .int .i64 j.ep, .int .i64 j.fr, .int .i64 j.to, .int .i64 j.pc, .int .i64 j.ps, .str j.key, .int .i64 j.ot, .int .i64 j.oe, .int .i64 j.a, .int .i64 j.b, .int .i64 nx, .sl (ps.map encP), .int .i64 tc]] (.sl [[.int .i64 11, .int .i64 100, .int .i64 j.to, .int .i64 j.sh, .int .i64 (j.ep + 1), .int .i64 (j.pc + 1), .int .i64 0, .int .i64 0, .int .i64 0, .str [], .str [], .str [], .int .i64 0, .nils, .int .i64 0, .str [], .int .i64 0, .nils, .str [], .str [], .nils, .nils, .nils, .str d1]]) [.cells [.sl [[.int .i64 1, .int .i64 e, .int .i64 n, .str [], .str []]], .int .i64 3, .int .i64 j.sh, .int .i64 j.ep, .int .i64 j.fr, .int .i64 j.to, .int .i64 (j.pc + 1), .int .i64 j.ps, .str j.key, .int .i64 j.ot, .int .i64 j.oe, .int .i64 j.a, .int .i64 j.b, .int .i64 nx, .sl (ps.map encP), .int .i64 0]] := by
  refine FnM.mk' base Tryd.func15 rfl rfl rfl rfl ?_
  repeat' ((conv => whnf); (first
   | (with_reducible first | refine AW.seq ?_ | refine AW.region base (by kernel_rfl) ?_ | refine AW.cond ?_ | refine AW.block ?_ | refine AW.ret ?_ | refine AW.exit ?_ | refine AW.skip ?_ | refine Br.t ?_ | refine Br.f ?_)
   | (with_reducible refine Br.mkT (fun hb => (by (first | (simp at hb; done) | omega | (simp only [decide_eq_true_eq, decide_eq_false_iff_not, Bool.not_eq_true', Bool.not_eq_false'] at hb; first | omega | fail) | fail))) (fun hb => ?_))
   | (with_reducible refine Br.mkF (fun hb => (by (first | (simp at hb; done) | omega | (simp only [decide_eq_true_eq, decide_eq_false_iff_not, Bool.not_eq_true', Bool.not_eq_false'] at hb; first | omega | fail) | fail))) (fun hb => ?_))
   | ((with_reducible refine Or.inl ?_); (conv => whnf); (with_reducible refine And.intro LitSl.mk ?_))
   | refine Br.t ?_
   | refine Br.f ?_
   | (with_reducible refine Or.inr ⟨[?_], _, _, _, _, ranswers_3 e n nx tc j ps hps he 0 dt dx (by omega) hx, ?_⟩)
   | (with_reducible refine Or.inr (Or.inr ⟨[?_], _, _, _, _, ranswers_3 e n nx tc j ps hps he 0 dt dx (by omega) hx, ?_⟩))
   | (with_reducible refine Or.inr ⟨[?_], _, _, _, _, rto_3 e n nx tc ⟨3, j.sh, j.ep, j.fr, j.to, j.pc, j.ps, j.key, j.ot, j.oe, j.a, j.b⟩ ps hps he (j.pc + 1) d1 (by omega) hd, ?_⟩)
   | (with_reducible refine Or.inr (Or.inr ⟨[?_], _, _, _, _, rto_3 e n nx tc ⟨3, j.sh, j.ep, j.fr, j.to, j.pc, j.ps, j.key, j.ot, j.oe, j.a, j.b⟩ ps hps he (j.pc + 1) d1 (by omega) hd, ?_⟩))
   | (with_reducible refine Br.mk (fun hb => ?_) (fun hb => ?_) <;> (try rw [hb]) <;> (try simp only [List.length_map, decide_eq_true_eq, decide_eq_false_iff_not, Bool.not_eq_true', Bool.not_eq_false', Int.ofNat_lt, Int.ofNat_le, Int.not_lt, Int.not_le, Int.toNat_natCast] at hb))
   | ((with_reducible first | refine Or.inl (And.intro ?_ ?_) | refine And.intro ?_ ?_); (focus (first | with_reducible rfl | exact trivial | (exact ⟨rfl, trivial⟩) | (exact ⟨rfl, rfl, trivial⟩) | omega | (intro r hr; simp only [List.mem_singleton] at hr; subst hr; rfl)  | ((simp only [in64, maxLen] at *; omega)) | ((simp only [List.length_map]; omega)) | ((exact ⟨by omega, by simp only [List.length_map]; omega⟩)) | (simp only [in64]; omega) | assumption | (simp; done) | (simp [V.cells]; done) | (simp [in64, maxLen, limK] at *; omega) | ((show confB _ _ = true); kernel_rfl) | rfl)))
   | (intro row hrow; (try simp only [Int.toNat_natCast, List.length_map, toNat_pred, toNat_succ', toNat_zero', toNat_one'] at hrow); (first | (have hsm := same_map (by assumption) hrow; subst hsm; clear hrow) | (obtain ⟨p, hp, rfl⟩ := of_map hrow; clear hrow)))))
  all_goals (conv => whnf)
  all_goals (refine ⟨[0], ?_⟩)
  all_goals (repeat' (first | (with_reducible rfl) | exact trivial | ((conv => whnf); (first | (with_reducible refine And.intro ?_ ?_) | exact trivial | (intro hb; first | (exfalso; simp_all; done) | skip)))))
  all_goals (first | rfl)

set_option maxRecDepth 100000 in
set_option maxHeartbeats 400000 in
theorem rtake_12b (e n nx tc : Int) (j : JobV) (ps : List Bs) (hps : ps.length ≤ 10) (he : 0 ≤ j.ep ∧ j.ep ≤ 1000) (hpc : 0 ≤ j.pc ∧ j.pc ≤ 1000) (h1 : ¬ j.pc + 1 < j.ps) (dx : Bs) (hx : ps[j.pc.toNat]? = some dx) (dt : Bs)  : FnM Tryd.prog 15 [.ptr 0 0, .agg [.int .i64 12, .int .i64 j.to, .int .i64 100, .int .i64 j.sh, .int .i64 (j.ep + 1), .int .i64 j.pc, .int .i64 0, .int .i64 0, .int .i64 0, .str [], .str [], .str [], .int .i64 0, .nils, .int .i64 0, .str [], .int .i64 0, .nils, .str [], .str [], .nils, .nils, .nils, .str dt]] [.cells [.sl [[.int .i64 1, .int .i64 e, .int .i64 n, .str [], .str []]], .int .i64 3, .int .i64 j.sh, .int .i64 j.ep, .int .i64 j.fr, .int .i64 j.to, .int .i64 j.pc, .int .i64 j.ps, .str j.key, .int .i64 j.ot, .int .i64 j.oe, .int .i64 j.a, .int .i64 j.b, .int .i64 nx, .sl (ps.map encP), .int .i64 tc]] (.sl [[.int .i64 13, .int .i64 100, .int .i64 j.to, .int .i64 j.sh, .int .i64 (j.ep + 1), .int .i64 j.ps, .int .i64 0, .int .i64 0, .int .i64 0, .str [], .str [], .str [], .int .i64 0, .nils, .int .i64 0, .str [], .int .i64 0, .nils, .str [], .str [], .nils, .nils, .nils, .str []]]) [.cells [.sl [[.int .i64 1, .int .i64 e, .int .i64 n, .str [], .str []]], .int .i64 4, .int .i64 j.sh, .int .i64 j.ep, .int .i64 j.fr, .int .i64 j.to, .int .i64 0, .int .i64 j.ps, .str j.key, .int .i64 j.ot, .int .i64 j.oe, .int .i64 j.a, .int .i64 j.b, .int .i64 nx, .sl (ps.map encP), .int .i64 0]] := by
  refine FnM.mk' base Tryd.func15 rfl rfl rfl rfl ?_
  repeat' ((conv => whnf); (first
   | (with_reducible first | refine AW.seq ?_ | refine AW.region base (by kernel_rfl) ?_ | refine AW.cond ?_ | refine AW.block ?_ | refine AW.ret ?_ | refine AW.exit ?_ | refine AW.skip ?_ | refine Br.t ?_ | refine Br.f ?_)
   | (with_reducible refine Br.mkT (fun hb => (by (first | (simp at hb; done) | omega | (simp only [decide_eq_true_eq, decide_eq_false_iff_not, Bool.not_eq_true', Bool.not_eq_false'] at hb; first | omega | fail) | fail))) (fun hb => ?_))
   | (with_reducible refine Br.mkF (fun hb => (by (first | (simp at hb; done) | omega | (simp only [decide_eq_true_eq, decide_eq_false_iff_not, Bool.not_eq_true', Bool.not_eq_false'] at hb; first | omega | fail) | fail))) (fun hb => ?_))
   | ((with_reducible refine Or.inl ?_); (conv => whnf); (with_reducible refine And.intro LitSl.mk ?_))
   | refine Br.t ?_
   | refine Br.f ?_
   | (with_reducible refine Or.inr ⟨[?_], _, _, _, _, ranswers_3 e n nx tc j ps hps he 0 dt dx (by omega) hx, ?_⟩)
   | (with_reducible refine Or.inr (Or.inr ⟨[?_], _, _, _, _, ranswers_3 e n nx tc j ps hps he 0 dt dx (by omega) hx, ?_⟩))
   | (with_reducible refine Or.inr ⟨[?_], _, _, _, _, rto_4 e n nx tc ⟨3, j.sh, j.ep, j.fr, j.to, j.pc, j.ps, j.key, j.ot, j.oe, j.a, j.b⟩ ps hps he 0, ?_⟩)
   | (with_reducible refine Or.inr (Or.inr ⟨[?_], _, _, _, _, rto_4 e n nx tc ⟨3, j.sh, j.ep, j.fr, j.to, j.pc, j.ps, j.key, j.ot, j.oe, j.a, j.b⟩ ps hps he 0, ?_⟩))
   | (with_reducible refine Br.mk (fun hb => ?_) (fun hb => ?_) <;> (try rw [hb]) <;> (try simp only [List.length_map, decide_eq_true_eq, decide_eq_false_iff_not, Bool.not_eq_true', Bool.not_eq_false', Int.ofNat_lt, Int.ofNat_le, Int.not_lt, Int.not_le, Int.toNat_natCast] at hb))
   | ((with_reducible first | refine Or.inl (And.intro ?_ ?_) | refine And.intro ?_ ?_); (focus (first | with_reducible rfl | exact trivial | (exact ⟨rfl, trivial⟩) | (exact ⟨rfl, rfl, trivial⟩) | omega | (intro r hr; simp only [List.mem_singleton] at hr; subst hr; rfl)  | ((simp only [in64, maxLen] at *; omega)) | ((simp only [List.length_map]; omega)) | ((exact ⟨by omega, by simp only [List.length_map]; omega⟩)) | (simp only [in64]; omega) | assumption | (simp; done) | (simp [V.cells]; done) | (simp [in64, maxLen, limK] at *; omega) | ((show confB _ _ = true); kernel_rfl) | rfl)))
   | (intro row hrow; (try simp only [Int.toNat_natCast, List.length_map, toNat_pred, toNat_succ', toNat_zero', toNat_one'] at hrow); (first | (have hsm := same_map (by assumption) hrow; subst hsm; clear hrow) | (obtain ⟨p, hp, rfl⟩ := of_map hrow; clear hrow)))))
  all_goals (conv => whnf)
  all_goals (refine ⟨[0], ?_⟩)
  all_goals (repeat' (first | (with_reducible rfl) | exact trivial | ((conv => whnf); (first | (with_reducible refine And.intro ?_ ?_) | exact trivial | (intro hb; first | (exfalso; simp_all; done) | skip)))))
  all_goals (first | rfl)

set_option maxRecDepth 100000 in
set_option maxHeartbeats 400000 in
theorem rtake_14 (e n nx tc : Int) (j : JobV) (ps : List Bs) (hps : ps.length ≤ 10) (he : 0 ≤ j.ep ∧ j.ep ≤ 1000) (dt : Bs)  : FnM Tryd.prog 15 [.ptr 0 0, .agg [.int .i64 14, .int .i64 j.to, .int .i64 100, .int .i64 1, .int .i64 (j.ep + 1), .int .i64 0, .int .i64 0, .int .i64 0, .int .i64 0, .str [], .str [], .str [], .int .i64 0, .nils, .int .i64 0, .str [], .int .i64 0, .nils, .str [], .str [], .nils, .nils, .nils, .str dt]] [.cells [.sl [[.int .i64 1, .int .i64 e, .int .i64 n, .str [], .str []]], .int .i64 4, .int .i64 1, .int .i64 j.ep, .int .i64 j.fr, .int .i64 j.to, .int .i64 j.pc, .int .i64 j.ps, .str j.key, .int .i64 j.ot, .int .i64 j.oe, .int .i64 j.a, .int .i64 j.b, .int .i64 nx, .sl (ps.map encP), .int .i64 tc]] (.sl [[.int .i64 17, .int .i64 100, .int .i64 j.fr, .int .i64 1, .int .i64 j.ep, .int .i64 0, .int .i64 0, .int .i64 0, .int .i64 0, .str [], .str [], .str [], .int .i64 0, .nils, .int .i64 0, .str [], .int .i64 0, .nils, .str [], .str [], .nils, .nils, .nils, .str []]]) [.cells [.sl [[.int .i64 1, .int .i64 (j.ep + 1), .int .i64 j.to, .str [], .str []]], .int .i64 5, .int .i64 1, .int .i64 j.ep, .int .i64 j.fr, .int .i64 j.to, .int .i64 0, .int .i64 j.ps, .str j.key, .int .i64 j.ot, .int .i64 j.oe, .int .i64 j.a, .int .i64 j.b, .int .i64 nx, .sl (ps.map encP), .int .i64 0]] := by
  refine FnM.mk' base Tryd.func15 rfl rfl rfl rfl ?_
  repeat' ((conv => whnf); (first
   | (with_reducible first | refine AW.seq ?_ | refine AW.region base (by kernel_rfl) ?_ | refine AW.cond ?_ | refine AW.block ?_ | refine AW.ret ?_ | refine AW.exit ?_ | refine AW.skip ?_ | refine Br.t ?_ | refine Br.f ?_)
   | (with_reducible refine Br.mkT (fun hb => (by (first | (simp at hb; done) | omega | (simp only [decide_eq_true_eq, decide_eq_false_iff_not, Bool.not_eq_true', Bool.not_eq_false'] at hb; first | omega | fail) | fail))) (fun hb => ?_))
   | (with_reducible refine Br.mkF (fun hb => (by (first | (simp at hb; done) | omega | (simp only [decide_eq_true_eq, decide_eq_false_iff_not, Bool.not_eq_true', Bool.not_eq_false'] at hb; first | omega | fail) | fail))) (fun hb => ?_))
   | ((with_reducible refine Or.inl ?_); (conv => whnf); (with_reducible refine And.intro LitSl.mk ?_))
   | refine Br.t ?_
   | refine Br.f ?_
   | ((with_reducible refine Or.inl ?_); (conv => whnf); (first | (with_reducible first | refine ⟨_, rmovep_fn e n (j.ep + 1) j.to, ?_⟩)))
   | (with_reducible refine Or.inr ⟨[?_], _, _, _, _, ranswers_4 e n nx tc ⟨4, 1, j.ep, j.fr, j.to, j.pc, j.ps, j.key, j.ot, j.oe, j.a, j.b⟩ ps hps he 0 dt, ?_⟩)
   | (with_reducible refine Or.inr (Or.inr ⟨[?_], _, _, _, _, ranswers_4 e n nx tc ⟨4, 1, j.ep, j.fr, j.to, j.pc, j.ps, j.key, j.ot, j.oe, j.a, j.b⟩ ps hps he 0 dt, ?_⟩))
   | (with_reducible refine Or.inr ⟨[?_], _, _, _, _, rto_5 (j.ep + 1) j.to nx tc ⟨4, 1, j.ep, j.fr, j.to, j.pc, j.ps, j.key, j.ot, j.oe, j.a, j.b⟩ ps hps he 0, ?_⟩)
   | (with_reducible refine Or.inr (Or.inr ⟨[?_], _, _, _, _, rto_5 (j.ep + 1) j.to nx tc ⟨4, 1, j.ep, j.fr, j.to, j.pc, j.ps, j.key, j.ot, j.oe, j.a, j.b⟩ ps hps he 0, ?_⟩))
   | (with_reducible refine Br.mk (fun hb => ?_) (fun hb => ?_) <;> (try rw [hb]) <;> (try simp only [List.length_map, decide_eq_true_eq, decide_eq_false_iff_not, Bool.not_eq_true', Bool.not_eq_false', Int.ofNat_lt, Int.ofNat_le, Int.not_lt, Int.not_le, Int.toNat_natCast] at hb))
   | ((with_reducible first | refine Or.inl (And.intro ?_ ?_) | refine And.intro ?_ ?_); (focus (first | with_reducible rfl | exact trivial | (exact ⟨rfl, trivial⟩) | (exact ⟨rfl, rfl, trivial⟩) | omega | (intro r hr; simp only [List.mem_singleton] at hr; subst hr; rfl)  | ((simp only [in64, maxLen] at *; omega)) | ((simp only [List.length_map]; omega)) | ((exact ⟨by omega, by simp only [List.length_map]; omega⟩)) | (simp only [in64]; omega) | assumption | (simp; done) | (simp [V.cells]; done) | (simp [in64, maxLen, limK] at *; omega) | ((show confB _ _ = true); kernel_rfl) | rfl)))
   | (intro row hrow; (try simp only [Int.toNat_natCast, List.length_map, toNat_pred, toNat_succ', toNat_zero', toNat_one'] at hrow); (first | (have hsm := same_map (by assumption) hrow; subst hsm; clear hrow) | (obtain ⟨p, hp, rfl⟩ := of_map hrow; clear hrow)))))
  all_goals (conv => whnf)
  all_goals (refine ⟨[0], ?_⟩)
  all_goals (repeat' (first | (with_reducible rfl) | exact trivial | ((conv => whnf); (first | (with_reducible refine And.intro ?_ ?_) | exact trivial | (intro hb; first | (exfalso; simp_all; done) | skip)))))
  all_goals (first | rfl)

set_option maxRecDepth 100000 in
set_option maxHeartbeats 400000 in
theorem rover_fn (e n nx tc : Int) (j : JobV) (ps : List Bs) (hps : ps.length ≤ 10)  : FnM Tryd.prog 40 [.ptr 0 0, .sl [[.int .i64 1, .int .i64 e, .int .i64 n, .str [], .str []]]] [.cells [.sl [[.int .i64 1, .int .i64 e, .int .i64 n, .str [], .str []]], .int .i64 j.ph, .int .i64 j.sh, .int .i64 j.ep, .int .i64 j.fr, .int .i64 j.to, .int .i64 j.pc, .int .i64 j.ps, .str j.key, .int .i64 j.ot, .int .i64 j.oe, .int .i64 j.a, .int .i64 j.b, .int .i64 nx, .sl (ps.map encP), .int .i64 tc]] (.nils) [.cells [.sl [[.int .i64 1, .int .i64 e, .int .i64 n, .str [], .str []]], .int .i64 0, .int .i64 0, .int .i64 0, .int .i64 0, .int .i64 0, .int .i64 0, .int .i64 0, .str [], .int .i64 0, .int .i64 0, .int .i64 0, .int .i64 0, .int .i64 nx, .nils, .int .i64 tc]] := by
  refine FnM.mk' base Tryd.func40 rfl rfl rfl rfl ?_
  repeat' ((conv => whnf); (first
   | (with_reducible first | refine AW.seq ?_ | refine AW.region base (by kernel_rfl) ?_ | refine AW.cond ?_ | refine AW.block ?_ | refine AW.ret ?_ | refine AW.exit ?_ | refine AW.skip ?_ | refine Br.t ?_ | refine Br.f ?_)
   | (with_reducible refine Br.mkT (fun hb => (by (first | (simp at hb; done) | omega | (simp only [decide_eq_true_eq, decide_eq_false_iff_not, Bool.not_eq_true', Bool.not_eq_false'] at hb; first | omega | fail) | fail))) (fun hb => ?_))
   | (with_reducible refine Br.mkF (fun hb => (by (first | (simp at hb; done) | omega | (simp only [decide_eq_true_eq, decide_eq_false_iff_not, Bool.not_eq_true', Bool.not_eq_false'] at hb; first | omega | fail) | fail))) (fun hb => ?_))
   | ((with_reducible refine Or.inl ?_); (conv => whnf); (with_reducible refine And.intro LitSl.mk ?_))
   | refine Br.t ?_
   | refine Br.f ?_
   | (with_reducible refine Br.mk (fun hb => ?_) (fun hb => ?_) <;> (try rw [hb]) <;> (try simp only [List.length_map, decide_eq_true_eq, decide_eq_false_iff_not, Bool.not_eq_true', Bool.not_eq_false', Int.ofNat_lt, Int.ofNat_le, Int.not_lt, Int.not_le, Int.toNat_natCast] at hb))
   | ((with_reducible first | refine Or.inl (And.intro ?_ ?_) | refine And.intro ?_ ?_); (focus (first | with_reducible rfl | exact trivial | (exact ⟨rfl, trivial⟩) | (exact ⟨rfl, rfl, trivial⟩) | omega | (intro r hr; simp only [List.mem_singleton] at hr; subst hr; rfl)  | ((simp only [in64, maxLen] at *; omega)) | ((simp only [List.length_map]; omega)) | ((exact ⟨by omega, by simp only [List.length_map]; omega⟩)) | (simp only [in64]; omega) | assumption | (simp; done) | (simp [V.cells]; done) | (simp [in64, maxLen, limK] at *; omega) | ((show confB _ _ = true); kernel_rfl) | rfl)))
   | (intro row hrow; (try simp only [Int.toNat_natCast, List.length_map, toNat_pred, toNat_succ', toNat_zero', toNat_one'] at hrow); (first | (have hsm := same_map (by assumption) hrow; subst hsm; clear hrow) | (obtain ⟨p, hp, rfl⟩ := of_map hrow; clear hrow)))))
  all_goals (conv => whnf)
  all_goals (refine ⟨[0], ?_⟩)
  all_goals (repeat' (first | (with_reducible rfl) | exact trivial | ((conv => whnf); (first | (with_reducible refine And.intro ?_ ?_) | exact trivial | (intro hb; first | (exfalso; simp_all; done) | skip)))))
  all_goals (first | rfl)

set_option maxRecDepth 100000 in
set_option maxHeartbeats 400000 in
theorem rtake_18 (e n nx tc : Int) (j : JobV) (ps : List Bs) (hps : ps.length ≤ 10) (he : 0 ≤ j.ep ∧ j.ep ≤ 1000) (x2 : Int) (dt : Bs)  : FnM Tryd.prog 15 [.ptr 0 0, .agg [.int .i64 18, .int .i64 j.fr, .int .i64 100, .int .i64 j.sh, .int .i64 j.ep, .int .i64 x2, .int .i64 0, .int .i64 0, .int .i64 0, .str [], .str [], .str [], .int .i64 0, .nils, .int .i64 0, .str [], .int .i64 0, .nils, .str [], .str [], .nils, .nils, .nils, .str dt]] [.cells [.sl [[.int .i64 1, .int .i64 e, .int .i64 n, .str [], .str []]], .int .i64 5, .int .i64 j.sh, .int .i64 j.ep, .int .i64 j.fr, .int .i64 j.to, .int .i64 j.pc, .int .i64 j.ps, .str j.key, .int .i64 j.ot, .int .i64 j.oe, .int .i64 j.a, .int .i64 j.b, .int .i64 nx, .sl (ps.map encP), .int .i64 tc]] (.nils) [.cells [.sl [[.int .i64 1, .int .i64 e, .int .i64 n, .str [], .str []]], .int .i64 0, .int .i64 0, .int .i64 0, .int .i64 0, .int .i64 0, .int .i64 0, .int .i64 0, .str [], .int .i64 0, .int .i64 0, .int .i64 0, .int .i64 0, .int .i64 nx, .nils, .int .i64 tc]] := by
  refine FnM.mk' base Tryd.func15 rfl rfl rfl rfl ?_
  repeat' ((conv => whnf); (first
   | (with_reducible first | refine AW.seq ?_ | refine AW.region base (by kernel_rfl) ?_ | refine AW.cond ?_ | refine AW.block ?_ | refine AW.ret ?_ | refine AW.exit ?_ | refine AW.skip ?_ | refine Br.t ?_ | refine Br.f ?_)
   | (with_reducible refine Br.mkT (fun hb => (by (first | (simp at hb; done) | omega | (simp only [decide_eq_true_eq, decide_eq_false_iff_not, Bool.not_eq_true', Bool.not_eq_false'] at hb; first | omega | fail) | fail))) (fun hb => ?_))
   | (with_reducible refine Br.mkF (fun hb => (by (first | (simp at hb; done) | omega | (simp only [decide_eq_true_eq, decide_eq_false_iff_not, Bool.not_eq_true', Bool.not_eq_false'] at hb; first | omega | fail) | fail))) (fun hb => ?_))
   | ((with_reducible refine Or.inl ?_); (conv => whnf); (with_reducible refine And.intro LitSl.mk ?_))
   | refine Br.t ?_
   | refine Br.f ?_
   | (with_reducible refine Or.inr ⟨[?_], _, _, _, _, ranswers_5 e n nx tc j ps hps he x2 dt, ?_⟩)
   | (with_reducible refine Or.inr (Or.inr ⟨[?_], _, _, _, _, ranswers_5 e n nx tc j ps hps he x2 dt, ?_⟩))
   | (with_reducible refine Or.inr ⟨[?_], _, _, _, _, rover_fn e n nx tc ⟨5, j.sh, j.ep, j.fr, j.to, j.pc, j.ps, j.key, j.ot, j.oe, j.a, j.b⟩ ps hps, ?_⟩)
   | (with_reducible refine Or.inr (Or.inr ⟨[?_], _, _, _, _, rover_fn e n nx tc ⟨5, j.sh, j.ep, j.fr, j.to, j.pc, j.ps, j.key, j.ot, j.oe, j.a, j.b⟩ ps hps, ?_⟩))
   | (with_reducible refine Br.mk (fun hb => ?_) (fun hb => ?_) <;> (try rw [hb]) <;> (try simp only [List.length_map, decide_eq_true_eq, decide_eq_false_iff_not, Bool.not_eq_true', Bool.not_eq_false', Int.ofNat_lt, Int.ofNat_le, Int.not_lt, Int.not_le, Int.toNat_natCast] at hb))
   | ((with_reducible first | refine Or.inl (And.intro ?_ ?_) | refine And.intro ?_ ?_); (focus (first | with_reducible rfl | exact trivial | (exact ⟨rfl, trivial⟩) | (exact ⟨rfl, rfl, trivial⟩) | omega | (intro r hr; simp only [List.mem_singleton] at hr; subst hr; rfl)  | ((simp only [in64, maxLen] at *; omega)) | ((simp only [List.length_map]; omega)) | ((exact ⟨by omega, by simp only [List.length_map]; omega⟩)) | (simp only [in64]; omega) | assumption | (simp; done) | (simp [V.cells]; done) | (simp [in64, maxLen, limK] at *; omega) | ((show confB _ _ = true); kernel_rfl) | rfl)))
   | (intro row hrow; (try simp only [Int.toNat_natCast, List.length_map, toNat_pred, toNat_succ', toNat_zero', toNat_one'] at hrow); (first | (have hsm := same_map (by assumption) hrow; subst hsm; clear hrow) | (obtain ⟨p, hp, rfl⟩ := of_map hrow; clear hrow)))))
  all_goals (conv => whnf)
  all_goals (refine ⟨[0], ?_⟩)
  all_goals (repeat' (first | (with_reducible rfl) | exact trivial | ((conv => whnf); (first | (with_reducible refine And.intro ?_ ?_) | exact trivial | (intro hb; first | (exfalso; simp_all; done) | skip)))))
  all_goals (first | rfl)

set_option maxRecDepth 100000 in
set_option maxHeartbeats 400000 in
theorem answer_1 (e n nx tc : Int) (j : JobV) (he : 0 ≤ j.ep ∧ j.ep ≤ 1000) (x2 : Int) (h2 : 0 ≤ x2 ∧ x2 ≤ 3) (dt : Bs)  : FnM Tryd.prog 13 [.ptr 0 0, .agg [.int .i64 0, .int .i64 0, .str [], .int .i64 0, .int .i64 0, .int .i64 0, .int .i64 0, .int .i64 0, .int .i64 x2, .int .i64 0, .int .i64 0, .int .i64 0, .str [], .str [], .str [], .int .i64 0, .nils, .int .i64 0, .str [], .int .i64 0, .nils, .str [], .str [], .nils, .nils, .nils, .str dt]] [.cells [.sl [[.int .i64 1, .int .i64 e, .int .i64 n, .str [], .str []]], .int .i64 1, .int .i64 j.sh, .int .i64 j.ep, .int .i64 j.fr, .int .i64 j.to, .int .i64 j.pc, .int .i64 j.ps, .str j.key, .int .i64 j.ot, .int .i64 j.oe, .int .i64 j.a, .int .i64 j.b, .int .i64 nx, .nils, .int .i64 tc]] (.agg [.int .i64 8, .int .i64 j.fr, .int .i64 100, .int .i64 j.sh, .int .i64 j.ep, .int .i64 (1 + x2), .int .i64 0, .int .i64 0, .int .i64 0, .str [], .str [], .str [], .int .i64 0, .nils, .int .i64 0, .str [], .int .i64 0, .nils, .str [], .str [], .nils, .nils, .nils, .str dt]) [.cells [.sl [[.int .i64 1, .int .i64 e, .int .i64 n, .str [], .str []]], .int .i64 1, .int .i64 j.sh, .int .i64 j.ep, .int .i64 j.fr, .int .i64 j.to, .int .i64 j.pc, .int .i64 j.ps, .str j.key, .int .i64 j.ot, .int .i64 j.oe, .int .i64 j.a, .int .i64 j.b, .int .i64 nx, .nils, .int .i64 tc]] := by
  refine FnM.mk' base Tryd.func13 rfl rfl rfl rfl ?_
  rcases (by omega : x2 = 0 ∨ x2 = 1 ∨ x2 = 2 ∨ x2 = 3) with rfl | rfl | rfl | rfl
  all_goals (
  repeat' ((conv => whnf); (first
   | (with_reducible first | refine AW.seq ?_ | refine AW.region base (by kernel_rfl) ?_ | refine AW.cond ?_ | refine AW.block ?_ | refine AW.ret ?_ | refine AW.exit ?_ | refine AW.skip ?_ | refine Br.t ?_ | refine Br.f ?_)
   | (with_reducible refine Br.mkT (fun hb => (by (first | (simp at hb; done) | omega | (simp only [decide_eq_true_eq, decide_eq_false_iff_not, Bool.not_eq_true', Bool.not_eq_false'] at hb; first | omega | fail) | fail))) (fun hb => ?_))
   | (with_reducible refine Br.mkF (fun hb => (by (first | (simp at hb; done) | omega | (simp only [decide_eq_true_eq, decide_eq_false_iff_not, Bool.not_eq_true', Bool.not_eq_false'] at hb; first | omega | fail) | fail))) (fun hb => ?_))
   | ((with_reducible refine Or.inl ?_); (conv => whnf); (with_reducible refine And.intro LitSl.mk ?_))
   | refine Br.t ?_
   | refine Br.f ?_
   | (with_reducible refine Br.mk (fun hb => ?_) (fun hb => ?_) <;> (try rw [hb]) <;> (try simp only [List.length_map, decide_eq_true_eq, decide_eq_false_iff_not, Bool.not_eq_true', Bool.not_eq_false', Int.ofNat_lt, Int.ofNat_le, Int.not_lt, Int.not_le, Int.toNat_natCast] at hb))
   | ((with_reducible first | refine Or.inl (And.intro ?_ ?_) | refine And.intro ?_ ?_); (focus (first | with_reducible rfl | exact trivial | (exact ⟨rfl, trivial⟩) | (exact ⟨rfl, rfl, trivial⟩) | omega | (intro r hr; simp only [List.mem_singleton] at hr; subst hr; rfl)  | ((simp only [in64, maxLen] at *; omega)) | ((exact ⟨by decide, by decide⟩)) | ((unfold in64; decide)) | ((simp [limK]; done)) | ((exact ⟨by decide, by simp [limK], by decide, by simp [limK]⟩)) | (simp only [in64]; omega) | assumption | (simp; done) | (simp [V.cells]; done) | (simp [in64, maxLen, limK] at *; omega) | ((show confB _ _ = true); kernel_rfl) | rfl)))
   | (intro row hrow; (try simp only [Int.toNat_natCast, List.length_map, toNat_pred, toNat_succ', toNat_zero', toNat_one'] at hrow); (first | (have hsm := same_map (by assumption) hrow; subst hsm; clear hrow) | (obtain ⟨p, hp, rfl⟩ := of_map hrow; clear hrow)))))
  all_goals (conv => whnf)
  all_goals (refine ⟨[0], ?_⟩)
  all_goals (repeat' (first | (with_reducible rfl) | exact trivial | ((conv => whnf); (first | (with_reducible refine And.intro ?_ ?_) | exact trivial | (intro hb; first | (exfalso; simp_all; done) | skip)))))
  all_goals (first | rfl))

set_option maxRecDepth 100000 in
set_option maxHeartbeats 400000 in
theorem answer_2 (e n nx tc : Int) (j : JobV) (ps : List Bs) (hps : ps.length ≤ 10) (he : 0 ≤ j.ep ∧ j.ep ≤ 1000) (x2 : Int) (h2 : 0 ≤ x2 ∧ x2 ≤ 3) (dt : Bs)  : FnM Tryd.prog 13 [.ptr 0 0, .agg [.int .i64 0, .int .i64 0, .str [], .int .i64 0, .int .i64 0, .int .i64 0, .int .i64 0, .int .i64 0, .int .i64 x2, .int .i64 0, .int .i64 0, .int .i64 0, .str [], .str [], .str [], .int .i64 0, .nils, .int .i64 0, .str [], .int .i64 0, .nils, .str [], .str [], .nils, .nils, .nils, .str dt]] [.cells [.sl [[.int .i64 1, .int .i64 e, .int .i64 n, .str [], .str []]], .int .i64 2, .int .i64 j.sh, .int .i64 j.ep, .int .i64 j.fr, .int .i64 j.to, .int .i64 j.pc, .int .i64 j.ps, .str j.key, .int .i64 j.ot, .int .i64 j.oe, .int .i64 j.a, .int .i64 j.b, .int .i64 nx, .sl (ps.map encP), .int .i64 tc]] (.agg [.int .i64 10, .int .i64 j.fr, .int .i64 100, .int .i64 j.sh, .int .i64 j.ep, .int .i64 j.pc, .int .i64 0, .int .i64 0, .int .i64 0, .str [], .str [], .str [], .int .i64 0, .nils, .int .i64 0, .str [], .int .i64 0, .nils, .str [], .str [], .nils, .nils, .nils, .str dt]) [.cells [.sl [[.int .i64 1, .int .i64 e, .int .i64 n, .str [], .str []]], .int .i64 2, .int .i64 j.sh, .int .i64 j.ep, .int .i64 j.fr, .int .i64 j.to, .int .i64 j.pc, .int .i64 j.ps, .str j.key, .int .i64 j.ot, .int .i64 j.oe, .int .i64 j.a, .int .i64 j.b, .int .i64 nx, .sl (ps.map encP), .int .i64 tc]] := by
  refine FnM.mk' base Tryd.func13 rfl rfl rfl rfl ?_
  repeat' ((conv => whnf); (first
   | (with_reducible first | refine AW.seq ?_ | refine AW.region base (by kernel_rfl) ?_ | refine AW.cond ?_ | refine AW.block ?_ | refine AW.ret ?_ | refine AW.exit ?_ | refine AW.skip ?_ | refine Br.t ?_ | refine Br.f ?_)
   | (with_reducible refine Br.mkT (fun hb => (by (first | (simp at hb; done) | omega | (simp only [decide_eq_true_eq, decide_eq_false_iff_not, Bool.not_eq_true', Bool.not_eq_false'] at hb; first | omega | fail) | fail))) (fun hb => ?_))
   | (with_reducible refine Br.mkF (fun hb => (by (first | (simp at hb; done) | omega | (simp only [decide_eq_true_eq, decide_eq_false_iff_not, Bool.not_eq_true', Bool.not_eq_false'] at hb; first | omega | fail) | fail))) (fun hb => ?_))
   | ((with_reducible refine Or.inl ?_); (conv => whnf); (with_reducible refine And.intro LitSl.mk ?_))
   | refine Br.t ?_
   | refine Br.f ?_
   | (with_reducible refine Br.mk (fun hb => ?_) (fun hb => ?_) <;> (try rw [hb]) <;> (try simp only [List.length_map, decide_eq_true_eq, decide_eq_false_iff_not, Bool.not_eq_true', Bool.not_eq_false', Int.ofNat_lt, Int.ofNat_le, Int.not_lt, Int.not_le, Int.toNat_natCast] at hb))
   | ((with_reducible first | refine Or.inl (And.intro ?_ ?_) | refine And.intro ?_ ?_); (focus (first | with_reducible rfl | exact trivial | (exact ⟨rfl, trivial⟩) | (exact ⟨rfl, rfl, trivial⟩) | omega | (intro r hr; simp only [List.mem_singleton] at hr; subst hr; rfl)  | ((simp only [in64, maxLen] at *; omega)) | ((exact ⟨by decide, by decide⟩)) | ((unfold in64; decide)) | ((simp [limK]; done)) | ((exact ⟨by decide, by simp [limK], by decide, by simp [limK]⟩)) | (simp only [in64]; omega) | assumption | (simp; done) | (simp [V.cells]; done) | (simp [in64, maxLen, limK] at *; omega) | ((show confB _ _ = true); kernel_rfl) | rfl)))
   | (intro row hrow; (try simp only [Int.toNat_natCast, List.length_map, toNat_pred, toNat_succ', toNat_zero', toNat_one'] at hrow); (first | (have hsm := same_map (by assumption) hrow; subst hsm; clear hrow) | (obtain ⟨p, hp, rfl⟩ := of_map hrow; clear hrow)))))
  all_goals (conv => whnf)
  all_goals (refine ⟨[0], ?_⟩)
  all_goals (repeat' (first | (with_reducible rfl) | exact trivial | ((conv => whnf); (first | (with_reducible refine And.intro ?_ ?_) | exact trivial | (intro hb; first | (exfalso; simp_all; done) | skip)))))
  all_goals (first | rfl)

set_option maxRecDepth 100000 in
set_option maxHeartbeats 400000 in
theorem answer_3 (e n nx tc : Int) (j : JobV) (ps : List Bs) (hps : ps.length ≤ 10) (he : 0 ≤ j.ep ∧ j.ep ≤ 1000) (x2 : Int) (h2 : 0 ≤ x2 ∧ x2 ≤ 3) (dt : Bs)  : FnM Tryd.prog 13 [.ptr 0 0, .agg [.int .i64 0, .int .i64 0, .str [], .int .i64 0, .int .i64 0, .int .i64 0, .int .i64 0, .int .i64 0, .int .i64 x2, .int .i64 0, .int .i64 0, .int .i64 0, .str [], .str [], .str [], .int .i64 0, .nils, .int .i64 0, .str [], .int .i64 0, .nils, .str [], .str [], .nils, .nils, .nils, .str dt]] [.cells [.sl [[.int .i64 1, .int .i64 e, .int .i64 n, .str [], .str []]], .int .i64 3, .int .i64 j.sh, .int .i64 j.ep, .int .i64 j.fr, .int .i64 j.to, .int .i64 j.pc, .int .i64 j.ps, .str j.key, .int .i64 j.ot, .int .i64 j.oe, .int .i64 j.a, .int .i64 j.b, .int .i64 nx, .sl (ps.map encP), .int .i64 tc]] (.agg [.int .i64 12, .int .i64 j.to, .int .i64 100, .int .i64 j.sh, .int .i64 (j.ep + 1), .int .i64 j.pc, .int .i64 0, .int .i64 0, .int .i64 0, .str [], .str [], .str [], .int .i64 0, .nils, .int .i64 0, .str [], .int .i64 0, .nils, .str [], .str [], .nils, .nils, .nils, .str dt]) [.cells [.sl [[.int .i64 1, .int .i64 e, .int .i64 n, .str [], .str []]], .int .i64 3, .int .i64 j.sh, .int .i64 j.ep, .int .i64 j.fr, .int .i64 j.to, .int .i64 j.pc, .int .i64 j.ps, .str j.key, .int .i64 j.ot, .int .i64 j.oe, .int .i64 j.a, .int .i64 j.b, .int .i64 nx, .sl (ps.map encP), .int .i64 tc]] := by
  refine FnM.mk' base Tryd.func13 rfl rfl rfl rfl ?_
  repeat' ((conv => whnf); (first
   | (with_reducible first | refine AW.seq ?_ | refine AW.region base (by kernel_rfl) ?_ | refine AW.cond ?_ | refine AW.block ?_ | refine AW.ret ?_ | refine AW.exit ?_ | refine AW.skip ?_ | refine Br.t ?_ | refine Br.f ?_)
   | (with_reducible refine Br.mkT (fun hb => (by (first | (simp at hb; done) | omega | (simp only [decide_eq_true_eq, decide_eq_false_iff_not, Bool.not_eq_true', Bool.not_eq_false'] at hb; first | omega | fail) | fail))) (fun hb => ?_))
   | (with_reducible refine Br.mkF (fun hb => (by (first | (simp at hb; done) | omega | (simp only [decide_eq_true_eq, decide_eq_false_iff_not, Bool.not_eq_true', Bool.not_eq_false'] at hb; first | omega | fail) | fail))) (fun hb => ?_))
   | ((with_reducible refine Or.inl ?_); (conv => whnf); (with_reducible refine And.intro LitSl.mk ?_))
   | refine Br.t ?_
   | refine Br.f ?_
   | (with_reducible refine Br.mk (fun hb => ?_) (fun hb => ?_) <;> (try rw [hb]) <;> (try simp only [List.length_map, decide_eq_true_eq, decide_eq_false_iff_not, Bool.not_eq_true', Bool.not_eq_false', Int.ofNat_lt, Int.ofNat_le, Int.not_lt, Int.not_le, Int.toNat_natCast] at hb))
   | ((with_reducible first | refine Or.inl (And.intro ?_ ?_) | refine And.intro ?_ ?_); (focus (first | with_reducible rfl | exact trivial | (exact ⟨rfl, trivial⟩) | (exact ⟨rfl, rfl, trivial⟩) | omega | (intro r hr; simp only [List.mem_singleton] at hr; subst hr; rfl)  | ((simp only [in64, maxLen] at *; omega)) | ((exact ⟨by decide, by decide⟩)) | ((unfold in64; decide)) | ((simp [limK]; done)) | ((exact ⟨by decide, by simp [limK], by decide, by simp [limK]⟩)) | (simp only [in64]; omega) | assumption | (simp; done) | (simp [V.cells]; done) | (simp [in64, maxLen, limK] at *; omega) | ((show confB _ _ = true); kernel_rfl) | rfl)))
   | (intro row hrow; (try simp only [Int.toNat_natCast, List.length_map, toNat_pred, toNat_succ', toNat_zero', toNat_one'] at hrow); (first | (have hsm := same_map (by assumption) hrow; subst hsm; clear hrow) | (obtain ⟨p, hp, rfl⟩ := of_map hrow; clear hrow)))))
  all_goals (conv => whnf)
  all_goals (refine ⟨[0], ?_⟩)
  all_goals (repeat' (first | (with_reducible rfl) | exact trivial | ((conv => whnf); (first | (with_reducible refine And.intro ?_ ?_) | exact trivial | (intro hb; first | (exfalso; simp_all; done) | skip)))))
  all_goals (first | rfl)

set_option maxRecDepth 100000 in
set_option maxHeartbeats 400000 in
theorem answer_5 (e n nx tc : Int) (j : JobV) (ps : List Bs) (hps : ps.length ≤ 10) (he : 0 ≤ j.ep ∧ j.ep ≤ 1000) (x2 : Int) (h2 : 0 ≤ x2 ∧ x2 ≤ 3) (dt : Bs)  : FnM Tryd.prog 13 [.ptr 0 0, .agg [.int .i64 0, .int .i64 0, .str [], .int .i64 0, .int .i64 0, .int .i64 0, .int .i64 0, .int .i64 0, .int .i64 x2, .int .i64 0, .int .i64 0, .int .i64 0, .str [], .str [], .str [], .int .i64 0, .nils, .int .i64 0, .str [], .int .i64 0, .nils, .str [], .str [], .nils, .nils, .nils, .str dt]] [.cells [.sl [[.int .i64 1, .int .i64 e, .int .i64 n, .str [], .str []]], .int .i64 5, .int .i64 j.sh, .int .i64 j.ep, .int .i64 j.fr, .int .i64 j.to, .int .i64 j.pc, .int .i64 j.ps, .str j.key, .int .i64 j.ot, .int .i64 j.oe, .int .i64 j.a, .int .i64 j.b, .int .i64 nx, .sl (ps.map encP), .int .i64 tc]] (.agg [.int .i64 18, .int .i64 j.fr, .int .i64 100, .int .i64 j.sh, .int .i64 j.ep, .int .i64 x2, .int .i64 0, .int .i64 0, .int .i64 0, .str [], .str [], .str [], .int .i64 0, .nils, .int .i64 0, .str [], .int .i64 0, .nils, .str [], .str [], .nils, .nils, .nils, .str dt]) [.cells [.sl [[.int .i64 1, .int .i64 e, .int .i64 n, .str [], .str []]], .int .i64 5, .int .i64 j.sh, .int .i64 j.ep, .int .i64 j.fr, .int .i64 j.to, .int .i64 j.pc, .int .i64 j.ps, .str j.key, .int .i64 j.ot, .int .i64 j.oe, .int .i64 j.a, .int .i64 j.b, .int .i64 nx, .sl (ps.map encP), .int .i64 tc]] := by
  refine FnM.mk' base Tryd.func13 rfl rfl rfl rfl ?_
  repeat' ((conv => whnf); (first
   | (with_reducible first | refine AW.seq ?_ | refine AW.region base (by kernel_rfl) ?_ | refine AW.cond ?_ | refine AW.block ?_ | refine AW.ret ?_ | refine AW.exit ?_ | refine AW.skip ?_ | refine Br.t ?_ | refine Br.f ?_)
   | (with_reducible refine Br.mkT (fun hb => (by (first | (simp at hb; done) | omega | (simp only [decide_eq_true_eq, decide_eq_false_iff_not, Bool.not_eq_true', Bool.not_eq_false'] at hb; first | omega | fail) | fail))) (fun hb => ?_))
   | (with_reducible refine Br.mkF (fun hb => (by (first | (simp at hb; done) | omega | (simp only [decide_eq_true_eq, decide_eq_false_iff_not, Bool.not_eq_true', Bool.not_eq_false'] at hb; first | omega | fail) | fail))) (fun hb => ?_))
   | ((with_reducible refine Or.inl ?_); (conv => whnf); (with_reducible refine And.intro LitSl.mk ?_))
   | refine Br.t ?_
   | refine Br.f ?_
   | (with_reducible refine Br.mk (fun hb => ?_) (fun hb => ?_) <;> (try rw [hb]) <;> (try simp only [List.length_map, decide_eq_true_eq, decide_eq_false_iff_not, Bool.not_eq_true', Bool.not_eq_false', Int.ofNat_lt, Int.ofNat_le, Int.not_lt, Int.not_le, Int.toNat_natCast] at hb))
   | ((with_reducible first | refine Or.inl (And.intro ?_ ?_) | refine And.intro ?_ ?_); (focus (first | with_reducible rfl | exact trivial | (exact ⟨rfl, trivial⟩) | (exact ⟨rfl, rfl, trivial⟩) | omega | (intro r hr; simp only [List.mem_singleton] at hr; subst hr; rfl)  | ((simp only [in64, maxLen] at *; omega)) | ((exact ⟨by decide, by decide⟩)) | ((unfold in64; decide)) | ((simp [limK]; done)) | ((exact ⟨by decide, by simp [limK], by decide, by simp [limK]⟩)) | (simp only [in64]; omega) | assumption | (simp; done) | (simp [V.cells]; done) | (simp [in64, maxLen, limK] at *; omega) | ((show confB _ _ = true); kernel_rfl) | rfl)))
   | (intro row hrow; (try simp only [Int.toNat_natCast, List.length_map, toNat_pred, toNat_succ', toNat_zero', toNat_one'] at hrow); (first | (have hsm := same_map (by assumption) hrow; subst hsm; clear hrow) | (obtain ⟨p, hp, rfl⟩ := of_map hrow; clear hrow)))))
  all_goals (conv => whnf)
  all_goals (refine ⟨[0], ?_⟩)
  all_goals (repeat' (first | (with_reducible rfl) | exact trivial | ((conv => whnf); (first | (with_reducible refine And.intro ?_ ?_) | exact trivial | (intro hb; first | (exfalso; simp_all; done) | skip)))))
  all_goals (first | rfl)

set_option maxRecDepth 100000 in
set_option maxHeartbeats 400000 in
theorem answer_4 (e n nx tc : Int) (j : JobV) (ps : List Bs) (hps : ps.length ≤ 10) (he : 0 ≤ j.ep ∧ j.ep ≤ 1000) (x2 : Int) (h2 : 0 ≤ x2 ∧ x2 ≤ 3) (dt : Bs)  : FnM Tryd.prog 13 [.ptr 0 0, .agg [.int .i64 0, .int .i64 0, .str [], .int .i64 0, .int .i64 0, .int .i64 0, .int .i64 0, .int .i64 0, .int .i64 x2, .int .i64 0, .int .i64 0, .int .i64 0, .str [], .str [], .str [], .int .i64 0, .nils, .int .i64 0, .str [], .int .i64 0, .nils, .str [], .str [], .nils, .nils, .nils, .str dt]] [.cells [.sl [[.int .i64 1, .int .i64 e, .int .i64 n, .str [], .str []]], .int .i64 4, .int .i64 j.sh, .int .i64 j.ep, .int .i64 j.fr, .int .i64 j.to, .int .i64 j.pc, .int .i64 j.ps, .str j.key, .int .i64 j.ot, .int .i64 j.oe, .int .i64 j.a, .int .i64 j.b, .int .i64 nx, .sl (ps.map encP), .int .i64 tc]] (.agg [.int .i64 14, .int .i64 j.to, .int .i64 100, .int .i64 j.sh, .int .i64 (j.ep + 1), .int .i64 (x2 % 2), .int .i64 0, .int .i64 0, .int .i64 0, .str [], .str [], .str [], .int .i64 0, .nils, .int .i64 0, .str [], .int .i64 0, .nils, .str [], .str [], .nils, .nils, .nils, .str dt]) [.cells [.sl [[.int .i64 1, .int .i64 e, .int .i64 n, .str [], .str []]], .int .i64 4, .int .i64 j.sh, .int .i64 j.ep, .int .i64 j.fr, .int .i64 j.to, .int .i64 j.pc, .int .i64 j.ps, .str j.key, .int .i64 j.ot, .int .i64 j.oe, .int .i64 j.a, .int .i64 j.b, .int .i64 nx, .sl (ps.map encP), .int .i64 tc]] := by
  refine FnM.mk' base Tryd.func13 rfl rfl rfl rfl ?_
  rcases (by omega : x2 = 0 ∨ x2 = 1 ∨ x2 = 2 ∨ x2 = 3) with rfl | rfl | rfl | rfl
  all_goals (
  repeat' ((conv => whnf); (first
   | (with_reducible first | refine AW.seq ?_ | refine AW.region base (by kernel_rfl) ?_ | refine AW.cond ?_ | refine AW.block ?_ | refine AW.ret ?_ | refine AW.exit ?_ | refine AW.skip ?_ | refine Br.t ?_ | refine Br.f ?_)
   | (with_reducible refine Br.mkT (fun hb => (by (first | (simp at hb; done) | omega | (simp only [decide_eq_true_eq, decide_eq_false_iff_not, Bool.not_eq_true', Bool.not_eq_false'] at hb; first | omega | fail) | fail))) (fun hb => ?_))
   | (with_reducible refine Br.mkF (fun hb => (by (first | (simp at hb; done) | omega | (simp only [decide_eq_true_eq, decide_eq_false_iff_not, Bool.not_eq_true', Bool.not_eq_false'] at hb; first | omega | fail) | fail))) (fun hb => ?_))
   | ((with_reducible refine Or.inl ?_); (conv => whnf); (with_reducible refine And.intro LitSl.mk ?_))
   | refine Br.t ?_
   | refine Br.f ?_
   | (with_reducible refine Br.mk (fun hb => ?_) (fun hb => ?_) <;> (try rw [hb]) <;> (try simp only [List.length_map, decide_eq_true_eq, decide_eq_false_iff_not, Bool.not_eq_true', Bool.not_eq_false', Int.ofNat_lt, Int.ofNat_le, Int.not_lt, Int.not_le, Int.toNat_natCast] at hb))
   | ((with_reducible first | refine Or.inl (And.intro ?_ ?_) | refine And.intro ?_ ?_); (focus (first | with_reducible rfl | exact trivial | (exact ⟨rfl, trivial⟩) | (exact ⟨rfl, rfl, trivial⟩) | omega | (intro r hr; simp only [List.mem_singleton] at hr; subst hr; rfl)  | ((simp only [in64, maxLen] at *; omega)) | ((exact ⟨by decide, by decide⟩)) | ((unfold in64; decide)) | ((simp [limK]; done)) | ((exact ⟨by decide, by simp [limK], by decide, by simp [limK]⟩)) | (simp only [in64]; omega) | assumption | (simp; done) | (simp [V.cells]; done) | (simp [in64, maxLen, limK] at *; omega) | ((show confB _ _ = true); kernel_rfl) | rfl)))
   | (intro row hrow; (try simp only [Int.toNat_natCast, List.length_map, toNat_pred, toNat_succ', toNat_zero', toNat_one'] at hrow); (first | (have hsm := same_map (by assumption) hrow; subst hsm; clear hrow) | (obtain ⟨p, hp, rfl⟩ := of_map hrow; clear hrow)))))
  all_goals (conv => whnf)
  all_goals (refine ⟨[0], ?_⟩)
  all_goals (repeat' (first | (with_reducible rfl) | exact trivial | ((conv => whnf); (first | (with_reducible refine And.intro ?_ ?_) | exact trivial | (intro hb; first | (exfalso; simp_all; done) | skip)))))
  all_goals (first | rfl))
end Go.Proofs.YtgjbhkbjdihddaaDoor
