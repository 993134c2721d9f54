/-
  Walks of package mover: its pieces. No conditions.
-/
import Derived.Test.YtgjbhkbjdihddaaDoorMovB
namespace Go.Proofs.YtgjbhkbjdihddaaDoor
open Go.RowKit
set_option linter.unusedSimpArgs false
set_option linter.unusedVariables false
abbrev encP (s : Bs) : List V := [.str s]

set_option maxRecDepth 100000 in
set_option maxHeartbeats 400000 in
theorem says_2o (e n nx tc : Int) (j : JobV) (ps : List Bs) (hps : ps.length ≤ 10) (he : 0 ≤ j.ep ∧ j.ep ≤ 1000)  : FnM Tryd.prog 47 [.ptr 0 0] [.cells [.sl [[.int .i64 1, .int .i64 e, .int .i64 n, .str [], .str []]], .int .i64 2, .int .i64 j.sh, .int .i64 j.ep, .int .i64 j.fr, .int .i64 j.to, .int .i64 j.pc, .int .i64 j.ps, .str j.key, .int .i64 j.ot, .int .i64 j.oe, .int .i64 j.a, .int .i64 j.b, .int .i64 nx, .own 1, .int .i64 tc], .rows 9 (ps.map encP)] (.sl [[.int .i64 9, .int .i64 100, .int .i64 j.fr, .int .i64 j.sh, .int .i64 j.ep, .int .i64 j.pc, .int .i64 0, .int .i64 0, .int .i64 0, .str [], .str [], .str [], .int .i64 0, .nils, .int .i64 0, .str [], .int .i64 0, .nils, .str [], .str [], .nils, .nils, .nils, .str []]]) [.cells [.sl [[.int .i64 1, .int .i64 e, .int .i64 n, .str [], .str []]], .int .i64 2, .int .i64 j.sh, .int .i64 j.ep, .int .i64 j.fr, .int .i64 j.to, .int .i64 j.pc, .int .i64 j.ps, .str j.key, .int .i64 j.ot, .int .i64 j.oe, .int .i64 j.a, .int .i64 j.b, .int .i64 nx, .own 1, .int .i64 tc], .rows 9 (ps.map encP)] := by
  refine FnM.mk' base Tryd.func47 rfl rfl rfl rfl ?_
  repeat' ((conv => whnf); (first
   | (with_reducible first | refine AW.seq ?_ | refine AW.region base (by kernel_rfl) ?_ | refine AW.cond ?_ | refine AW.block ?_ | refine AW.ret ?_ | refine AW.exit ?_ | refine AW.skip ?_ | refine Br.t ?_ | refine Br.f ?_)
   | (with_reducible refine Br.mkT (fun hb => (by (first | (simp at hb; done) | omega | (simp only [decide_eq_true_eq, decide_eq_false_iff_not, Bool.not_eq_true', Bool.not_eq_false'] at hb; first | omega | fail) | fail))) (fun hb => ?_))
   | (with_reducible refine Br.mkF (fun hb => (by (first | (simp at hb; done) | omega | (simp only [decide_eq_true_eq, decide_eq_false_iff_not, Bool.not_eq_true', Bool.not_eq_false'] at hb; first | omega | fail) | fail))) (fun hb => ?_))
   | ((with_reducible refine Or.inl ?_); (conv => whnf); (with_reducible refine And.intro LitSl.mk ?_))
   | refine Br.t ?_
   | refine Br.f ?_
   | (with_reducible refine Br.mk (fun hb => ?_) (fun hb => ?_) <;> (try rw [hb]) <;> (try simp only [List.length_map, decide_eq_true_eq, decide_eq_false_iff_not, Bool.not_eq_true', Bool.not_eq_false', Int.ofNat_lt, Int.ofNat_le, Int.not_lt, Int.not_le, Int.toNat_natCast] at hb))
   | ((with_reducible first | refine Or.inl (And.intro ?_ ?_) | refine And.intro ?_ ?_); (focus (first | with_reducible rfl | exact trivial | (exact ⟨rfl, trivial⟩) | (exact ⟨rfl, rfl, trivial⟩) | omega | (intro r hr; simp only [List.mem_singleton] at hr; subst hr; rfl)  | ((simp only [in64, maxLen] at *; omega)) | ((simp only [List.length_map]; omega)) | ((exact ⟨by omega, by simp only [List.length_map]; omega⟩)) | (simp only [in64]; omega) | assumption | (simp; done) | (simp [V.cells]; done) | (simp [in64, maxLen, limK] at *; omega) | ((show confB _ _ = true); kernel_rfl) | rfl)))
   | (intro row hrow; (try simp only [Int.toNat_natCast, List.length_map, toNat_pred, toNat_succ', toNat_zero', toNat_one'] at hrow); (first | (have hsm := same_map (by assumption) hrow; subst hsm; clear hrow) | (obtain ⟨p, hp, rfl⟩ := of_map hrow; clear hrow)))))
  all_goals (conv => whnf)
  all_goals (refine ⟨[0, 1], ?_⟩)
  all_goals (repeat' (first | (with_reducible rfl) | exact trivial | ((conv => whnf); (first | (with_reducible refine And.intro ?_ ?_) | exact trivial | (intro hb; first | (exfalso; simp_all; done) | skip)))))
  all_goals (first | rfl)

set_option maxRecDepth 100000 in
set_option maxHeartbeats 400000 in
theorem says_3o (e n nx tc : Int) (j : JobV) (ps : List Bs) (hps : ps.length ≤ 10) (he : 0 ≤ j.ep ∧ j.ep ≤ 1000) (data : Bs) (hp0 : 0 ≤ j.pc) (hp : ps[j.pc.toNat]? = some data)  : FnM Tryd.prog 47 [.ptr 0 0] [.cells [.sl [[.int .i64 1, .int .i64 e, .int .i64 n, .str [], .str []]], .int .i64 3, .int .i64 j.sh, .int .i64 j.ep, .int .i64 j.fr, .int .i64 j.to, .int .i64 j.pc, .int .i64 j.ps, .str j.key, .int .i64 j.ot, .int .i64 j.oe, .int .i64 j.a, .int .i64 j.b, .int .i64 nx, .own 1, .int .i64 tc], .rows 9 (ps.map encP)] (.sl [[.int .i64 11, .int .i64 100, .int .i64 j.to, .int .i64 j.sh, .int .i64 (j.ep + 1), .int .i64 j.pc, .int .i64 0, .int .i64 0, .int .i64 0, .str [], .str [], .str [], .int .i64 0, .nils, .int .i64 0, .str [], .int .i64 0, .nils, .str [], .str [], .nils, .nils, .nils, .str data]]) [.cells [.sl [[.int .i64 1, .int .i64 e, .int .i64 n, .str [], .str []]], .int .i64 3, .int .i64 j.sh, .int .i64 j.ep, .int .i64 j.fr, .int .i64 j.to, .int .i64 j.pc, .int .i64 j.ps, .str j.key, .int .i64 j.ot, .int .i64 j.oe, .int .i64 j.a, .int .i64 j.b, .int .i64 nx, .own 1, .int .i64 tc], .rows 9 (ps.map encP)] := by
  refine FnM.mk' base Tryd.func47 rfl rfl rfl rfl ?_
  have hlt := (List.getElem?_eq_some_iff.1 hp).1
  repeat' ((conv => whnf); (first
   | (with_reducible first | refine AW.seq ?_ | refine AW.region base (by kernel_rfl) ?_ | refine AW.cond ?_ | refine AW.block ?_ | refine AW.ret ?_ | refine AW.exit ?_ | refine AW.skip ?_ | refine Br.t ?_ | refine Br.f ?_)
   | (with_reducible refine Br.mkT (fun hb => (by (first | (simp at hb; done) | omega | (simp only [decide_eq_true_eq, decide_eq_false_iff_not, Bool.not_eq_true', Bool.not_eq_false'] at hb; first | omega | fail) | fail))) (fun hb => ?_))
   | (with_reducible refine Br.mkF (fun hb => (by (first | (simp at hb; done) | omega | (simp only [decide_eq_true_eq, decide_eq_false_iff_not, Bool.not_eq_true', Bool.not_eq_false'] at hb; first | omega | fail) | fail))) (fun hb => ?_))
   | ((with_reducible refine Or.inl ?_); (conv => whnf); (with_reducible refine And.intro LitSl.mk ?_))
   | refine Br.t ?_
   | refine Br.f ?_
   | (with_reducible refine Br.mk (fun hb => ?_) (fun hb => ?_) <;> (try rw [hb]) <;> (try simp only [List.length_map, decide_eq_true_eq, decide_eq_false_iff_not, Bool.not_eq_true', Bool.not_eq_false', Int.ofNat_lt, Int.ofNat_le, Int.not_lt, Int.not_le, Int.toNat_natCast] at hb))
   | ((with_reducible first | refine Or.inl (And.intro ?_ ?_) | refine And.intro ?_ ?_); (focus (first | with_reducible rfl | exact trivial | (exact ⟨rfl, trivial⟩) | (exact ⟨rfl, rfl, trivial⟩) | omega | (intro r hr; simp only [List.mem_singleton] at hr; subst hr; rfl)  | ((simp only [in64, maxLen] at *; omega)) | ((simp only [List.length_map]; omega)) | ((exact ⟨by omega, by simp only [List.length_map]; omega⟩)) | (simp only [in64]; omega) | assumption | (simp; done) | (simp [V.cells]; done) | (simp [in64, maxLen, limK] at *; omega) | ((show confB _ _ = true); kernel_rfl) | rfl)))
   | (intro row hrow; (try simp only [Int.toNat_natCast, List.length_map, toNat_pred, toNat_succ', toNat_zero', toNat_one'] at hrow); (first | (have hsm := same_map (by assumption) hrow; subst hsm; clear hrow) | (obtain ⟨p, hp, rfl⟩ := of_map hrow; clear hrow)))))
  all_goals (conv => whnf)
  all_goals (refine ⟨[0, 1], ?_⟩)
  all_goals (repeat' (first | (with_reducible rfl) | exact trivial | ((conv => whnf); (first | (with_reducible refine And.intro ?_ ?_) | exact trivial | (intro hb; first | (exfalso; simp_all; done) | skip)))))
  all_goals (first | rfl)

set_option maxRecDepth 100000 in
set_option maxHeartbeats 400000 in
theorem says_4o (e n nx tc : Int) (j : JobV) (ps : List Bs) (hps : ps.length ≤ 10) (he : 0 ≤ j.ep ∧ j.ep ≤ 1000)  : FnM Tryd.prog 47 [.ptr 0 0] [.cells [.sl [[.int .i64 1, .int .i64 e, .int .i64 n, .str [], .str []]], .int .i64 4, .int .i64 j.sh, .int .i64 j.ep, .int .i64 j.fr, .int .i64 j.to, .int .i64 j.pc, .int .i64 j.ps, .str j.key, .int .i64 j.ot, .int .i64 j.oe, .int .i64 j.a, .int .i64 j.b, .int .i64 nx, .own 1, .int .i64 tc], .rows 9 (ps.map encP)] (.sl [[.int .i64 13, .int .i64 100, .int .i64 j.to, .int .i64 j.sh, .int .i64 (j.ep + 1), .int .i64 j.ps, .int .i64 0, .int .i64 0, .int .i64 0, .str [], .str [], .str [], .int .i64 0, .nils, .int .i64 0, .str [], .int .i64 0, .nils, .str [], .str [], .nils, .nils, .nils, .str []]]) [.cells [.sl [[.int .i64 1, .int .i64 e, .int .i64 n, .str [], .str []]], .int .i64 4, .int .i64 j.sh, .int .i64 j.ep, .int .i64 j.fr, .int .i64 j.to, .int .i64 j.pc, .int .i64 j.ps, .str j.key, .int .i64 j.ot, .int .i64 j.oe, .int .i64 j.a, .int .i64 j.b, .int .i64 nx, .own 1, .int .i64 tc], .rows 9 (ps.map encP)] := by
  refine FnM.mk' base Tryd.func47 rfl rfl rfl rfl ?_
  repeat' ((conv => whnf); (first
   | (with_reducible first | refine AW.seq ?_ | refine AW.region base (by kernel_rfl) ?_ | refine AW.cond ?_ | refine AW.block ?_ | refine AW.ret ?_ | refine AW.exit ?_ | refine AW.skip ?_ | refine Br.t ?_ | refine Br.f ?_)
   | (with_reducible refine Br.mkT (fun hb => (by (first | (simp at hb; done) | omega | (simp only [decide_eq_true_eq, decide_eq_false_iff_not, Bool.not_eq_true', Bool.not_eq_false'] at hb; first | omega | fail) | fail))) (fun hb => ?_))
   | (with_reducible refine Br.mkF (fun hb => (by (first | (simp at hb; done) | omega | (simp only [decide_eq_true_eq, decide_eq_false_iff_not, Bool.not_eq_true', Bool.not_eq_false'] at hb; first | omega | fail) | fail))) (fun hb => ?_))
   | ((with_reducible refine Or.inl ?_); (conv => whnf); (with_reducible refine And.intro LitSl.mk ?_))
   | refine Br.t ?_
   | refine Br.f ?_
   | (with_reducible refine Br.mk (fun hb => ?_) (fun hb => ?_) <;> (try rw [hb]) <;> (try simp only [List.length_map, decide_eq_true_eq, decide_eq_false_iff_not, Bool.not_eq_true', Bool.not_eq_false', Int.ofNat_lt, Int.ofNat_le, Int.not_lt, Int.not_le, Int.toNat_natCast] at hb))
   | ((with_reducible first | refine Or.inl (And.intro ?_ ?_) | refine And.intro ?_ ?_); (focus (first | with_reducible rfl | exact trivial | (exact ⟨rfl, trivial⟩) | (exact ⟨rfl, rfl, trivial⟩) | omega | (intro r hr; simp only [List.mem_singleton] at hr; subst hr; rfl)  | ((simp only [in64, maxLen] at *; omega)) | ((simp only [List.length_map]; omega)) | ((exact ⟨by omega, by simp only [List.length_map]; omega⟩)) | (simp only [in64]; omega) | assumption | (simp; done) | (simp [V.cells]; done) | (simp [in64, maxLen, limK] at *; omega) | ((show confB _ _ = true); kernel_rfl) | rfl)))
   | (intro row hrow; (try simp only [Int.toNat_natCast, List.length_map, toNat_pred, toNat_succ', toNat_zero', toNat_one'] at hrow); (first | (have hsm := same_map (by assumption) hrow; subst hsm; clear hrow) | (obtain ⟨p, hp, rfl⟩ := of_map hrow; clear hrow)))))
  all_goals (conv => whnf)
  all_goals (refine ⟨[0, 1], ?_⟩)
  all_goals (repeat' (first | (with_reducible rfl) | exact trivial | ((conv => whnf); (first | (with_reducible refine And.intro ?_ ?_) | exact trivial | (intro hb; first | (exfalso; simp_all; done) | skip)))))
  all_goals (first | rfl)

set_option maxRecDepth 100000 in
set_option maxHeartbeats 400000 in
theorem says_5o (e n nx tc : Int) (j : JobV) (ps : List Bs) (hps : ps.length ≤ 10) (he : 0 ≤ j.ep ∧ j.ep ≤ 1000)  : FnM Tryd.prog 47 [.ptr 0 0] [.cells [.sl [[.int .i64 1, .int .i64 e, .int .i64 n, .str [], .str []]], .int .i64 5, .int .i64 j.sh, .int .i64 j.ep, .int .i64 j.fr, .int .i64 j.to, .int .i64 j.pc, .int .i64 j.ps, .str j.key, .int .i64 j.ot, .int .i64 j.oe, .int .i64 j.a, .int .i64 j.b, .int .i64 nx, .own 1, .int .i64 tc], .rows 9 (ps.map encP)] (.sl [[.int .i64 17, .int .i64 100, .int .i64 j.fr, .int .i64 j.sh, .int .i64 j.ep, .int .i64 0, .int .i64 0, .int .i64 0, .int .i64 0, .str [], .str [], .str [], .int .i64 0, .nils, .int .i64 0, .str [], .int .i64 0, .nils, .str [], .str [], .nils, .nils, .nils, .str []]]) [.cells [.sl [[.int .i64 1, .int .i64 e, .int .i64 n, .str [], .str []]], .int .i64 5, .int .i64 j.sh, .int .i64 j.ep, .int .i64 j.fr, .int .i64 j.to, .int .i64 j.pc, .int .i64 j.ps, .str j.key, .int .i64 j.ot, .int .i64 j.oe, .int .i64 j.a, .int .i64 j.b, .int .i64 nx, .own 1, .int .i64 tc], .rows 9 (ps.map encP)] := by
  refine FnM.mk' base Tryd.func47 rfl rfl rfl rfl ?_
  repeat' ((conv => whnf); (first
   | (with_reducible first | refine AW.seq ?_ | refine AW.region base (by kernel_rfl) ?_ | refine AW.cond ?_ | refine AW.block ?_ | refine AW.ret ?_ | refine AW.exit ?_ | refine AW.skip ?_ | refine Br.t ?_ | refine Br.f ?_)
   | (with_reducible refine Br.mkT (fun hb => (by (first | (simp at hb; done) | omega | (simp only [decide_eq_true_eq, decide_eq_false_iff_not, Bool.not_eq_true', Bool.not_eq_false'] at hb; first | omega | fail) | fail))) (fun hb => ?_))
   | (with_reducible refine Br.mkF (fun hb => (by (first | (simp at hb; done) | omega | (simp only [decide_eq_true_eq, decide_eq_false_iff_not, Bool.not_eq_true', Bool.not_eq_false'] at hb; first | omega | fail) | fail))) (fun hb => ?_))
   | ((with_reducible refine Or.inl ?_); (conv => whnf); (with_reducible refine And.intro LitSl.mk ?_))
   | refine Br.t ?_
   | refine Br.f ?_
   | (with_reducible refine Br.mk (fun hb => ?_) (fun hb => ?_) <;> (try rw [hb]) <;> (try simp only [List.length_map, decide_eq_true_eq, decide_eq_false_iff_not, Bool.not_eq_true', Bool.not_eq_false', Int.ofNat_lt, Int.ofNat_le, Int.not_lt, Int.not_le, Int.toNat_natCast] at hb))
   | ((with_reducible first | refine Or.inl (And.intro ?_ ?_) | refine And.intro ?_ ?_); (focus (first | with_reducible rfl | exact trivial | (exact ⟨rfl, trivial⟩) | (exact ⟨rfl, rfl, trivial⟩) | omega | (intro r hr; simp only [List.mem_singleton] at hr; subst hr; rfl)  | ((simp only [in64, maxLen] at *; omega)) | ((simp only [List.length_map]; omega)) | ((exact ⟨by omega, by simp only [List.length_map]; omega⟩)) | (simp only [in64]; omega) | assumption | (simp; done) | (simp [V.cells]; done) | (simp [in64, maxLen, limK] at *; omega) | ((show confB _ _ = true); kernel_rfl) | rfl)))
   | (intro row hrow; (try simp only [Int.toNat_natCast, List.length_map, toNat_pred, toNat_succ', toNat_zero', toNat_one'] at hrow); (first | (have hsm := same_map (by assumption) hrow; subst hsm; clear hrow) | (obtain ⟨p, hp, rfl⟩ := of_map hrow; clear hrow)))))
  all_goals (conv => whnf)
  all_goals (refine ⟨[0, 1], ?_⟩)
  all_goals (repeat' (first | (with_reducible rfl) | exact trivial | ((conv => whnf); (first | (with_reducible refine And.intro ?_ ?_) | exact trivial | (intro hb; first | (exfalso; simp_all; done) | skip)))))
  all_goals (first | rfl)

set_option maxRecDepth 100000 in
set_option maxHeartbeats 400000 in
theorem says_6o (e n nx tc : Int) (j : JobV) (ps : List Bs) (hps : ps.length ≤ 10) (he : 0 ≤ j.ep ∧ j.ep ≤ 1000)  : FnM Tryd.prog 47 [.ptr 0 0] [.cells [.sl [[.int .i64 1, .int .i64 e, .int .i64 n, .str [], .str []]], .int .i64 6, .int .i64 j.sh, .int .i64 j.ep, .int .i64 j.fr, .int .i64 j.to, .int .i64 j.pc, .int .i64 j.ps, .str j.key, .int .i64 j.ot, .int .i64 j.oe, .int .i64 j.a, .int .i64 j.b, .int .i64 nx, .own 1, .int .i64 tc], .rows 9 (ps.map encP)] (.sl [[.int .i64 15, .int .i64 100, .int .i64 j.fr, .int .i64 j.sh, .int .i64 j.ep, .int .i64 0, .int .i64 0, .int .i64 0, .int .i64 0, .str [], .str [], .str [], .int .i64 0, .nils, .int .i64 0, .str [], .int .i64 0, .nils, .str [], .str [], .nils, .nils, .nils, .str []]]) [.cells [.sl [[.int .i64 1, .int .i64 e, .int .i64 n, .str [], .str []]], .int .i64 6, .int .i64 j.sh, .int .i64 j.ep, .int .i64 j.fr, .int .i64 j.to, .int .i64 j.pc, .int .i64 j.ps, .str j.key, .int .i64 j.ot, .int .i64 j.oe, .int .i64 j.a, .int .i64 j.b, .int .i64 nx, .own 1, .int .i64 tc], .rows 9 (ps.map encP)] := by
  refine FnM.mk' base Tryd.func47 rfl rfl rfl rfl ?_
  repeat' ((conv => whnf); (first
   | (with_reducible first | refine AW.seq ?_ | refine AW.region base (by kernel_rfl) ?_ | refine AW.cond ?_ | refine AW.block ?_ | refine AW.ret ?_ | refine AW.exit ?_ | refine AW.skip ?_ | refine Br.t ?_ | refine Br.f ?_)
   | (with_reducible refine Br.mkT (fun hb => (by (first | (simp at hb; done) | omega | (simp only [decide_eq_true_eq, decide_eq_false_iff_not, Bool.not_eq_true', Bool.not_eq_false'] at hb; first | omega | fail) | fail))) (fun hb => ?_))
   | (with_reducible refine Br.mkF (fun hb => (by (first | (simp at hb; done) | omega | (simp only [decide_eq_true_eq, decide_eq_false_iff_not, Bool.not_eq_true', Bool.not_eq_false'] at hb; first | omega | fail) | fail))) (fun hb => ?_))
   | ((with_reducible refine Or.inl ?_); (conv => whnf); (with_reducible refine And.intro LitSl.mk ?_))
   | refine Br.t ?_
   | refine Br.f ?_
   | (with_reducible refine Br.mk (fun hb => ?_) (fun hb => ?_) <;> (try rw [hb]) <;> (try simp only [List.length_map, decide_eq_true_eq, decide_eq_false_iff_not, Bool.not_eq_true', Bool.not_eq_false', Int.ofNat_lt, Int.ofNat_le, Int.not_lt, Int.not_le, Int.toNat_natCast] at hb))
   | ((with_reducible first | refine Or.inl (And.intro ?_ ?_) | refine And.intro ?_ ?_); (focus (first | with_reducible rfl | exact trivial | (exact ⟨rfl, trivial⟩) | (exact ⟨rfl, rfl, trivial⟩) | omega | (intro r hr; simp only [List.mem_singleton] at hr; subst hr; rfl)  | ((simp only [in64, maxLen] at *; omega)) | ((simp only [List.length_map]; omega)) | ((exact ⟨by omega, by simp only [List.length_map]; omega⟩)) | (simp only [in64]; omega) | assumption | (simp; done) | (simp [V.cells]; done) | (simp [in64, maxLen, limK] at *; omega) | ((show confB _ _ = true); kernel_rfl) | rfl)))
   | (intro row hrow; (try simp only [Int.toNat_natCast, List.length_map, toNat_pred, toNat_succ', toNat_zero', toNat_one'] at hrow); (first | (have hsm := same_map (by assumption) hrow; subst hsm; clear hrow) | (obtain ⟨p, hp, rfl⟩ := of_map hrow; clear hrow)))))
  all_goals (conv => whnf)
  all_goals (refine ⟨[0, 1], ?_⟩)
  all_goals (repeat' (first | (with_reducible rfl) | exact trivial | ((conv => whnf); (first | (with_reducible refine And.intro ?_ ?_) | exact trivial | (intro hb; first | (exfalso; simp_all; done) | skip)))))
  all_goals (first | rfl)

set_option maxRecDepth 100000 in
set_option maxHeartbeats 400000 in
theorem begins_2o (e n nx tc : Int) (j : JobV) (ps : List Bs) (hps : ps.length ≤ 10) (he : 0 ≤ j.ep ∧ j.ep ≤ 1000) (pc : Int)  : FnM Tryd.prog 33 [.ptr 0 0, .int .i64 2, .int .i64 pc] [.cells [.sl [[.int .i64 1, .int .i64 e, .int .i64 n, .str [], .str []]], .int .i64 j.ph, .int .i64 j.sh, .int .i64 j.ep, .int .i64 j.fr, .int .i64 j.to, .int .i64 j.pc, .int .i64 j.ps, .str j.key, .int .i64 j.ot, .int .i64 j.oe, .int .i64 j.a, .int .i64 j.b, .int .i64 nx, .own 1, .int .i64 tc], .rows 9 (ps.map encP)] (.sl [[.int .i64 9, .int .i64 100, .int .i64 j.fr, .int .i64 j.sh, .int .i64 j.ep, .int .i64 pc, .int .i64 0, .int .i64 0, .int .i64 0, .str [], .str [], .str [], .int .i64 0, .nils, .int .i64 0, .str [], .int .i64 0, .nils, .str [], .str [], .nils, .nils, .nils, .str []]]) [.cells [.sl [[.int .i64 1, .int .i64 e, .int .i64 n, .str [], .str []]], .int .i64 2, .int .i64 j.sh, .int .i64 j.ep, .int .i64 j.fr, .int .i64 j.to, .int .i64 pc, .int .i64 j.ps, .str j.key, .int .i64 j.ot, .int .i64 j.oe, .int .i64 j.a, .int .i64 j.b, .int .i64 nx, .own 1, .int .i64 0], .rows 9 (ps.map encP)] := by
  refine FnM.mk' base Tryd.func33 rfl rfl rfl rfl ?_
  repeat' ((conv => whnf); (first
   | (with_reducible first | refine AW.seq ?_ | refine AW.region base (by kernel_rfl) ?_ | refine AW.cond ?_ | refine AW.block ?_ | refine AW.ret ?_ | refine AW.exit ?_ | refine AW.skip ?_ | refine Br.t ?_ | refine Br.f ?_)
   | (with_reducible refine Br.mkT (fun hb => (by (first | (simp at hb; done) | omega | (simp only [decide_eq_true_eq, decide_eq_false_iff_not, Bool.not_eq_true', Bool.not_eq_false'] at hb; first | omega | fail) | fail))) (fun hb => ?_))
   | (with_reducible refine Br.mkF (fun hb => (by (first | (simp at hb; done) | omega | (simp only [decide_eq_true_eq, decide_eq_false_iff_not, Bool.not_eq_true', Bool.not_eq_false'] at hb; first | omega | fail) | fail))) (fun hb => ?_))
   | ((with_reducible refine Or.inl ?_); (conv => whnf); (with_reducible refine And.intro LitSl.mk ?_))
   | refine Br.t ?_
   | refine Br.f ?_
   | (with_reducible refine Or.inr ⟨[?_, ?_], _, _, _, _, says_2o e n nx 0 ⟨2, j.sh, j.ep, j.fr, j.to, pc, j.ps, j.key, j.ot, j.oe, j.a, j.b⟩ ps hps he, ?_⟩)
   | (with_reducible refine Or.inr (Or.inr ⟨[?_, ?_], _, _, _, _, says_2o e n nx 0 ⟨2, j.sh, j.ep, j.fr, j.to, pc, j.ps, j.key, j.ot, j.oe, j.a, j.b⟩ ps hps he, ?_⟩))
   | (with_reducible refine Br.mk (fun hb => ?_) (fun hb => ?_) <;> (try rw [hb]) <;> (try simp only [List.length_map, decide_eq_true_eq, decide_eq_false_iff_not, Bool.not_eq_true', Bool.not_eq_false', Int.ofNat_lt, Int.ofNat_le, Int.not_lt, Int.not_le, Int.toNat_natCast] at hb))
   | ((with_reducible first | refine Or.inl (And.intro ?_ ?_) | refine And.intro ?_ ?_); (focus (first | with_reducible rfl | exact trivial | (exact ⟨rfl, trivial⟩) | (exact ⟨rfl, rfl, trivial⟩) | omega | (intro r hr; simp only [List.mem_singleton] at hr; subst hr; rfl)  | ((simp only [in64, maxLen] at *; omega)) | ((simp only [List.length_map]; omega)) | ((exact ⟨by omega, by simp only [List.length_map]; omega⟩)) | (simp only [in64]; omega) | assumption | (simp; done) | (simp [V.cells]; done) | (simp [in64, maxLen, limK] at *; omega) | ((show confB _ _ = true); kernel_rfl) | rfl)))
   | (intro row hrow; (try simp only [Int.toNat_natCast, List.length_map, toNat_pred, toNat_succ', toNat_zero', toNat_one'] at hrow); (first | (have hsm := same_map (by assumption) hrow; subst hsm; clear hrow) | (obtain ⟨p, hp, rfl⟩ := of_map hrow; clear hrow)))))
  all_goals (conv => whnf)
  all_goals (refine ⟨[0, 1], ?_⟩)
  all_goals (repeat' (first | (with_reducible rfl) | exact trivial | ((conv => whnf); (first | (with_reducible refine And.intro ?_ ?_) | exact trivial | (intro hb; first | (exfalso; simp_all; done) | skip)))))
  all_goals (first | rfl)

set_option maxRecDepth 100000 in
set_option maxHeartbeats 400000 in
theorem begins_3o (e n nx tc : Int) (j : JobV) (ps : List Bs) (hps : ps.length ≤ 10) (he : 0 ≤ j.ep ∧ j.ep ≤ 1000) (pc : Int) (data : Bs) (hp0 : 0 ≤ pc) (hp : ps[pc.toNat]? = some data)  : FnM Tryd.prog 33 [.ptr 0 0, .int .i64 3, .int .i64 pc] [.cells [.sl [[.int .i64 1, .int .i64 e, .int .i64 n, .str [], .str []]], .int .i64 j.ph, .int .i64 j.sh, .int .i64 j.ep, .int .i64 j.fr, .int .i64 j.to, .int .i64 j.pc, .int .i64 j.ps, .str j.key, .int .i64 j.ot, .int .i64 j.oe, .int .i64 j.a, .int .i64 j.b, .int .i64 nx, .own 1, .int .i64 tc], .rows 9 (ps.map encP)] (.sl [[.int .i64 11, .int .i64 100, .int .i64 j.to, .int .i64 j.sh, .int .i64 (j.ep + 1), .int .i64 pc, .int .i64 0, .int .i64 0, .int .i64 0, .str [], .str [], .str [], .int .i64 0, .nils, .int .i64 0, .str [], .int .i64 0, .nils, .str [], .str [], .nils, .nils, .nils, .str data]]) [.cells [.sl [[.int .i64 1, .int .i64 e, .int .i64 n, .str [], .str []]], .int .i64 3, .int .i64 j.sh, .int .i64 j.ep, .int .i64 j.fr, .int .i64 j.to, .int .i64 pc, .int .i64 j.ps, .str j.key, .int .i64 j.ot, .int .i64 j.oe, .int .i64 j.a, .int .i64 j.b, .int .i64 nx, .own 1, .int .i64 0], .rows 9 (ps.map encP)] := by
  refine FnM.mk' base Tryd.func33 rfl rfl rfl rfl ?_
  repeat' ((conv => whnf); (first
   | (with_reducible first | refine AW.seq ?_ | refine AW.region base (by kernel_rfl) ?_ | refine AW.cond ?_ | refine AW.block ?_ | refine AW.ret ?_ | refine AW.exit ?_ | refine AW.skip ?_ | refine Br.t ?_ | refine Br.f ?_)
   | (with_reducible refine Br.mkT (fun hb => (by (first | (simp at hb; done) | omega | (simp only [decide_eq_true_eq, decide_eq_false_iff_not, Bool.not_eq_true', Bool.not_eq_false'] at hb; first | omega | fail) | fail))) (fun hb => ?_))
   | (with_reducible refine Br.mkF (fun hb => (by (first | (simp at hb; done) | omega | (simp only [decide_eq_true_eq, decide_eq_false_iff_not, Bool.not_eq_true', Bool.not_eq_false'] at hb; first | omega | fail) | fail))) (fun hb => ?_))
   | ((with_reducible refine Or.inl ?_); (conv => whnf); (with_reducible refine And.intro LitSl.mk ?_))
   | refine Br.t ?_
   | refine Br.f ?_
   | (with_reducible refine Or.inr ⟨[?_, ?_], _, _, _, _, says_3o e n nx 0 ⟨3, j.sh, j.ep, j.fr, j.to, pc, j.ps, j.key, j.ot, j.oe, j.a, j.b⟩ ps hps he data hp0 hp, ?_⟩)
   | (with_reducible refine Or.inr (Or.inr ⟨[?_, ?_], _, _, _, _, says_3o e n nx 0 ⟨3, j.sh, j.ep, j.fr, j.to, pc, j.ps, j.key, j.ot, j.oe, j.a, j.b⟩ ps hps he data hp0 hp, ?_⟩))
   | (with_reducible refine Br.mk (fun hb => ?_) (fun hb => ?_) <;> (try rw [hb]) <;> (try simp only [List.length_map, decide_eq_true_eq, decide_eq_false_iff_not, Bool.not_eq_true', Bool.not_eq_false', Int.ofNat_lt, Int.ofNat_le, Int.not_lt, Int.not_le, Int.toNat_natCast] at hb))
   | ((with_reducible first | refine Or.inl (And.intro ?_ ?_) | refine And.intro ?_ ?_); (focus (first | with_reducible rfl | exact trivial | (exact ⟨rfl, trivial⟩) | (exact ⟨rfl, rfl, trivial⟩) | omega | (intro r hr; simp only [List.mem_singleton] at hr; subst hr; rfl)  | ((simp only [in64, maxLen] at *; omega)) | ((simp only [List.length_map]; omega)) | ((exact ⟨by omega, by simp only [List.length_map]; omega⟩)) | (simp only [in64]; omega) | assumption | (simp; done) | (simp [V.cells]; done) | (simp [in64, maxLen, limK] at *; omega) | ((show confB _ _ = true); kernel_rfl) | rfl)))
   | (intro row hrow; (try simp only [Int.toNat_natCast, List.length_map, toNat_pred, toNat_succ', toNat_zero', toNat_one'] at hrow); (first | (have hsm := same_map (by assumption) hrow; subst hsm; clear hrow) | (obtain ⟨p, hp, rfl⟩ := of_map hrow; clear hrow)))))
  all_goals (conv => whnf)
  all_goals (refine ⟨[0, 1], ?_⟩)
  all_goals (repeat' (first | (with_reducible rfl) | exact trivial | ((conv => whnf); (first | (with_reducible refine And.intro ?_ ?_) | exact trivial | (intro hb; first | (exfalso; simp_all; done) | skip)))))
  all_goals (first | rfl)

set_option maxRecDepth 100000 in
set_option maxHeartbeats 400000 in
theorem begins_4o (e n nx tc : Int) (j : JobV) (ps : List Bs) (hps : ps.length ≤ 10) (he : 0 ≤ j.ep ∧ j.ep ≤ 1000) (pc : Int)  : FnM Tryd.prog 33 [.ptr 0 0, .int .i64 4, .int .i64 pc] [.cells [.sl [[.int .i64 1, .int .i64 e, .int .i64 n, .str [], .str []]], .int .i64 j.ph, .int .i64 j.sh, .int .i64 j.ep, .int .i64 j.fr, .int .i64 j.to, .int .i64 j.pc, .int .i64 j.ps, .str j.key, .int .i64 j.ot, .int .i64 j.oe, .int .i64 j.a, .int .i64 j.b, .int .i64 nx, .own 1, .int .i64 tc], .rows 9 (ps.map encP)] (.sl [[.int .i64 13, .int .i64 100, .int .i64 j.to, .int .i64 j.sh, .int .i64 (j.ep + 1), .int .i64 j.ps, .int .i64 0, .int .i64 0, .int .i64 0, .str [], .str [], .str [], .int .i64 0, .nils, .int .i64 0, .str [], .int .i64 0, .nils, .str [], .str [], .nils, .nils, .nils, .str []]]) [.cells [.sl [[.int .i64 1, .int .i64 e, .int .i64 n, .str [], .str []]], .int .i64 4, .int .i64 j.sh, .int .i64 j.ep, .int .i64 j.fr, .int .i64 j.to, .int .i64 pc, .int .i64 j.ps, .str j.key, .int .i64 j.ot, .int .i64 j.oe, .int .i64 j.a, .int .i64 j.b, .int .i64 nx, .own 1, .int .i64 0], .rows 9 (ps.map encP)] := by
  refine FnM.mk' base Tryd.func33 rfl rfl rfl rfl ?_
  repeat' ((conv => whnf); (first
   | (with_reducible first | refine AW.seq ?_ | refine AW.region base (by kernel_rfl) ?_ | refine AW.cond ?_ | refine AW.block ?_ | refine AW.ret ?_ | refine AW.exit ?_ | refine AW.skip ?_ | refine Br.t ?_ | refine Br.f ?_)
   | (with_reducible refine Br.mkT (fun hb => (by (first | (simp at hb; done) | omega | (simp only [decide_eq_true_eq, decide_eq_false_iff_not, Bool.not_eq_true', Bool.not_eq_false'] at hb; first | omega | fail) | fail))) (fun hb => ?_))
   | (with_reducible refine Br.mkF (fun hb => (by (first | (simp at hb; done) | omega | (simp only [decide_eq_true_eq, decide_eq_false_iff_not, Bool.not_eq_true', Bool.not_eq_false'] at hb; first | omega | fail) | fail))) (fun hb => ?_))
   | ((with_reducible refine Or.inl ?_); (conv => whnf); (with_reducible refine And.intro LitSl.mk ?_))
   | refine Br.t ?_
   | refine Br.f ?_
   | (with_reducible refine Or.inr ⟨[?_, ?_], _, _, _, _, says_4o e n nx 0 ⟨4, j.sh, j.ep, j.fr, j.to, pc, j.ps, j.key, j.ot, j.oe, j.a, j.b⟩ ps hps he, ?_⟩)
   | (with_reducible refine Or.inr (Or.inr ⟨[?_, ?_], _, _, _, _, says_4o e n nx 0 ⟨4, j.sh, j.ep, j.fr, j.to, pc, j.ps, j.key, j.ot, j.oe, j.a, j.b⟩ ps hps he, ?_⟩))
   | (with_reducible refine Br.mk (fun hb => ?_) (fun hb => ?_) <;> (try rw [hb]) <;> (try simp only [List.length_map, decide_eq_true_eq, decide_eq_false_iff_not, Bool.not_eq_true', Bool.not_eq_false', Int.ofNat_lt, Int.ofNat_le, Int.not_lt, Int.not_le, Int.toNat_natCast] at hb))
   | ((with_reducible first | refine Or.inl (And.intro ?_ ?_) | refine And.intro ?_ ?_); (focus (first | with_reducible rfl | exact trivial | (exact ⟨rfl, trivial⟩) | (exact ⟨rfl, rfl, trivial⟩) | omega | (intro r hr; simp only [List.mem_singleton] at hr; subst hr; rfl)  | ((simp only [in64, maxLen] at *; omega)) | ((simp only [List.length_map]; omega)) | ((exact ⟨by omega, by simp only [List.length_map]; omega⟩)) | (simp only [in64]; omega) | assumption | (simp; done) | (simp [V.cells]; done) | (simp [in64, maxLen, limK] at *; omega) | ((show confB _ _ = true); kernel_rfl) | rfl)))
   | (intro row hrow; (try simp only [Int.toNat_natCast, List.length_map, toNat_pred, toNat_succ', toNat_zero', toNat_one'] at hrow); (first | (have hsm := same_map (by assumption) hrow; subst hsm; clear hrow) | (obtain ⟨p, hp, rfl⟩ := of_map hrow; clear hrow)))))
  all_goals (conv => whnf)
  all_goals (refine ⟨[0, 1], ?_⟩)
  all_goals (repeat' (first | (with_reducible rfl) | exact trivial | ((conv => whnf); (first | (with_reducible refine And.intro ?_ ?_) | exact trivial | (intro hb; first | (exfalso; simp_all; done) | skip)))))
  all_goals (first | rfl)

set_option maxRecDepth 100000 in
set_option maxHeartbeats 400000 in
theorem begins_5o (e n nx tc : Int) (j : JobV) (ps : List Bs) (hps : ps.length ≤ 10) (he : 0 ≤ j.ep ∧ j.ep ≤ 1000) (pc : Int)  : FnM Tryd.prog 33 [.ptr 0 0, .int .i64 5, .int .i64 pc] [.cells [.sl [[.int .i64 1, .int .i64 e, .int .i64 n, .str [], .str []]], .int .i64 j.ph, .int .i64 j.sh, .int .i64 j.ep, .int .i64 j.fr, .int .i64 j.to, .int .i64 j.pc, .int .i64 j.ps, .str j.key, .int .i64 j.ot, .int .i64 j.oe, .int .i64 j.a, .int .i64 j.b, .int .i64 nx, .own 1, .int .i64 tc], .rows 9 (ps.map encP)] (.sl [[.int .i64 17, .int .i64 100, .int .i64 j.fr, .int .i64 j.sh, .int .i64 j.ep, .int .i64 0, .int .i64 0, .int .i64 0, .int .i64 0, .str [], .str [], .str [], .int .i64 0, .nils, .int .i64 0, .str [], .int .i64 0, .nils, .str [], .str [], .nils, .nils, .nils, .str []]]) [.cells [.sl [[.int .i64 1, .int .i64 e, .int .i64 n, .str [], .str []]], .int .i64 5, .int .i64 j.sh, .int .i64 j.ep, .int .i64 j.fr, .int .i64 j.to, .int .i64 pc, .int .i64 j.ps, .str j.key, .int .i64 j.ot, .int .i64 j.oe, .int .i64 j.a, .int .i64 j.b, .int .i64 nx, .own 1, .int .i64 0], .rows 9 (ps.map encP)] := by
  refine FnM.mk' base Tryd.func33 rfl rfl rfl rfl ?_
  repeat' ((conv => whnf); (first
   | (with_reducible first | refine AW.seq ?_ | refine AW.region base (by kernel_rfl) ?_ | refine AW.cond ?_ | refine AW.block ?_ | refine AW.ret ?_ | refine AW.exit ?_ | refine AW.skip ?_ | refine Br.t ?_ | refine Br.f ?_)
   | (with_reducible refine Br.mkT (fun hb => (by (first | (simp at hb; done) | omega | (simp only [decide_eq_true_eq, decide_eq_false_iff_not, Bool.not_eq_true', Bool.not_eq_false'] at hb; first | omega | fail) | fail))) (fun hb => ?_))
   | (with_reducible refine Br.mkF (fun hb => (by (first | (simp at hb; done) | omega | (simp only [decide_eq_true_eq, decide_eq_false_iff_not, Bool.not_eq_true', Bool.not_eq_false'] at hb; first | omega | fail) | fail))) (fun hb => ?_))
   | ((with_reducible refine Or.inl ?_); (conv => whnf); (with_reducible refine And.intro LitSl.mk ?_))
   | refine Br.t ?_
   | refine Br.f ?_
   | (with_reducible refine Or.inr ⟨[?_, ?_], _, _, _, _, says_5o e n nx 0 ⟨5, j.sh, j.ep, j.fr, j.to, pc, j.ps, j.key, j.ot, j.oe, j.a, j.b⟩ ps hps he, ?_⟩)
   | (with_reducible refine Or.inr (Or.inr ⟨[?_, ?_], _, _, _, _, says_5o e n nx 0 ⟨5, j.sh, j.ep, j.fr, j.to, pc, j.ps, j.key, j.ot, j.oe, j.a, j.b⟩ ps hps he, ?_⟩))
   | (with_reducible refine Br.mk (fun hb => ?_) (fun hb => ?_) <;> (try rw [hb]) <;> (try simp only [List.length_map, decide_eq_true_eq, decide_eq_false_iff_not, Bool.not_eq_true', Bool.not_eq_false', Int.ofNat_lt, Int.ofNat_le, Int.not_lt, Int.not_le, Int.toNat_natCast] at hb))
   | ((with_reducible first | refine Or.inl (And.intro ?_ ?_) | refine And.intro ?_ ?_); (focus (first | with_reducible rfl | exact trivial | (exact ⟨rfl, trivial⟩) | (exact ⟨rfl, rfl, trivial⟩) | omega | (intro r hr; simp only [List.mem_singleton] at hr; subst hr; rfl)  | ((simp only [in64, maxLen] at *; omega)) | ((simp only [List.length_map]; omega)) | ((exact ⟨by omega, by simp only [List.length_map]; omega⟩)) | (simp only [in64]; omega) | assumption | (simp; done) | (simp [V.cells]; done) | (simp [in64, maxLen, limK] at *; omega) | ((show confB _ _ = true); kernel_rfl) | rfl)))
   | (intro row hrow; (try simp only [Int.toNat_natCast, List.length_map, toNat_pred, toNat_succ', toNat_zero', toNat_one'] at hrow); (first | (have hsm := same_map (by assumption) hrow; subst hsm; clear hrow) | (obtain ⟨p, hp, rfl⟩ := of_map hrow; clear hrow)))))
  all_goals (conv => whnf)
  all_goals (refine ⟨[0, 1], ?_⟩)
  all_goals (repeat' (first | (with_reducible rfl) | exact trivial | ((conv => whnf); (first | (with_reducible refine And.intro ?_ ?_) | exact trivial | (intro hb; first | (exfalso; simp_all; done) | skip)))))
  all_goals (first | rfl)

set_option maxRecDepth 100000 in
set_option maxHeartbeats 400000 in
theorem begins_6o (e n nx tc : Int) (j : JobV) (ps : List Bs) (hps : ps.length ≤ 10) (he : 0 ≤ j.ep ∧ j.ep ≤ 1000) (pc : Int)  : FnM Tryd.prog 33 [.ptr 0 0, .int .i64 6, .int .i64 pc] [.cells [.sl [[.int .i64 1, .int .i64 e, .int .i64 n, .str [], .str []]], .int .i64 j.ph, .int .i64 j.sh, .int .i64 j.ep, .int .i64 j.fr, .int .i64 j.to, .int .i64 j.pc, .int .i64 j.ps, .str j.key, .int .i64 j.ot, .int .i64 j.oe, .int .i64 j.a, .int .i64 j.b, .int .i64 nx, .own 1, .int .i64 tc], .rows 9 (ps.map encP)] (.sl [[.int .i64 15, .int .i64 100, .int .i64 j.fr, .int .i64 j.sh, .int .i64 j.ep, .int .i64 0, .int .i64 0, .int .i64 0, .int .i64 0, .str [], .str [], .str [], .int .i64 0, .nils, .int .i64 0, .str [], .int .i64 0, .nils, .str [], .str [], .nils, .nils, .nils, .str []]]) [.cells [.sl [[.int .i64 1, .int .i64 e, .int .i64 n, .str [], .str []]], .int .i64 6, .int .i64 j.sh, .int .i64 j.ep, .int .i64 j.fr, .int .i64 j.to, .int .i64 pc, .int .i64 j.ps, .str j.key, .int .i64 j.ot, .int .i64 j.oe, .int .i64 j.a, .int .i64 j.b, .int .i64 nx, .own 1, .int .i64 0], .rows 9 (ps.map encP)] := by
  refine FnM.mk' base Tryd.func33 rfl rfl rfl rfl ?_
  repeat' ((conv => whnf); (first
   | (with_reducible first | refine AW.seq ?_ | refine AW.region base (by kernel_rfl) ?_ | refine AW.cond ?_ | refine AW.block ?_ | refine AW.ret ?_ | refine AW.exit ?_ | refine AW.skip ?_ | refine Br.t ?_ | refine Br.f ?_)
   | (with_reducible refine Br.mkT (fun hb => (by (first | (simp at hb; done) | omega | (simp only [decide_eq_true_eq, decide_eq_false_iff_not, Bool.not_eq_true', Bool.not_eq_false'] at hb; first | omega | fail) | fail))) (fun hb => ?_))
   | (with_reducible refine Br.mkF (fun hb => (by (first | (simp at hb; done) | omega | (simp only [decide_eq_true_eq, decide_eq_false_iff_not, Bool.not_eq_true', Bool.not_eq_false'] at hb; first | omega | fail) | fail))) (fun hb => ?_))
   | ((with_reducible refine Or.inl ?_); (conv => whnf); (with_reducible refine And.intro LitSl.mk ?_))
   | refine Br.t ?_
   | refine Br.f ?_
   | (with_reducible refine Or.inr ⟨[?_, ?_], _, _, _, _, says_6o e n nx 0 ⟨6, j.sh, j.ep, j.fr, j.to, pc, j.ps, j.key, j.ot, j.oe, j.a, j.b⟩ ps hps he, ?_⟩)
   | (with_reducible refine Or.inr (Or.inr ⟨[?_, ?_], _, _, _, _, says_6o e n nx 0 ⟨6, j.sh, j.ep, j.fr, j.to, pc, j.ps, j.key, j.ot, j.oe, j.a, j.b⟩ ps hps he, ?_⟩))
   | (with_reducible refine Br.mk (fun hb => ?_) (fun hb => ?_) <;> (try rw [hb]) <;> (try simp only [List.length_map, decide_eq_true_eq, decide_eq_false_iff_not, Bool.not_eq_true', Bool.not_eq_false', Int.ofNat_lt, Int.ofNat_le, Int.not_lt, Int.not_le, Int.toNat_natCast] at hb))
   | ((with_reducible first | refine Or.inl (And.intro ?_ ?_) | refine And.intro ?_ ?_); (focus (first | with_reducible rfl | exact trivial | (exact ⟨rfl, trivial⟩) | (exact ⟨rfl, rfl, trivial⟩) | omega | (intro r hr; simp only [List.mem_singleton] at hr; subst hr; rfl)  | ((simp only [in64, maxLen] at *; omega)) | ((simp only [List.length_map]; omega)) | ((exact ⟨by omega, by simp only [List.length_map]; omega⟩)) | (simp only [in64]; omega) | assumption | (simp; done) | (simp [V.cells]; done) | (simp [in64, maxLen, limK] at *; omega) | ((show confB _ _ = true); kernel_rfl) | rfl)))
   | (intro row hrow; (try simp only [Int.toNat_natCast, List.length_map, toNat_pred, toNat_succ', toNat_zero', toNat_one'] at hrow); (first | (have hsm := same_map (by assumption) hrow; subst hsm; clear hrow) | (obtain ⟨p, hp, rfl⟩ := of_map hrow; clear hrow)))))
  all_goals (conv => whnf)
  all_goals (refine ⟨[0, 1], ?_⟩)
  all_goals (repeat' (first | (with_reducible rfl) | exact trivial | ((conv => whnf); (first | (with_reducible refine And.intro ?_ ?_) | exact trivial | (intro hb; first | (exfalso; simp_all; done) | skip)))))
  all_goals (first | rfl)

set_option maxRecDepth 100000 in
set_option maxHeartbeats 400000 in
theorem fits_2o (e n nx tc : Int) (j : JobV) (ps : List Bs) (hps : ps.length ≤ 10) (he : 0 ≤ j.ep ∧ j.ep ≤ 1000) (x2 : Int) (dt : Bs)  : FnM Tryd.prog 36 [.ptr 0 0, .agg [.int .i64 10, .int .i64 j.fr, .int .i64 100, .int .i64 j.sh, .int .i64 j.ep, .int .i64 j.pc, .int .i64 0, .int .i64 0, .int .i64 0, .str [], .str [], .str [], .int .i64 0, .nils, .int .i64 0, .str [], .int .i64 0, .nils, .str [], .str [], .nils, .nils, .nils, .str dt]] [.cells [.sl [[.int .i64 1, .int .i64 e, .int .i64 n, .str [], .str []]], .int .i64 2, .int .i64 j.sh, .int .i64 j.ep, .int .i64 j.fr, .int .i64 j.to, .int .i64 j.pc, .int .i64 j.ps, .str j.key, .int .i64 j.ot, .int .i64 j.oe, .int .i64 j.a, .int .i64 j.b, .int .i64 nx, .own 1, .int .i64 tc], .rows 9 (ps.map encP)] (.bool true) [.cells [.sl [[.int .i64 1, .int .i64 e, .int .i64 n, .str [], .str []]], .int .i64 2, .int .i64 j.sh, .int .i64 j.ep, .int .i64 j.fr, .int .i64 j.to, .int .i64 j.pc, .int .i64 j.ps, .str j.key, .int .i64 j.ot, .int .i64 j.oe, .int .i64 j.a, .int .i64 j.b, .int .i64 nx, .own 1, .int .i64 tc], .rows 9 (ps.map encP)] := by
  refine FnM.mk' base Tryd.func36 rfl rfl rfl rfl ?_
  repeat' ((conv => whnf); (first
   | (with_reducible first | refine AW.seq ?_ | refine AW.region base (by kernel_rfl) ?_ | refine AW.cond ?_ | refine AW.block ?_ | refine AW.ret ?_ | refine AW.exit ?_ | refine AW.skip ?_ | refine Br.t ?_ | refine Br.f ?_)
   | (with_reducible refine Br.mkT (fun hb => (by (first | (simp at hb; done) | omega | (simp only [decide_eq_true_eq, decide_eq_false_iff_not, Bool.not_eq_true', Bool.not_eq_false'] at hb; first | omega | fail) | fail))) (fun hb => ?_))
   | (with_reducible refine Br.mkF (fun hb => (by (first | (simp at hb; done) | omega | (simp only [decide_eq_true_eq, decide_eq_false_iff_not, Bool.not_eq_true', Bool.not_eq_false'] at hb; first | omega | fail) | fail))) (fun hb => ?_))
   | ((with_reducible refine Or.inl ?_); (conv => whnf); (with_reducible refine And.intro LitSl.mk ?_))
   | refine Br.t ?_
   | refine Br.f ?_
   | (intro row hrow; have e0 := Option.some.inj (show some _ = some row from hrow); subst e0)
   | ((with_reducible refine Or.inl ?_); (conv => whnf); (first | (with_reducible first | refine ⟨_, ans_fn 9 (by decide) (by decide), ?_⟩)))
   | (with_reducible refine Or.inr ⟨[?_, ?_], _, _, _, _, says_2o e n nx tc ⟨2, j.sh, j.ep, j.fr, j.to, j.pc, j.ps, j.key, j.ot, j.oe, j.a, j.b⟩ ps hps he, ?_⟩)
   | (with_reducible refine Or.inr (Or.inr ⟨[?_, ?_], _, _, _, _, says_2o e n nx tc ⟨2, j.sh, j.ep, j.fr, j.to, j.pc, j.ps, j.key, j.ot, j.oe, j.a, j.b⟩ ps hps he, ?_⟩))
   | (with_reducible refine Br.mk (fun hb => ?_) (fun hb => ?_) <;> (try rw [hb]) <;> (try simp only [List.length_map, decide_eq_true_eq, decide_eq_false_iff_not, Bool.not_eq_true', Bool.not_eq_false', Int.ofNat_lt, Int.ofNat_le, Int.not_lt, Int.not_le, Int.toNat_natCast] at hb))
   | ((with_reducible first | refine Or.inl (And.intro ?_ ?_) | refine And.intro ?_ ?_); (focus (first | with_reducible rfl | exact trivial | (exact ⟨rfl, trivial⟩) | (exact ⟨rfl, rfl, trivial⟩) | omega | (intro r hr; simp only [List.mem_singleton] at hr; subst hr; rfl)  | ((simp only [in64, maxLen] at *; omega)) | ((simp only [List.length_map]; omega)) | ((exact ⟨by omega, by simp only [List.length_map]; omega⟩)) | (simp only [in64]; omega) | assumption | (simp; done) | (simp [V.cells]; done) | (simp [in64, maxLen, limK] at *; omega) | ((show confB _ _ = true); kernel_rfl) | rfl)))
   | (intro row hrow; (try simp only [Int.toNat_natCast, List.length_map, toNat_pred, toNat_succ', toNat_zero', toNat_one'] at hrow); (first | (have hsm := same_map (by assumption) hrow; subst hsm; clear hrow) | (obtain ⟨p, hp, rfl⟩ := of_map hrow; clear hrow)))))
  all_goals (conv => whnf)
  all_goals (refine ⟨[0, 1], ?_⟩)
  all_goals (repeat' (first | (with_reducible rfl) | exact trivial | ((conv => whnf); (first | (with_reducible refine And.intro ?_ ?_) | exact trivial | (intro hb; first | (exfalso; simp_all; done) | skip)))))
  all_goals (first | rfl | (exact congrArg V.bool (decide_eq_true rfl)))

set_option maxRecDepth 100000 in
set_option maxHeartbeats 400000 in
theorem fits_3o (e n nx tc : Int) (j : JobV) (ps : List Bs) (hps : ps.length ≤ 10) (he : 0 ≤ j.ep ∧ j.ep ≤ 1000) (x2 : Int) (dt : Bs) (data : Bs) (hp0 : 0 ≤ j.pc) (hp : ps[j.pc.toNat]? = some data)  : FnM Tryd.prog 36 [.ptr 0 0, .agg [.int .i64 12, .int .i64 j.to, .int .i64 100, .int .i64 j.sh, .int .i64 (j.ep + 1), .int .i64 j.pc, .int .i64 0, .int .i64 0, .int .i64 0, .str [], .str [], .str [], .int .i64 0, .nils, .int .i64 0, .str [], .int .i64 0, .nils, .str [], .str [], .nils, .nils, .nils, .str dt]] [.cells [.sl [[.int .i64 1, .int .i64 e, .int .i64 n, .str [], .str []]], .int .i64 3, .int .i64 j.sh, .int .i64 j.ep, .int .i64 j.fr, .int .i64 j.to, .int .i64 j.pc, .int .i64 j.ps, .str j.key, .int .i64 j.ot, .int .i64 j.oe, .int .i64 j.a, .int .i64 j.b, .int .i64 nx, .own 1, .int .i64 tc], .rows 9 (ps.map encP)] (.bool true) [.cells [.sl [[.int .i64 1, .int .i64 e, .int .i64 n, .str [], .str []]], .int .i64 3, .int .i64 j.sh, .int .i64 j.ep, .int .i64 j.fr, .int .i64 j.to, .int .i64 j.pc, .int .i64 j.ps, .str j.key, .int .i64 j.ot, .int .i64 j.oe, .int .i64 j.a, .int .i64 j.b, .int .i64 nx, .own 1, .int .i64 tc], .rows 9 (ps.map encP)] := by
  refine FnM.mk' base Tryd.func36 rfl rfl rfl rfl ?_
  repeat' ((conv => whnf); (first
   | (with_reducible first | refine AW.seq ?_ | refine AW.region base (by kernel_rfl) ?_ | refine AW.cond ?_ | refine AW.block ?_ | refine AW.ret ?_ | refine AW.exit ?_ | refine AW.skip ?_ | refine Br.t ?_ | refine Br.f ?_)
   | (with_reducible refine Br.mkT (fun hb => (by (first | (simp at hb; done) | omega | (simp only [decide_eq_true_eq, decide_eq_false_iff_not, Bool.not_eq_true', Bool.not_eq_false'] at hb; first | omega | fail) | fail))) (fun hb => ?_))
   | (with_reducible refine Br.mkF (fun hb => (by (first | (simp at hb; done) | omega | (simp only [decide_eq_true_eq, decide_eq_false_iff_not, Bool.not_eq_true', Bool.not_eq_false'] at hb; first | omega | fail) | fail))) (fun hb => ?_))
   | ((with_reducible refine Or.inl ?_); (conv => whnf); (with_reducible refine And.intro LitSl.mk ?_))
   | refine Br.t ?_
   | refine Br.f ?_
   | (intro row hrow; have e0 := Option.some.inj (show some _ = some row from hrow); subst e0)
   | ((with_reducible refine Or.inl ?_); (conv => whnf); (first | (with_reducible first | refine ⟨_, ans_fn 11 (by decide) (by decide), ?_⟩)))
   | (with_reducible refine Or.inr ⟨[?_, ?_], _, _, _, _, says_3o e n nx tc ⟨3, j.sh, j.ep, j.fr, j.to, j.pc, j.ps, j.key, j.ot, j.oe, j.a, j.b⟩ ps hps he data hp0 hp, ?_⟩)
   | (with_reducible refine Or.inr (Or.inr ⟨[?_, ?_], _, _, _, _, says_3o e n nx tc ⟨3, j.sh, j.ep, j.fr, j.to, j.pc, j.ps, j.key, j.ot, j.oe, j.a, j.b⟩ ps hps he data hp0 hp, ?_⟩))
   | (with_reducible refine Br.mk (fun hb => ?_) (fun hb => ?_) <;> (try rw [hb]) <;> (try simp only [List.length_map, decide_eq_true_eq, decide_eq_false_iff_not, Bool.not_eq_true', Bool.not_eq_false', Int.ofNat_lt, Int.ofNat_le, Int.not_lt, Int.not_le, Int.toNat_natCast] at hb))
   | ((with_reducible first | refine Or.inl (And.intro ?_ ?_) | refine And.intro ?_ ?_); (focus (first | with_reducible rfl | exact trivial | (exact ⟨rfl, trivial⟩) | (exact ⟨rfl, rfl, trivial⟩) | omega | (intro r hr; simp only [List.mem_singleton] at hr; subst hr; rfl)  | ((simp only [in64, maxLen] at *; omega)) | ((simp only [List.length_map]; omega)) | ((exact ⟨by omega, by simp only [List.length_map]; omega⟩)) | (simp only [in64]; omega) | assumption | (simp; done) | (simp [V.cells]; done) | (simp [in64, maxLen, limK] at *; omega) | ((show confB _ _ = true); kernel_rfl) | rfl)))
   | (intro row hrow; (try simp only [Int.toNat_natCast, List.length_map, toNat_pred, toNat_succ', toNat_zero', toNat_one'] at hrow); (first | (have hsm := same_map (by assumption) hrow; subst hsm; clear hrow) | (obtain ⟨p, hp, rfl⟩ := of_map hrow; clear hrow)))))
  all_goals (conv => whnf)
  all_goals (refine ⟨[0, 1], ?_⟩)
  all_goals (repeat' (first | (with_reducible rfl) | exact trivial | ((conv => whnf); (first | (with_reducible refine And.intro ?_ ?_) | exact trivial | (intro hb; first | (exfalso; simp_all; done) | skip)))))
  all_goals (first | rfl | (exact congrArg V.bool (decide_eq_true rfl)))

set_option maxRecDepth 100000 in
set_option maxHeartbeats 400000 in
theorem fits_4o (e n nx tc : Int) (j : JobV) (ps : List Bs) (hps : ps.length ≤ 10) (he : 0 ≤ j.ep ∧ j.ep ≤ 1000) (x2 : Int) (dt : Bs)  : FnM Tryd.prog 36 [.ptr 0 0, .agg [.int .i64 14, .int .i64 j.to, .int .i64 100, .int .i64 j.sh, .int .i64 (j.ep + 1), .int .i64 x2, .int .i64 0, .int .i64 0, .int .i64 0, .str [], .str [], .str [], .int .i64 0, .nils, .int .i64 0, .str [], .int .i64 0, .nils, .str [], .str [], .nils, .nils, .nils, .str dt]] [.cells [.sl [[.int .i64 1, .int .i64 e, .int .i64 n, .str [], .str []]], .int .i64 4, .int .i64 j.sh, .int .i64 j.ep, .int .i64 j.fr, .int .i64 j.to, .int .i64 j.pc, .int .i64 j.ps, .str j.key, .int .i64 j.ot, .int .i64 j.oe, .int .i64 j.a, .int .i64 j.b, .int .i64 nx, .own 1, .int .i64 tc], .rows 9 (ps.map encP)] (.bool true) [.cells [.sl [[.int .i64 1, .int .i64 e, .int .i64 n, .str [], .str []]], .int .i64 4, .int .i64 j.sh, .int .i64 j.ep, .int .i64 j.fr, .int .i64 j.to, .int .i64 j.pc, .int .i64 j.ps, .str j.key, .int .i64 j.ot, .int .i64 j.oe, .int .i64 j.a, .int .i64 j.b, .int .i64 nx, .own 1, .int .i64 tc], .rows 9 (ps.map encP)] := by
  refine FnM.mk' base Tryd.func36 rfl rfl rfl rfl ?_
  repeat' ((conv => whnf); (first
   | (with_reducible first | refine AW.seq ?_ | refine AW.region base (by kernel_rfl) ?_ | refine AW.cond ?_ | refine AW.block ?_ | refine AW.ret ?_ | refine AW.exit ?_ | refine AW.skip ?_ | refine Br.t ?_ | refine Br.f ?_)
   | (with_reducible refine Br.mkT (fun hb => (by (first | (simp at hb; done) | omega | (simp only [decide_eq_true_eq, decide_eq_false_iff_not, Bool.not_eq_true', Bool.not_eq_false'] at hb; first | omega | fail) | fail))) (fun hb => ?_))
   | (with_reducible refine Br.mkF (fun hb => (by (first | (simp at hb; done) | omega | (simp only [decide_eq_true_eq, decide_eq_false_iff_not, Bool.not_eq_true', Bool.not_eq_false'] at hb; first | omega | fail) | fail))) (fun hb => ?_))
   | ((with_reducible refine Or.inl ?_); (conv => whnf); (with_reducible refine And.intro LitSl.mk ?_))
   | refine Br.t ?_
   | refine Br.f ?_
   | (intro row hrow; have e0 := Option.some.inj (show some _ = some row from hrow); subst e0)
   | ((with_reducible refine Or.inl ?_); (conv => whnf); (first | (with_reducible first | refine ⟨_, ans_fn 13 (by decide) (by decide), ?_⟩)))
   | (with_reducible refine Or.inr ⟨[?_, ?_], _, _, _, _, says_4o e n nx tc ⟨4, j.sh, j.ep, j.fr, j.to, j.pc, j.ps, j.key, j.ot, j.oe, j.a, j.b⟩ ps hps he, ?_⟩)
   | (with_reducible refine Or.inr (Or.inr ⟨[?_, ?_], _, _, _, _, says_4o e n nx tc ⟨4, j.sh, j.ep, j.fr, j.to, j.pc, j.ps, j.key, j.ot, j.oe, j.a, j.b⟩ ps hps he, ?_⟩))
   | (with_reducible refine Br.mk (fun hb => ?_) (fun hb => ?_) <;> (try rw [hb]) <;> (try simp only [List.length_map, decide_eq_true_eq, decide_eq_false_iff_not, Bool.not_eq_true', Bool.not_eq_false', Int.ofNat_lt, Int.ofNat_le, Int.not_lt, Int.not_le, Int.toNat_natCast] at hb))
   | ((with_reducible first | refine Or.inl (And.intro ?_ ?_) | refine And.intro ?_ ?_); (focus (first | with_reducible rfl | exact trivial | (exact ⟨rfl, trivial⟩) | (exact ⟨rfl, rfl, trivial⟩) | omega | (intro r hr; simp only [List.mem_singleton] at hr; subst hr; rfl)  | ((simp only [in64, maxLen] at *; omega)) | ((simp only [List.length_map]; omega)) | ((exact ⟨by omega, by simp only [List.length_map]; omega⟩)) | (simp only [in64]; omega) | assumption | (simp; done) | (simp [V.cells]; done) | (simp [in64, maxLen, limK] at *; omega) | ((show confB _ _ = true); kernel_rfl) | rfl)))
   | (intro row hrow; (try simp only [Int.toNat_natCast, List.length_map, toNat_pred, toNat_succ', toNat_zero', toNat_one'] at hrow); (first | (have hsm := same_map (by assumption) hrow; subst hsm; clear hrow) | (obtain ⟨p, hp, rfl⟩ := of_map hrow; clear hrow)))))
  all_goals (conv => whnf)
  all_goals (refine ⟨[0, 1], ?_⟩)
  all_goals (repeat' (first | (with_reducible rfl) | exact trivial | ((conv => whnf); (first | (with_reducible refine And.intro ?_ ?_) | exact trivial | (intro hb; first | (exfalso; simp_all; done) | skip)))))
  all_goals (first | rfl | (exact congrArg V.bool (decide_eq_true rfl)))

set_option maxRecDepth 100000 in
set_option maxHeartbeats 400000 in
theorem fits_5o (e n nx tc : Int) (j : JobV) (ps : List Bs) (hps : ps.length ≤ 10) (he : 0 ≤ j.ep ∧ j.ep ≤ 1000) (x2 : Int) (dt : Bs)  : FnM Tryd.prog 36 [.ptr 0 0, .agg [.int .i64 18, .int .i64 j.fr, .int .i64 100, .int .i64 j.sh, .int .i64 j.ep, .int .i64 x2, .int .i64 0, .int .i64 0, .int .i64 0, .str [], .str [], .str [], .int .i64 0, .nils, .int .i64 0, .str [], .int .i64 0, .nils, .str [], .str [], .nils, .nils, .nils, .str dt]] [.cells [.sl [[.int .i64 1, .int .i64 e, .int .i64 n, .str [], .str []]], .int .i64 5, .int .i64 j.sh, .int .i64 j.ep, .int .i64 j.fr, .int .i64 j.to, .int .i64 j.pc, .int .i64 j.ps, .str j.key, .int .i64 j.ot, .int .i64 j.oe, .int .i64 j.a, .int .i64 j.b, .int .i64 nx, .own 1, .int .i64 tc], .rows 9 (ps.map encP)] (.bool true) [.cells [.sl [[.int .i64 1, .int .i64 e, .int .i64 n, .str [], .str []]], .int .i64 5, .int .i64 j.sh, .int .i64 j.ep, .int .i64 j.fr, .int .i64 j.to, .int .i64 j.pc, .int .i64 j.ps, .str j.key, .int .i64 j.ot, .int .i64 j.oe, .int .i64 j.a, .int .i64 j.b, .int .i64 nx, .own 1, .int .i64 tc], .rows 9 (ps.map encP)] := by
  refine FnM.mk' base Tryd.func36 rfl rfl rfl rfl ?_
  repeat' ((conv => whnf); (first
   | (with_reducible first | refine AW.seq ?_ | refine AW.region base (by kernel_rfl) ?_ | refine AW.cond ?_ | refine AW.block ?_ | refine AW.ret ?_ | refine AW.exit ?_ | refine AW.skip ?_ | refine Br.t ?_ | refine Br.f ?_)
   | (with_reducible refine Br.mkT (fun hb => (by (first | (simp at hb; done) | omega | (simp only [decide_eq_true_eq, decide_eq_false_iff_not, Bool.not_eq_true', Bool.not_eq_false'] at hb; first | omega | fail) | fail))) (fun hb => ?_))
   | (with_reducible refine Br.mkF (fun hb => (by (first | (simp at hb; done) | omega | (simp only [decide_eq_true_eq, decide_eq_false_iff_not, Bool.not_eq_true', Bool.not_eq_false'] at hb; first | omega | fail) | fail))) (fun hb => ?_))
   | ((with_reducible refine Or.inl ?_); (conv => whnf); (with_reducible refine And.intro LitSl.mk ?_))
   | refine Br.t ?_
   | refine Br.f ?_
   | (intro row hrow; have e0 := Option.some.inj (show some _ = some row from hrow); subst e0)
   | ((with_reducible refine Or.inl ?_); (conv => whnf); (first | (with_reducible first | refine ⟨_, ans_fn 17 (by decide) (by decide), ?_⟩)))
   | (with_reducible refine Or.inr ⟨[?_, ?_], _, _, _, _, says_5o e n nx tc ⟨5, j.sh, j.ep, j.fr, j.to, j.pc, j.ps, j.key, j.ot, j.oe, j.a, j.b⟩ ps hps he, ?_⟩)
   | (with_reducible refine Or.inr (Or.inr ⟨[?_, ?_], _, _, _, _, says_5o e n nx tc ⟨5, j.sh, j.ep, j.fr, j.to, j.pc, j.ps, j.key, j.ot, j.oe, j.a, j.b⟩ ps hps he, ?_⟩))
   | (with_reducible refine Br.mk (fun hb => ?_) (fun hb => ?_) <;> (try rw [hb]) <;> (try simp only [List.length_map, decide_eq_true_eq, decide_eq_false_iff_not, Bool.not_eq_true', Bool.not_eq_false', Int.ofNat_lt, Int.ofNat_le, Int.not_lt, Int.not_le, Int.toNat_natCast] at hb))
   | ((with_reducible first | refine Or.inl (And.intro ?_ ?_) | refine And.intro ?_ ?_); (focus (first | with_reducible rfl | exact trivial | (exact ⟨rfl, trivial⟩) | (exact ⟨rfl, rfl, trivial⟩) | omega | (intro r hr; simp only [List.mem_singleton] at hr; subst hr; rfl)  | ((simp only [in64, maxLen] at *; omega)) | ((simp only [List.length_map]; omega)) | ((exact ⟨by omega, by simp only [List.length_map]; omega⟩)) | (simp only [in64]; omega) | assumption | (simp; done) | (simp [V.cells]; done) | (simp [in64, maxLen, limK] at *; omega) | ((show confB _ _ = true); kernel_rfl) | rfl)))
   | (intro row hrow; (try simp only [Int.toNat_natCast, List.length_map, toNat_pred, toNat_succ', toNat_zero', toNat_one'] at hrow); (first | (have hsm := same_map (by assumption) hrow; subst hsm; clear hrow) | (obtain ⟨p, hp, rfl⟩ := of_map hrow; clear hrow)))))
  all_goals (conv => whnf)
  all_goals (refine ⟨[0, 1], ?_⟩)
  all_goals (repeat' (first | (with_reducible rfl) | exact trivial | ((conv => whnf); (first | (with_reducible refine And.intro ?_ ?_) | exact trivial | (intro hb; first | (exfalso; simp_all; done) | skip)))))
  all_goals (first | rfl | (exact congrArg V.bool (decide_eq_true rfl)))

set_option maxRecDepth 100000 in
set_option maxHeartbeats 400000 in
theorem fits_6o (e n nx tc : Int) (j : JobV) (ps : List Bs) (hps : ps.length ≤ 10) (he : 0 ≤ j.ep ∧ j.ep ≤ 1000) (x2 : Int) (dt : Bs)  : FnM Tryd.prog 36 [.ptr 0 0, .agg [.int .i64 16, .int .i64 j.fr, .int .i64 100, .int .i64 j.sh, .int .i64 j.ep, .int .i64 x2, .int .i64 0, .int .i64 0, .int .i64 0, .str [], .str [], .str [], .int .i64 0, .nils, .int .i64 0, .str [], .int .i64 0, .nils, .str [], .str [], .nils, .nils, .nils, .str dt]] [.cells [.sl [[.int .i64 1, .int .i64 e, .int .i64 n, .str [], .str []]], .int .i64 6, .int .i64 j.sh, .int .i64 j.ep, .int .i64 j.fr, .int .i64 j.to, .int .i64 j.pc, .int .i64 j.ps, .str j.key, .int .i64 j.ot, .int .i64 j.oe, .int .i64 j.a, .int .i64 j.b, .int .i64 nx, .own 1, .int .i64 tc], .rows 9 (ps.map encP)] (.bool true) [.cells [.sl [[.int .i64 1, .int .i64 e, .int .i64 n, .str [], .str []]], .int .i64 6, .int .i64 j.sh, .int .i64 j.ep, .int .i64 j.fr, .int .i64 j.to, .int .i64 j.pc, .int .i64 j.ps, .str j.key, .int .i64 j.ot, .int .i64 j.oe, .int .i64 j.a, .int .i64 j.b, .int .i64 nx, .own 1, .int .i64 tc], .rows 9 (ps.map encP)] := by
  refine FnM.mk' base Tryd.func36 rfl rfl rfl rfl ?_
  repeat' ((conv => whnf); (first
   | (with_reducible first | refine AW.seq ?_ | refine AW.region base (by kernel_rfl) ?_ | refine AW.cond ?_ | refine AW.block ?_ | refine AW.ret ?_ | refine AW.exit ?_ | refine AW.skip ?_ | refine Br.t ?_ | refine Br.f ?_)
   | (with_reducible refine Br.mkT (fun hb => (by (first | (simp at hb; done) | omega | (simp only [decide_eq_true_eq, decide_eq_false_iff_not, Bool.not_eq_true', Bool.not_eq_false'] at hb; first | omega | fail) | fail))) (fun hb => ?_))
   | (with_reducible refine Br.mkF (fun hb => (by (first | (simp at hb; done) | omega | (simp only [decide_eq_true_eq, decide_eq_false_iff_not, Bool.not_eq_true', Bool.not_eq_false'] at hb; first | omega | fail) | fail))) (fun hb => ?_))
   | ((with_reducible refine Or.inl ?_); (conv => whnf); (with_reducible refine And.intro LitSl.mk ?_))
   | refine Br.t ?_
   | refine Br.f ?_
   | (intro row hrow; have e0 := Option.some.inj (show some _ = some row from hrow); subst e0)
   | ((with_reducible refine Or.inl ?_); (conv => whnf); (first | (with_reducible first | refine ⟨_, ans_fn 15 (by decide) (by decide), ?_⟩)))
   | (with_reducible refine Or.inr ⟨[?_, ?_], _, _, _, _, says_6o e n nx tc ⟨6, j.sh, j.ep, j.fr, j.to, j.pc, j.ps, j.key, j.ot, j.oe, j.a, j.b⟩ ps hps he, ?_⟩)
   | (with_reducible refine Or.inr (Or.inr ⟨[?_, ?_], _, _, _, _, says_6o e n nx tc ⟨6, j.sh, j.ep, j.fr, j.to, j.pc, j.ps, j.key, j.ot, j.oe, j.a, j.b⟩ ps hps he, ?_⟩))
   | (with_reducible refine Br.mk (fun hb => ?_) (fun hb => ?_) <;> (try rw [hb]) <;> (try simp only [List.length_map, decide_eq_true_eq, decide_eq_false_iff_not, Bool.not_eq_true', Bool.not_eq_false', Int.ofNat_lt, Int.ofNat_le, Int.not_lt, Int.not_le, Int.toNat_natCast] at hb))
   | ((with_reducible first | refine Or.inl (And.intro ?_ ?_) | refine And.intro ?_ ?_); (focus (first | with_reducible rfl | exact trivial | (exact ⟨rfl, trivial⟩) | (exact ⟨rfl, rfl, trivial⟩) | omega | (intro r hr; simp only [List.mem_singleton] at hr; subst hr; rfl)  | ((simp only [in64, maxLen] at *; omega)) | ((simp only [List.length_map]; omega)) | ((exact ⟨by omega, by simp only [List.length_map]; omega⟩)) | (simp only [in64]; omega) | assumption | (simp; done) | (simp [V.cells]; done) | (simp [in64, maxLen, limK] at *; omega) | ((show confB _ _ = true); kernel_rfl) | rfl)))
   | (intro row hrow; (try simp only [Int.toNat_natCast, List.length_map, toNat_pred, toNat_succ', toNat_zero', toNat_one'] at hrow); (first | (have hsm := same_map (by assumption) hrow; subst hsm; clear hrow) | (obtain ⟨p, hp, rfl⟩ := of_map hrow; clear hrow)))))
  all_goals (conv => whnf)
  all_goals (refine ⟨[0, 1], ?_⟩)
  all_goals (repeat' (first | (with_reducible rfl) | exact trivial | ((conv => whnf); (first | (with_reducible refine And.intro ?_ ?_) | exact trivial | (intro hb; first | (exfalso; simp_all; done) | skip)))))
  all_goals (first | rfl | (exact congrArg V.bool (decide_eq_true rfl)))

set_option maxRecDepth 100000 in
set_option maxHeartbeats 400000 in
theorem goes_8o (e n nx tc : Int) (j : JobV) (he : 0 ≤ j.ep ∧ j.ep ≤ 1000) (x2 : Int) (hx : 1 ≤ x2) (dt : Bs)  : FnM Tryd.prog 37 [.ptr 0 0, .agg [.int .i64 8, .int .i64 j.fr, .int .i64 100, .int .i64 j.sh, .int .i64 j.ep, .int .i64 x2, .int .i64 0, .int .i64 0, .int .i64 0, .str [], .str [], .str [], .int .i64 0, .nils, .int .i64 0, .str [], .int .i64 0, .nils, .str [], .str [], .nils, .nils, .nils, .str dt]] [.cells [.sl [[.int .i64 1, .int .i64 e, .int .i64 n, .str [], .str []]], .int .i64 1, .int .i64 j.sh, .int .i64 j.ep, .int .i64 j.fr, .int .i64 j.to, .int .i64 j.pc, .int .i64 j.ps, .str j.key, .int .i64 j.ot, .int .i64 j.oe, .int .i64 j.a, .int .i64 j.b, .int .i64 nx, .nils, .int .i64 tc]] (.sl [[.int .i64 9, .int .i64 100, .int .i64 j.fr, .int .i64 j.sh, .int .i64 j.ep, .int .i64 0, .int .i64 0, .int .i64 0, .int .i64 0, .str [], .str [], .str [], .int .i64 0, .nils, .int .i64 0, .str [], .int .i64 0, .nils, .str [], .str [], .nils, .nils, .nils, .str []]]) [.cells [.sl [[.int .i64 1, .int .i64 e, .int .i64 n, .str [], .str []]], .int .i64 2, .int .i64 j.sh, .int .i64 j.ep, .int .i64 j.fr, .int .i64 j.to, .int .i64 0, .int .i64 x2, .str j.key, .int .i64 j.ot, .int .i64 j.oe, .int .i64 j.a, .int .i64 j.b, .int .i64 nx, .own 1, .int .i64 0], .rows 9 (([] : List Bs).map encP)] := by
  refine FnM.mk' base Tryd.func37 rfl rfl rfl rfl ?_
  repeat' ((conv => whnf); (first
   | ((with_reducible show AW _ _ _ (Code.seq (Code.region 7 _ _) _) _ _ _); (refine AW.adoptC 0 14 999999999 (el := 9) rfl rfl rfl (rows_of 67 rfl) ?_))
   | (with_reducible first | refine AW.seq ?_ | refine AW.region base (by kernel_rfl) ?_ | refine AW.cond ?_ | refine AW.block ?_ | refine AW.ret ?_ | refine AW.exit ?_ | refine AW.skip ?_ | refine Br.t ?_ | refine Br.f ?_)
   | (with_reducible refine Br.mkT (fun hb => (by (first | (simp at hb; done) | omega | (simp only [decide_eq_true_eq, decide_eq_false_iff_not, Bool.not_eq_true', Bool.not_eq_false'] at hb; first | omega | fail) | fail))) (fun hb => ?_))
   | (with_reducible refine Br.mkF (fun hb => (by (first | (simp at hb; done) | omega | (simp only [decide_eq_true_eq, decide_eq_false_iff_not, Bool.not_eq_true', Bool.not_eq_false'] at hb; first | omega | fail) | fail))) (fun hb => ?_))
   | ((with_reducible refine Or.inl ?_); (conv => whnf); (with_reducible refine And.intro LitSl.mk ?_))
   | refine Br.t ?_
   | refine Br.f ?_
   | (with_reducible refine Or.inr ⟨[?_, ?_], _, _, _, _, begins_2o e n nx tc ⟨1, j.sh, j.ep, j.fr, j.to, j.pc, x2, j.key, j.ot, j.oe, j.a, j.b⟩ [] (by simp) he 0, ?_⟩)
   | (with_reducible refine Or.inr (Or.inr ⟨[?_, ?_], _, _, _, _, begins_2o e n nx tc ⟨1, j.sh, j.ep, j.fr, j.to, j.pc, x2, j.key, j.ot, j.oe, j.a, j.b⟩ [] (by simp) he 0, ?_⟩))
   | (with_reducible refine Br.mk (fun hb => ?_) (fun hb => ?_) <;> (try rw [hb]) <;> (try simp only [List.length_map, decide_eq_true_eq, decide_eq_false_iff_not, Bool.not_eq_true', Bool.not_eq_false', Int.ofNat_lt, Int.ofNat_le, Int.not_lt, Int.not_le, Int.toNat_natCast] at hb))
   | ((with_reducible first | refine Or.inl (And.intro ?_ ?_) | refine And.intro ?_ ?_); (focus (first | with_reducible rfl | exact trivial | (exact ⟨rfl, trivial⟩) | (exact ⟨rfl, rfl, trivial⟩) | omega | (intro r hr; simp only [List.mem_singleton] at hr; subst hr; rfl)  | ((simp only [in64, maxLen] at *; omega)) | ((simp only [List.length_map]; omega)) | ((exact ⟨by omega, by simp only [List.length_map]; omega⟩)) | (simp only [in64]; omega) | assumption | (simp; done) | (simp [V.cells]; done) | (simp [in64, maxLen, limK] at *; omega) | ((show confB _ _ = true); kernel_rfl) | rfl)))
   | (intro row hrow; (try simp only [Int.toNat_natCast, List.length_map, toNat_pred, toNat_succ', toNat_zero', toNat_one'] at hrow); (first | (have hsm := same_map (by assumption) hrow; subst hsm; clear hrow) | (obtain ⟨p, hp, rfl⟩ := of_map hrow; clear hrow)))))
  all_goals (conv => whnf)
  all_goals (refine ⟨[0, ?_], ?_⟩)
  all_goals (repeat' (first | (with_reducible rfl) | exact trivial | ((conv => whnf); (first | (with_reducible refine And.intro ?_ ?_) | exact trivial | (intro hb; first | (exfalso; simp_all; done) | skip)))))
  all_goals (first | rfl)

set_option maxRecDepth 100000 in
set_option maxHeartbeats 400000 in
theorem goes_10a (e n nx tc : Int) (j : JobV) (ps : List Bs) (hps : ps.length ≤ 9) (he : 0 ≤ j.ep ∧ j.ep ≤ 1000) (hpc : 0 ≤ j.pc ∧ j.pc ≤ 1000) (h1 : j.pc + 1 < j.ps) (dt : Bs)  : FnM Tryd.prog 37 [.ptr 0 0, .agg [.int .i64 10, .int .i64 j.fr, .int .i64 100, .int .i64 j.sh, .int .i64 j.ep, .int .i64 j.pc, .int .i64 0, .int .i64 0, .int .i64 0, .str [], .str [], .str [], .int .i64 0, .nils, .int .i64 0, .str [], .int .i64 0, .nils, .str [], .str [], .nils, .nils, .nils, .str dt]] [.cells [.sl [[.int .i64 1, .int .i64 e, .int .i64 n, .str [], .str []]], .int .i64 2, .int .i64 j.sh, .int .i64 j.ep, .int .i64 j.fr, .int .i64 j.to, .int .i64 j.pc, .int .i64 j.ps, .str j.key, .int .i64 j.ot, .int .i64 j.oe, .int .i64 j.a, .int .i64 j.b, .int .i64 nx, .own 1, .int .i64 tc], .rows 9 (ps.map encP)] (.sl [[.int .i64 9, .int .i64 100, .int .i64 j.fr, .int .i64 j.sh, .int .i64 j.ep, .int .i64 (j.pc + 1), .int .i64 0, .int .i64 0, .int .i64 0, .str [], .str [], .str [], .int .i64 0, .nils, .int .i64 0, .str [], .int .i64 0, .nils, .str [], .str [], .nils, .nils, .nils, .str []]]) [.cells [.sl [[.int .i64 1, .int .i64 e, .int .i64 n, .str [], .str []]], .int .i64 2, .int .i64 j.sh, .int .i64 j.ep, .int .i64 j.fr, .int .i64 j.to, .int .i64 (j.pc + 1), .int .i64 j.ps, .str j.key, .int .i64 j.ot, .int .i64 j.oe, .int .i64 j.a, .int .i64 j.b, .int .i64 nx, .own 2, .int .i64 0], .dead, .rows 9 ((ps ++ [dt]).map encP)] := by
  refine FnM.mk' base Tryd.func37 rfl rfl rfl rfl ?_
  repeat' ((conv => whnf); (first
   | (with_reducible first | refine AW.seq ?_ | refine AW.region base (by kernel_rfl) ?_ | refine AW.cond ?_ | refine AW.block ?_ | refine AW.ret ?_ | refine AW.exit ?_ | refine AW.skip ?_ | refine Br.t ?_ | refine Br.f ?_)
   | (with_reducible refine Br.mkT (fun hb => (by (first | (simp at hb; done) | omega | (simp only [decide_eq_true_eq, decide_eq_false_iff_not, Bool.not_eq_true', Bool.not_eq_false'] at hb; first | omega | fail) | fail))) (fun hb => ?_))
   | (with_reducible refine Br.mkF (fun hb => (by (first | (simp at hb; done) | omega | (simp only [decide_eq_true_eq, decide_eq_false_iff_not, Bool.not_eq_true', Bool.not_eq_false'] at hb; first | omega | fail) | fail))) (fun hb => ?_))
   | ((with_reducible refine Or.inl ?_); (conv => whnf); (with_reducible refine And.intro LitSl.mk ?_))
   | refine Br.t ?_
   | refine Br.f ?_
   | (with_reducible refine Or.inr ⟨[?_, ?_], _, _, _, _, begins_2o e n nx tc ⟨2, j.sh, j.ep, j.fr, j.to, j.pc, j.ps, j.key, j.ot, j.oe, j.a, j.b⟩ (ps ++ [dt]) (by simp; omega) he (j.pc + 1), ?_⟩)
   | (with_reducible refine Or.inr (Or.inr ⟨[?_, ?_], _, _, _, _, begins_2o e n nx tc ⟨2, j.sh, j.ep, j.fr, j.to, j.pc, j.ps, j.key, j.ot, j.oe, j.a, j.b⟩ (ps ++ [dt]) (by simp; omega) he (j.pc + 1), ?_⟩))
   | (with_reducible refine Br.mk (fun hb => ?_) (fun hb => ?_) <;> (try rw [hb]) <;> (try simp only [List.length_map, decide_eq_true_eq, decide_eq_false_iff_not, Bool.not_eq_true', Bool.not_eq_false', Int.ofNat_lt, Int.ofNat_le, Int.not_lt, Int.not_le, Int.toNat_natCast] at hb))
   | ((with_reducible first | refine Or.inl (And.intro ?_ ?_) | refine And.intro ?_ ?_); (focus (first | with_reducible rfl | exact trivial | (exact ⟨rfl, trivial⟩) | (exact ⟨rfl, rfl, trivial⟩) | omega | (intro r hr; simp only [List.mem_singleton] at hr; subst hr; rfl)  | ((simp only [in64, maxLen] at *; omega)) | ((simp only [List.length_map]; omega)) | ((exact ⟨by omega, by simp only [List.length_map]; omega⟩)) | (simp only [in64]; omega) | assumption | (simp; done) | (simp [V.cells]; done) | (simp [in64, maxLen, limK] at *; omega) | ((show confB _ _ = true); kernel_rfl) | rfl)))
   | (intro row hrow; (try simp only [Int.toNat_natCast, List.length_map, toNat_pred, toNat_succ', toNat_zero', toNat_one'] at hrow); (first | (have hsm := same_map (by assumption) hrow; subst hsm; clear hrow) | (obtain ⟨p, hp, rfl⟩ := of_map hrow; clear hrow)))))
  all_goals (conv => whnf)
  all_goals (refine ⟨[0, 1, ?_], ?_⟩)
  all_goals (repeat' (first | (with_reducible rfl) | exact trivial | ((conv => whnf); (first | (with_reducible refine And.intro ?_ ?_) | exact trivial | (intro hb; first | (exfalso; simp_all; done) | skip)))))
  all_goals (first | rfl | (simp; done))

set_option maxRecDepth 100000 in
set_option maxHeartbeats 400000 in
theorem goes_10b (e n nx tc : Int) (j : JobV) (ps : List Bs) (hps : ps.length ≤ 9) (he : 0 ≤ j.ep ∧ j.ep ≤ 1000) (hpc : 0 ≤ j.pc ∧ j.pc ≤ 1000) (h1 : ¬ j.pc + 1 < j.ps) (dt d0 : Bs) (hd : (ps ++ [dt])[(0 : Int).toNat]? = some d0)  : FnM Tryd.prog 37 [.ptr 0 0, .agg [.int .i64 10, .int .i64 j.fr, .int .i64 100, .int .i64 j.sh, .int .i64 j.ep, .int .i64 j.pc, .int .i64 0, .int .i64 0, .int .i64 0, .str [], .str [], .str [], .int .i64 0, .nils, .int .i64 0, .str [], .int .i64 0, .nils, .str [], .str [], .nils, .nils, .nils, .str dt]] [.cells [.sl [[.int .i64 1, .int .i64 e, .int .i64 n, .str [], .str []]], .int .i64 2, .int .i64 j.sh, .int .i64 j.ep, .int .i64 j.fr, .int .i64 j.to, .int .i64 j.pc, .int .i64 j.ps, .str j.key, .int .i64 j.ot, .int .i64 j.oe, .int .i64 j.a, .int .i64 j.b, .int .i64 nx, .own 1, .int .i64 tc], .rows 9 (ps.map encP)] (.sl [[.int .i64 11, .int .i64 100, .int .i64 j.to, .int .i64 j.sh, .int .i64 (j.ep + 1), .int .i64 0, .int .i64 0, .int .i64 0, .int .i64 0, .str [], .str [], .str [], .int .i64 0, .nils, .int .i64 0, .str [], .int .i64 0, .nils, .str [], .str [], .nils, .nils, .nils, .str d0]]) [.cells [.sl [[.int .i64 1, .int .i64 e, .int .i64 n, .str [], .str []]], .int .i64 3, .int .i64 j.sh, .int .i64 j.ep, .int .i64 j.fr, .int .i64 j.to, .int .i64 0, .int .i64 j.ps, .str j.key, .int .i64 j.ot, .int .i64 j.oe, .int .i64 j.a, .int .i64 j.b, .int .i64 nx, .own 2, .int .i64 0], .dead, .rows 9 ((ps ++ [dt]).map encP)] := by
  refine FnM.mk' base Tryd.func37 rfl rfl rfl rfl ?_
  repeat' ((conv => whnf); (first
   | (with_reducible first | refine AW.seq ?_ | refine AW.region base (by kernel_rfl) ?_ | refine AW.cond ?_ | refine AW.block ?_ | refine AW.ret ?_ | refine AW.exit ?_ | refine AW.skip ?_ | refine Br.t ?_ | refine Br.f ?_)
   | (with_reducible refine Br.mkT (fun hb => (by (first | (simp at hb; done) | omega | (simp only [decide_eq_true_eq, decide_eq_false_iff_not, Bool.not_eq_true', Bool.not_eq_false'] at hb; first | omega | fail) | fail))) (fun hb => ?_))
   | (with_reducible refine Br.mkF (fun hb => (by (first | (simp at hb; done) | omega | (simp only [decide_eq_true_eq, decide_eq_false_iff_not, Bool.not_eq_true', Bool.not_eq_false'] at hb; first | omega | fail) | fail))) (fun hb => ?_))
   | ((with_reducible refine Or.inl ?_); (conv => whnf); (with_reducible refine And.intro LitSl.mk ?_))
   | refine Br.t ?_
   | refine Br.f ?_
   | (with_reducible refine Or.inr ⟨[?_, ?_], _, _, _, _, begins_3o e n nx tc ⟨2, j.sh, j.ep, j.fr, j.to, j.pc, j.ps, j.key, j.ot, j.oe, j.a, j.b⟩ (ps ++ [dt]) (by simp; omega) he 0 d0 (by omega) hd, ?_⟩)
   | (with_reducible refine Or.inr (Or.inr ⟨[?_, ?_], _, _, _, _, begins_3o e n nx tc ⟨2, j.sh, j.ep, j.fr, j.to, j.pc, j.ps, j.key, j.ot, j.oe, j.a, j.b⟩ (ps ++ [dt]) (by simp; omega) he 0 d0 (by omega) hd, ?_⟩))
   | (with_reducible refine Br.mk (fun hb => ?_) (fun hb => ?_) <;> (try rw [hb]) <;> (try simp only [List.length_map, decide_eq_true_eq, decide_eq_false_iff_not, Bool.not_eq_true', Bool.not_eq_false', Int.ofNat_lt, Int.ofNat_le, Int.not_lt, Int.not_le, Int.toNat_natCast] at hb))
   | ((with_reducible first | refine Or.inl (And.intro ?_ ?_) | refine And.intro ?_ ?_); (focus (first | with_reducible rfl | exact trivial | (exact ⟨rfl, trivial⟩) | (exact ⟨rfl, rfl, trivial⟩) | omega | (intro r hr; simp only [List.mem_singleton] at hr; subst hr; rfl)  | ((simp only [in64, maxLen] at *; omega)) | ((simp only [List.length_map]; omega)) | ((exact ⟨by omega, by simp only [List.length_map]; omega⟩)) | (simp only [in64]; omega) | assumption | (simp; done) | (simp [V.cells]; done) | (simp [in64, maxLen, limK] at *; omega) | ((show confB _ _ = true); kernel_rfl) | rfl)))
   | (intro row hrow; (try simp only [Int.toNat_natCast, List.length_map, toNat_pred, toNat_succ', toNat_zero', toNat_one'] at hrow); (first | (have hsm := same_map (by assumption) hrow; subst hsm; clear hrow) | (obtain ⟨p, hp, rfl⟩ := of_map hrow; clear hrow)))))
  all_goals (conv => whnf)
  all_goals (refine ⟨[0, 1, ?_], ?_⟩)
  all_goals (repeat' (first | (with_reducible rfl) | exact trivial | ((conv => whnf); (first | (with_reducible refine And.intro ?_ ?_) | exact trivial | (intro hb; first | (exfalso; simp_all; done) | skip)))))
  all_goals (first | rfl | (simp; done))

set_option maxRecDepth 100000 in
set_option maxHeartbeats 400000 in
theorem goes_12a (e n nx tc : Int) (j : JobV) (ps : List Bs) (hps : ps.length ≤ 10) (he : 0 ≤ j.ep ∧ j.ep ≤ 1000) (hpc : 0 ≤ j.pc ∧ j.pc ≤ 1000) (h1 : j.pc + 1 < j.ps) (dt d1 : Bs) (hd : ps[(j.pc + 1).toNat]? = some d1)  : FnM Tryd.prog 37 [.ptr 0 0, .agg [.int .i64 12, .int .i64 j.to, .int .i64 100, .int .i64 j.sh, .int .i64 (j.ep + 1), .int .i64 j.pc, .int .i64 0, .int .i64 0, .int .i64 0, .str [], .str [], .str [], .int .i64 0, .nils, .int .i64 0, .str [], .int .i64 0, .nils, .str [], .str [], .nils, .nils, .nils, .str dt]] [.cells [.sl [[.int .i64 1, .int .i64 e, .int .i64 n, .str [], .str []]], .int .i64 3, .int .i64 j.sh, .int .i64 j.ep, .int .i64 j.fr, .int .i64 j.to, .int .i64 j.pc, .int .i64 j.ps, .str j.key, .int .i64 j.ot, .int .i64 j.oe, .int .i64 j.a, .int .i64 j.b, .int .i64 nx, .own 1, .int .i64 tc], .rows 9 (ps.map encP)] (.sl [[.int .i64 11, .int .i64 100, .int .i64 j.to, .int .i64 j.sh, .int .i64 (j.ep + 1), .int .i64 (j.pc + 1), .int .i64 0, .int .i64 0, .int .i64 0, .str [], .str [], .str [], .int .i64 0, .nils, .int .i64 0, .str [], .int .i64 0, .nils, .str [], .str [], .nils, .nils, .nils, .str d1]]) [.cells [.sl [[.int .i64 1, .int .i64 e, .int .i64 n, .str [], .str []]], .int .i64 3, .int .i64 j.sh, .int .i64 j.ep, .int .i64 j.fr, .int .i64 j.to, .int .i64 (j.pc + 1), .int .i64 j.ps, .str j.key, .int .i64 j.ot, .int .i64 j.oe, .int .i64 j.a, .int .i64 j.b, .int .i64 nx, .own 1, .int .i64 0], .rows 9 (ps.map encP)] := by
  refine FnM.mk' base Tryd.func37 rfl rfl rfl rfl ?_
  repeat' ((conv => whnf); (first
   | (with_reducible first | refine AW.seq ?_ | refine AW.region base (by kernel_rfl) ?_ | refine AW.cond ?_ | refine AW.block ?_ | refine AW.ret ?_ | refine AW.exit ?_ | refine AW.skip ?_ | refine Br.t ?_ | refine Br.f ?_)
   | (with_reducible refine Br.mkT (fun hb => (by (first | (simp at hb; done) | omega | (simp only [decide_eq_true_eq, decide_eq_false_iff_not, Bool.not_eq_true', Bool.not_eq_false'] at hb; first | omega | fail) | fail))) (fun hb => ?_))
   | (with_reducible refine Br.mkF (fun hb => (by (first | (simp at hb; done) | omega | (simp only [decide_eq_true_eq, decide_eq_false_iff_not, Bool.not_eq_true', Bool.not_eq_false'] at hb; first | omega | fail) | fail))) (fun hb => ?_))
   | ((with_reducible refine Or.inl ?_); (conv => whnf); (with_reducible refine And.intro LitSl.mk ?_))
   | refine Br.t ?_
   | refine Br.f ?_
   | (with_reducible refine Or.inr ⟨[?_, ?_], _, _, _, _, begins_3o e n nx tc ⟨3, j.sh, j.ep, j.fr, j.to, j.pc, j.ps, j.key, j.ot, j.oe, j.a, j.b⟩ ps hps he (j.pc + 1) d1 (by omega) hd, ?_⟩)
   | (with_reducible refine Or.inr (Or.inr ⟨[?_, ?_], _, _, _, _, begins_3o e n nx tc ⟨3, j.sh, j.ep, j.fr, j.to, j.pc, j.ps, j.key, j.ot, j.oe, j.a, j.b⟩ ps hps he (j.pc + 1) d1 (by omega) hd, ?_⟩))
   | (with_reducible refine Br.mk (fun hb => ?_) (fun hb => ?_) <;> (try rw [hb]) <;> (try simp only [List.length_map, decide_eq_true_eq, decide_eq_false_iff_not, Bool.not_eq_true', Bool.not_eq_false', Int.ofNat_lt, Int.ofNat_le, Int.not_lt, Int.not_le, Int.toNat_natCast] at hb))
   | ((with_reducible first | refine Or.inl (And.intro ?_ ?_) | refine And.intro ?_ ?_); (focus (first | with_reducible rfl | exact trivial | (exact ⟨rfl, trivial⟩) | (exact ⟨rfl, rfl, trivial⟩) | omega | (intro r hr; simp only [List.mem_singleton] at hr; subst hr; rfl)  | ((simp only [in64, maxLen] at *; omega)) | ((simp only [List.length_map]; omega)) | ((exact ⟨by omega, by simp only [List.length_map]; omega⟩)) | (simp only [in64]; omega) | assumption | (simp; done) | (simp [V.cells]; done) | (simp [in64, maxLen, limK] at *; omega) | ((show confB _ _ = true); kernel_rfl) | rfl)))
   | (intro row hrow; (try simp only [Int.toNat_natCast, List.length_map, toNat_pred, toNat_succ', toNat_zero', toNat_one'] at hrow); (first | (have hsm := same_map (by assumption) hrow; subst hsm; clear hrow) | (obtain ⟨p, hp, rfl⟩ := of_map hrow; clear hrow)))))
  all_goals (conv => whnf)
  all_goals (refine ⟨[0, 1], ?_⟩)
  all_goals (repeat' (first | (with_reducible rfl) | exact trivial | ((conv => whnf); (first | (with_reducible refine And.intro ?_ ?_) | exact trivial | (intro hb; first | (exfalso; simp_all; done) | skip)))))
  all_goals (first | rfl)

set_option maxRecDepth 100000 in
set_option maxHeartbeats 400000 in
theorem goes_12b (e n nx tc : Int) (j : JobV) (ps : List Bs) (hps : ps.length ≤ 10) (he : 0 ≤ j.ep ∧ j.ep ≤ 1000) (hpc : 0 ≤ j.pc ∧ j.pc ≤ 1000) (h1 : ¬ j.pc + 1 < j.ps) (dt : Bs)  : FnM Tryd.prog 37 [.ptr 0 0, .agg [.int .i64 12, .int .i64 j.to, .int .i64 100, .int .i64 j.sh, .int .i64 (j.ep + 1), .int .i64 j.pc, .int .i64 0, .int .i64 0, .int .i64 0, .str [], .str [], .str [], .int .i64 0, .nils, .int .i64 0, .str [], .int .i64 0, .nils, .str [], .str [], .nils, .nils, .nils, .str dt]] [.cells [.sl [[.int .i64 1, .int .i64 e, .int .i64 n, .str [], .str []]], .int .i64 3, .int .i64 j.sh, .int .i64 j.ep, .int .i64 j.fr, .int .i64 j.to, .int .i64 j.pc, .int .i64 j.ps, .str j.key, .int .i64 j.ot, .int .i64 j.oe, .int .i64 j.a, .int .i64 j.b, .int .i64 nx, .own 1, .int .i64 tc], .rows 9 (ps.map encP)] (.sl [[.int .i64 13, .int .i64 100, .int .i64 j.to, .int .i64 j.sh, .int .i64 (j.ep + 1), .int .i64 j.ps, .int .i64 0, .int .i64 0, .int .i64 0, .str [], .str [], .str [], .int .i64 0, .nils, .int .i64 0, .str [], .int .i64 0, .nils, .str [], .str [], .nils, .nils, .nils, .str []]]) [.cells [.sl [[.int .i64 1, .int .i64 e, .int .i64 n, .str [], .str []]], .int .i64 4, .int .i64 j.sh, .int .i64 j.ep, .int .i64 j.fr, .int .i64 j.to, .int .i64 0, .int .i64 j.ps, .str j.key, .int .i64 j.ot, .int .i64 j.oe, .int .i64 j.a, .int .i64 j.b, .int .i64 nx, .own 1, .int .i64 0], .rows 9 (ps.map encP)] := by
  refine FnM.mk' base Tryd.func37 rfl rfl rfl rfl ?_
  repeat' ((conv => whnf); (first
   | (with_reducible first | refine AW.seq ?_ | refine AW.region base (by kernel_rfl) ?_ | refine AW.cond ?_ | refine AW.block ?_ | refine AW.ret ?_ | refine AW.exit ?_ | refine AW.skip ?_ | refine Br.t ?_ | refine Br.f ?_)
   | (with_reducible refine Br.mkT (fun hb => (by (first | (simp at hb; done) | omega | (simp only [decide_eq_true_eq, decide_eq_false_iff_not, Bool.not_eq_true', Bool.not_eq_false'] at hb; first | omega | fail) | fail))) (fun hb => ?_))
   | (with_reducible refine Br.mkF (fun hb => (by (first | (simp at hb; done) | omega | (simp only [decide_eq_true_eq, decide_eq_false_iff_not, Bool.not_eq_true', Bool.not_eq_false'] at hb; first | omega | fail) | fail))) (fun hb => ?_))
   | ((with_reducible refine Or.inl ?_); (conv => whnf); (with_reducible refine And.intro LitSl.mk ?_))
   | refine Br.t ?_
   | refine Br.f ?_
   | (with_reducible refine Or.inr ⟨[?_, ?_], _, _, _, _, begins_4o e n nx tc ⟨3, j.sh, j.ep, j.fr, j.to, j.pc, j.ps, j.key, j.ot, j.oe, j.a, j.b⟩ ps hps he 0, ?_⟩)
   | (with_reducible refine Or.inr (Or.inr ⟨[?_, ?_], _, _, _, _, begins_4o e n nx tc ⟨3, j.sh, j.ep, j.fr, j.to, j.pc, j.ps, j.key, j.ot, j.oe, j.a, j.b⟩ ps hps he 0, ?_⟩))
   | (with_reducible refine Br.mk (fun hb => ?_) (fun hb => ?_) <;> (try rw [hb]) <;> (try simp only [List.length_map, decide_eq_true_eq, decide_eq_false_iff_not, Bool.not_eq_true', Bool.not_eq_false', Int.ofNat_lt, Int.ofNat_le, Int.not_lt, Int.not_le, Int.toNat_natCast] at hb))
   | ((with_reducible first | refine Or.inl (And.intro ?_ ?_) | refine And.intro ?_ ?_); (focus (first | with_reducible rfl | exact trivial | (exact ⟨rfl, trivial⟩) | (exact ⟨rfl, rfl, trivial⟩) | omega | (intro r hr; simp only [List.mem_singleton] at hr; subst hr; rfl)  | ((simp only [in64, maxLen] at *; omega)) | ((simp only [List.length_map]; omega)) | ((exact ⟨by omega, by simp only [List.length_map]; omega⟩)) | (simp only [in64]; omega) | assumption | (simp; done) | (simp [V.cells]; done) | (simp [in64, maxLen, limK] at *; omega) | ((show confB _ _ = true); kernel_rfl) | rfl)))
   | (intro row hrow; (try simp only [Int.toNat_natCast, List.length_map, toNat_pred, toNat_succ', toNat_zero', toNat_one'] at hrow); (first | (have hsm := same_map (by assumption) hrow; subst hsm; clear hrow) | (obtain ⟨p, hp, rfl⟩ := of_map hrow; clear hrow)))))
  all_goals (conv => whnf)
  all_goals (refine ⟨[0, 1], ?_⟩)
  all_goals (repeat' (first | (with_reducible rfl) | exact trivial | ((conv => whnf); (first | (with_reducible refine And.intro ?_ ?_) | exact trivial | (intro hb; first | (exfalso; simp_all; done) | skip)))))
  all_goals (first | rfl)

set_option maxRecDepth 100000 in
set_option maxHeartbeats 400000 in
theorem goes_14 (e n nx tc : Int) (j : JobV) (ps : List Bs) (hps : ps.length ≤ 10) (he : 0 ≤ j.ep ∧ j.ep ≤ 1000) (dt : Bs)  : FnM Tryd.prog 37 [.ptr 0 0, .agg [.int .i64 14, .int .i64 j.to, .int .i64 100, .int .i64 1, .int .i64 (j.ep + 1), .int .i64 0, .int .i64 0, .int .i64 0, .int .i64 0, .str [], .str [], .str [], .int .i64 0, .nils, .int .i64 0, .str [], .int .i64 0, .nils, .str [], .str [], .nils, .nils, .nils, .str dt]] [.cells [.sl [[.int .i64 1, .int .i64 e, .int .i64 n, .str [], .str []]], .int .i64 4, .int .i64 1, .int .i64 j.ep, .int .i64 j.fr, .int .i64 j.to, .int .i64 j.pc, .int .i64 j.ps, .str j.key, .int .i64 j.ot, .int .i64 j.oe, .int .i64 j.a, .int .i64 j.b, .int .i64 nx, .own 1, .int .i64 tc], .rows 9 (ps.map encP)] (.sl [[.int .i64 17, .int .i64 100, .int .i64 j.fr, .int .i64 1, .int .i64 j.ep, .int .i64 0, .int .i64 0, .int .i64 0, .int .i64 0, .str [], .str [], .str [], .int .i64 0, .nils, .int .i64 0, .str [], .int .i64 0, .nils, .str [], .str [], .nils, .nils, .nils, .str []]]) [.cells [.sl [[.int .i64 1, .int .i64 (j.ep + 1), .int .i64 j.to, .str [], .str []]], .int .i64 5, .int .i64 1, .int .i64 j.ep, .int .i64 j.fr, .int .i64 j.to, .int .i64 0, .int .i64 j.ps, .str j.key, .int .i64 j.ot, .int .i64 j.oe, .int .i64 j.a, .int .i64 j.b, .int .i64 nx, .own 1, .int .i64 0], .rows 9 (ps.map encP)] := by
  refine FnM.mk' base Tryd.func37 rfl rfl rfl rfl ?_
  repeat' ((conv => whnf); (first
   | (with_reducible first | refine AW.seq ?_ | refine AW.region base (by kernel_rfl) ?_ | refine AW.cond ?_ | refine AW.block ?_ | refine AW.ret ?_ | refine AW.exit ?_ | refine AW.skip ?_ | refine Br.t ?_ | refine Br.f ?_)
   | (with_reducible refine Br.mkT (fun hb => (by (first | (simp at hb; done) | omega | (simp only [decide_eq_true_eq, decide_eq_false_iff_not, Bool.not_eq_true', Bool.not_eq_false'] at hb; first | omega | fail) | fail))) (fun hb => ?_))
   | (with_reducible refine Br.mkF (fun hb => (by (first | (simp at hb; done) | omega | (simp only [decide_eq_true_eq, decide_eq_false_iff_not, Bool.not_eq_true', Bool.not_eq_false'] at hb; first | omega | fail) | fail))) (fun hb => ?_))
   | ((with_reducible refine Or.inl ?_); (conv => whnf); (with_reducible refine And.intro LitSl.mk ?_))
   | refine Br.t ?_
   | refine Br.f ?_
   | ((with_reducible refine Or.inl ?_); (conv => whnf); (first | (with_reducible first | refine ⟨_, planMove_fn e n (j.ep + 1) j.to, ?_⟩)))
   | (with_reducible refine Or.inr ⟨[?_, ?_], _, _, _, _, begins_5o (j.ep + 1) j.to nx tc ⟨4, 1, j.ep, j.fr, j.to, j.pc, j.ps, j.key, j.ot, j.oe, j.a, j.b⟩ ps hps he 0, ?_⟩)
   | (with_reducible refine Or.inr (Or.inr ⟨[?_, ?_], _, _, _, _, begins_5o (j.ep + 1) j.to nx tc ⟨4, 1, j.ep, j.fr, j.to, j.pc, j.ps, j.key, j.ot, j.oe, j.a, j.b⟩ ps hps he 0, ?_⟩))
   | (with_reducible refine Br.mk (fun hb => ?_) (fun hb => ?_) <;> (try rw [hb]) <;> (try simp only [List.length_map, decide_eq_true_eq, decide_eq_false_iff_not, Bool.not_eq_true', Bool.not_eq_false', Int.ofNat_lt, Int.ofNat_le, Int.not_lt, Int.not_le, Int.toNat_natCast] at hb))
   | ((with_reducible first | refine Or.inl (And.intro ?_ ?_) | refine And.intro ?_ ?_); (focus (first | with_reducible rfl | exact trivial | (exact ⟨rfl, trivial⟩) | (exact ⟨rfl, rfl, trivial⟩) | omega | (intro r hr; simp only [List.mem_singleton] at hr; subst hr; rfl)  | ((simp only [in64, maxLen] at *; omega)) | ((simp only [List.length_map]; omega)) | ((exact ⟨by omega, by simp only [List.length_map]; omega⟩)) | (simp only [in64]; omega) | assumption | (simp; done) | (simp [V.cells]; done) | (simp [in64, maxLen, limK] at *; omega) | ((show confB _ _ = true); kernel_rfl) | rfl)))
   | (intro row hrow; (try simp only [Int.toNat_natCast, List.length_map, toNat_pred, toNat_succ', toNat_zero', toNat_one'] at hrow); (first | (have hsm := same_map (by assumption) hrow; subst hsm; clear hrow) | (obtain ⟨p, hp, rfl⟩ := of_map hrow; clear hrow)))))
  all_goals (conv => whnf)
  all_goals (refine ⟨[0, 1], ?_⟩)
  all_goals (repeat' (first | (with_reducible rfl) | exact trivial | ((conv => whnf); (first | (with_reducible refine And.intro ?_ ?_) | exact trivial | (intro hb; first | (exfalso; simp_all; done) | skip)))))
  all_goals (first | rfl)

set_option maxRecDepth 100000 in
set_option maxHeartbeats 400000 in
theorem ends_o (e n nx tc : Int) (j : JobV) (ps : List Bs) (hps : ps.length ≤ 10)  : FnM Tryd.prog 61 [.ptr 0 0] [.cells [.sl [[.int .i64 1, .int .i64 e, .int .i64 n, .str [], .str []]], .int .i64 j.ph, .int .i64 j.sh, .int .i64 j.ep, .int .i64 j.fr, .int .i64 j.to, .int .i64 j.pc, .int .i64 j.ps, .str j.key, .int .i64 j.ot, .int .i64 j.oe, .int .i64 j.a, .int .i64 j.b, .int .i64 nx, .own 1, .int .i64 tc], .rows 9 (ps.map encP)] (.nils) [.cells [.sl [[.int .i64 1, .int .i64 e, .int .i64 n, .str [], .str []]], .int .i64 0, .int .i64 0, .int .i64 0, .int .i64 0, .int .i64 0, .int .i64 0, .int .i64 0, .str [], .int .i64 0, .int .i64 0, .int .i64 0, .int .i64 0, .int .i64 nx, .nils, .int .i64 0], .rows 9 (ps.map encP)] := by
  refine FnM.mk' base Tryd.func61 rfl rfl rfl rfl ?_
  repeat' ((conv => whnf); (first
   | (with_reducible first | refine AW.seq ?_ | refine AW.region base (by kernel_rfl) ?_ | refine AW.cond ?_ | refine AW.block ?_ | refine AW.ret ?_ | refine AW.exit ?_ | refine AW.skip ?_ | refine Br.t ?_ | refine Br.f ?_)
   | (with_reducible refine Br.mkT (fun hb => (by (first | (simp at hb; done) | omega | (simp only [decide_eq_true_eq, decide_eq_false_iff_not, Bool.not_eq_true', Bool.not_eq_false'] at hb; first | omega | fail) | fail))) (fun hb => ?_))
   | (with_reducible refine Br.mkF (fun hb => (by (first | (simp at hb; done) | omega | (simp only [decide_eq_true_eq, decide_eq_false_iff_not, Bool.not_eq_true', Bool.not_eq_false'] at hb; first | omega | fail) | fail))) (fun hb => ?_))
   | ((with_reducible refine Or.inl ?_); (conv => whnf); (with_reducible refine And.intro LitSl.mk ?_))
   | refine Br.t ?_
   | refine Br.f ?_
   | (with_reducible refine Br.mk (fun hb => ?_) (fun hb => ?_) <;> (try rw [hb]) <;> (try simp only [List.length_map, decide_eq_true_eq, decide_eq_false_iff_not, Bool.not_eq_true', Bool.not_eq_false', Int.ofNat_lt, Int.ofNat_le, Int.not_lt, Int.not_le, Int.toNat_natCast] at hb))
   | ((with_reducible first | refine Or.inl (And.intro ?_ ?_) | refine And.intro ?_ ?_); (focus (first | with_reducible rfl | exact trivial | (exact ⟨rfl, trivial⟩) | (exact ⟨rfl, rfl, trivial⟩) | omega | (intro r hr; simp only [List.mem_singleton] at hr; subst hr; rfl)  | ((simp only [in64, maxLen] at *; omega)) | ((simp only [List.length_map]; omega)) | ((exact ⟨by omega, by simp only [List.length_map]; omega⟩)) | (simp only [in64]; omega) | assumption | (simp; done) | (simp [V.cells]; done) | (simp [in64, maxLen, limK] at *; omega) | ((show confB _ _ = true); kernel_rfl) | rfl)))
   | (intro row hrow; (try simp only [Int.toNat_natCast, List.length_map, toNat_pred, toNat_succ', toNat_zero', toNat_one'] at hrow); (first | (have hsm := same_map (by assumption) hrow; subst hsm; clear hrow) | (obtain ⟨p, hp, rfl⟩ := of_map hrow; clear hrow)))))
  all_goals (conv => whnf)
  all_goals (refine ⟨[0, 1], ?_⟩)
  all_goals (repeat' (first | (with_reducible rfl) | exact trivial | ((conv => whnf); (first | (with_reducible refine And.intro ?_ ?_) | exact trivial | (intro hb; first | (exfalso; simp_all; done) | skip)))))
  all_goals (first | rfl)

set_option maxRecDepth 100000 in
set_option maxHeartbeats 400000 in
theorem goes_18 (e n nx tc : Int) (j : JobV) (ps : List Bs) (hps : ps.length ≤ 10) (he : 0 ≤ j.ep ∧ j.ep ≤ 1000) (x2 : Int) (dt : Bs)  : FnM Tryd.prog 37 [.ptr 0 0, .agg [.int .i64 18, .int .i64 j.fr, .int .i64 100, .int .i64 j.sh, .int .i64 j.ep, .int .i64 x2, .int .i64 0, .int .i64 0, .int .i64 0, .str [], .str [], .str [], .int .i64 0, .nils, .int .i64 0, .str [], .int .i64 0, .nils, .str [], .str [], .nils, .nils, .nils, .str dt]] [.cells [.sl [[.int .i64 1, .int .i64 e, .int .i64 n, .str [], .str []]], .int .i64 5, .int .i64 j.sh, .int .i64 j.ep, .int .i64 j.fr, .int .i64 j.to, .int .i64 j.pc, .int .i64 j.ps, .str j.key, .int .i64 j.ot, .int .i64 j.oe, .int .i64 j.a, .int .i64 j.b, .int .i64 nx, .own 1, .int .i64 tc], .rows 9 (ps.map encP)] (.nils) [.cells [.sl [[.int .i64 1, .int .i64 e, .int .i64 n, .str [], .str []]], .int .i64 0, .int .i64 0, .int .i64 0, .int .i64 0, .int .i64 0, .int .i64 0, .int .i64 0, .str [], .int .i64 0, .int .i64 0, .int .i64 0, .int .i64 0, .int .i64 nx, .nils, .int .i64 0], .rows 9 (ps.map encP)] := by
  refine FnM.mk' base Tryd.func37 rfl rfl rfl rfl ?_
  repeat' ((conv => whnf); (first
   | (with_reducible first | refine AW.seq ?_ | refine AW.region base (by kernel_rfl) ?_ | refine AW.cond ?_ | refine AW.block ?_ | refine AW.ret ?_ | refine AW.exit ?_ | refine AW.skip ?_ | refine Br.t ?_ | refine Br.f ?_)
   | (with_reducible refine Br.mkT (fun hb => (by (first | (simp at hb; done) | omega | (simp only [decide_eq_true_eq, decide_eq_false_iff_not, Bool.not_eq_true', Bool.not_eq_false'] at hb; first | omega | fail) | fail))) (fun hb => ?_))
   | (with_reducible refine Br.mkF (fun hb => (by (first | (simp at hb; done) | omega | (simp only [decide_eq_true_eq, decide_eq_false_iff_not, Bool.not_eq_true', Bool.not_eq_false'] at hb; first | omega | fail) | fail))) (fun hb => ?_))
   | ((with_reducible refine Or.inl ?_); (conv => whnf); (with_reducible refine And.intro LitSl.mk ?_))
   | refine Br.t ?_
   | refine Br.f ?_
   | (with_reducible refine Or.inr ⟨[?_, ?_], _, _, _, _, ends_o e n nx tc ⟨5, j.sh, j.ep, j.fr, j.to, j.pc, j.ps, j.key, j.ot, j.oe, j.a, j.b⟩ ps hps, ?_⟩)
   | (with_reducible refine Or.inr (Or.inr ⟨[?_, ?_], _, _, _, _, ends_o e n nx tc ⟨5, j.sh, j.ep, j.fr, j.to, j.pc, j.ps, j.key, j.ot, j.oe, j.a, j.b⟩ ps hps, ?_⟩))
   | (with_reducible refine Br.mk (fun hb => ?_) (fun hb => ?_) <;> (try rw [hb]) <;> (try simp only [List.length_map, decide_eq_true_eq, decide_eq_false_iff_not, Bool.not_eq_true', Bool.not_eq_false', Int.ofNat_lt, Int.ofNat_le, Int.not_lt, Int.not_le, Int.toNat_natCast] at hb))
   | ((with_reducible first | refine Or.inl (And.intro ?_ ?_) | refine And.intro ?_ ?_); (focus (first | with_reducible rfl | exact trivial | (exact ⟨rfl, trivial⟩) | (exact ⟨rfl, rfl, trivial⟩) | omega | (intro r hr; simp only [List.mem_singleton] at hr; subst hr; rfl)  | ((simp only [in64, maxLen] at *; omega)) | ((simp only [List.length_map]; omega)) | ((exact ⟨by omega, by simp only [List.length_map]; omega⟩)) | (simp only [in64]; omega) | assumption | (simp; done) | (simp [V.cells]; done) | (simp [in64, maxLen, limK] at *; omega) | ((show confB _ _ = true); kernel_rfl) | rfl)))
   | (intro row hrow; (try simp only [Int.toNat_natCast, List.length_map, toNat_pred, toNat_succ', toNat_zero', toNat_one'] at hrow); (first | (have hsm := same_map (by assumption) hrow; subst hsm; clear hrow) | (obtain ⟨p, hp, rfl⟩ := of_map hrow; clear hrow)))))
  all_goals (conv => whnf)
  all_goals (refine ⟨[0, 1], ?_⟩)
  all_goals (repeat' (first | (with_reducible rfl) | exact trivial | ((conv => whnf); (first | (with_reducible refine And.intro ?_ ?_) | exact trivial | (intro hb; first | (exfalso; simp_all; done) | skip)))))
  all_goals (first | rfl)

set_option maxRecDepth 100000 in
set_option maxHeartbeats 400000 in
theorem fits_1d (e n nx tc : Int) (j : JobV) (he : 0 ≤ j.ep ∧ j.ep ≤ 1000) (x2 : Int) (dt : Bs)  : FnM Tryd.prog 36 [.ptr 0 0, .agg [.int .i64 8, .int .i64 j.fr, .int .i64 100, .int .i64 j.sh, .int .i64 j.ep, .int .i64 x2, .int .i64 0, .int .i64 0, .int .i64 0, .str [], .str [], .str [], .int .i64 0, .nils, .int .i64 0, .str [], .int .i64 0, .nils, .str [], .str [], .nils, .nils, .nils, .str dt]] [.cells [.sl [[.int .i64 1, .int .i64 e, .int .i64 n, .str [], .str []]], .int .i64 1, .int .i64 j.sh, .int .i64 j.ep, .int .i64 j.fr, .int .i64 j.to, .int .i64 j.pc, .int .i64 j.ps, .str j.key, .int .i64 j.ot, .int .i64 j.oe, .int .i64 j.a, .int .i64 j.b, .int .i64 nx, .nils, .int .i64 tc]] (.bool true) [.cells [.sl [[.int .i64 1, .int .i64 e, .int .i64 n, .str [], .str []]], .int .i64 1, .int .i64 j.sh, .int .i64 j.ep, .int .i64 j.fr, .int .i64 j.to, .int .i64 j.pc, .int .i64 j.ps, .str j.key, .int .i64 j.ot, .int .i64 j.oe, .int .i64 j.a, .int .i64 j.b, .int .i64 nx, .nils, .int .i64 tc]] := by
  refine FnM.mk' base Tryd.func36 rfl rfl rfl rfl ?_
  repeat' ((conv => whnf); (first
   | (with_reducible first | refine AW.seq ?_ | refine AW.region base (by kernel_rfl) ?_ | refine AW.cond ?_ | refine AW.block ?_ | refine AW.ret ?_ | refine AW.exit ?_ | refine AW.skip ?_ | refine Br.t ?_ | refine Br.f ?_)
   | (with_reducible refine Br.mkT (fun hb => (by (first | (simp at hb; done) | omega | (simp only [decide_eq_true_eq, decide_eq_false_iff_not, Bool.not_eq_true', Bool.not_eq_false'] at hb; first | omega | fail) | fail))) (fun hb => ?_))
   | (with_reducible refine Br.mkF (fun hb => (by (first | (simp at hb; done) | omega | (simp only [decide_eq_true_eq, decide_eq_false_iff_not, Bool.not_eq_true', Bool.not_eq_false'] at hb; first | omega | fail) | fail))) (fun hb => ?_))
   | ((with_reducible refine Or.inl ?_); (conv => whnf); (with_reducible refine And.intro LitSl.mk ?_))
   | refine Br.t ?_
   | refine Br.f ?_
   | (intro row hrow; have e0 := Option.some.inj (show some _ = some row from hrow); subst e0)
   | ((with_reducible refine Or.inl ?_); (conv => whnf); (first | (with_reducible first | refine ⟨_, ans_fn 7 (by decide) (by decide), ?_⟩)))
   | (with_reducible refine Or.inr ⟨[?_], _, _, _, _, says_1 e n nx tc j he, ?_⟩)
   | (with_reducible refine Or.inr (Or.inr ⟨[?_], _, _, _, _, says_1 e n nx tc j he, ?_⟩))
   | (with_reducible refine Br.mk (fun hb => ?_) (fun hb => ?_) <;> (try rw [hb]) <;> (try simp only [List.length_map, decide_eq_true_eq, decide_eq_false_iff_not, Bool.not_eq_true', Bool.not_eq_false', Int.ofNat_lt, Int.ofNat_le, Int.not_lt, Int.not_le, Int.toNat_natCast] at hb))
   | ((with_reducible first | refine Or.inl (And.intro ?_ ?_) | refine And.intro ?_ ?_); (focus (first | with_reducible rfl | exact trivial | (exact ⟨rfl, trivial⟩) | (exact ⟨rfl, rfl, trivial⟩) | omega | (intro r hr; simp only [List.mem_singleton] at hr; subst hr; rfl)  | ((simp only [in64, maxLen] at *; omega)) | ((simp only [List.length_map]; omega)) | ((exact ⟨by omega, by simp only [List.length_map]; omega⟩)) | (simp only [in64]; omega) | assumption | (simp; done) | (simp [V.cells]; done) | (simp [in64, maxLen, limK] at *; omega) | ((show confB _ _ = true); kernel_rfl) | rfl)))
   | (intro row hrow; (try simp only [Int.toNat_natCast, List.length_map, toNat_pred, toNat_succ', toNat_zero', toNat_one'] at hrow); (first | (have hsm := same_map (by assumption) hrow; subst hsm; clear hrow) | (obtain ⟨p, hp, rfl⟩ := of_map hrow; clear hrow)))))
  all_goals (conv => whnf)
  all_goals (refine ⟨[0], ?_⟩)
  all_goals (repeat' (first | (with_reducible rfl) | exact trivial | ((conv => whnf); (first | (with_reducible refine And.intro ?_ ?_) | exact trivial | (intro hb; first | (exfalso; simp_all; done) | skip)))))
  all_goals (first | rfl)

set_option maxRecDepth 100000 in
set_option maxHeartbeats 400000 in
theorem take_8o (e n nx tc : Int) (j : JobV) (he : 0 ≤ j.ep ∧ j.ep ≤ 1000) (x2 : Int) (hx : 1 ≤ x2) (dt : Bs)  : FnM Tryd.prog 14 [.ptr 0 0, .agg [.int .i64 8, .int .i64 j.fr, .int .i64 100, .int .i64 j.sh, .int .i64 j.ep, .int .i64 x2, .int .i64 0, .int .i64 0, .int .i64 0, .str [], .str [], .str [], .int .i64 0, .nils, .int .i64 0, .str [], .int .i64 0, .nils, .str [], .str [], .nils, .nils, .nils, .str dt]] [.cells [.sl [[.int .i64 1, .int .i64 e, .int .i64 n, .str [], .str []]], .int .i64 1, .int .i64 j.sh, .int .i64 j.ep, .int .i64 j.fr, .int .i64 j.to, .int .i64 j.pc, .int .i64 j.ps, .str j.key, .int .i64 j.ot, .int .i64 j.oe, .int .i64 j.a, .int .i64 j.b, .int .i64 nx, .nils, .int .i64 tc]] (.sl [[.int .i64 9, .int .i64 100, .int .i64 j.fr, .int .i64 j.sh, .int .i64 j.ep, .int .i64 0, .int .i64 0, .int .i64 0, .int .i64 0, .str [], .str [], .str [], .int .i64 0, .nils, .int .i64 0, .str [], .int .i64 0, .nils, .str [], .str [], .nils, .nils, .nils, .str []]]) [.cells [.sl [[.int .i64 1, .int .i64 e, .int .i64 n, .str [], .str []]], .int .i64 2, .int .i64 j.sh, .int .i64 j.ep, .int .i64 j.fr, .int .i64 j.to, .int .i64 0, .int .i64 x2, .str j.key, .int .i64 j.ot, .int .i64 j.oe, .int .i64 j.a, .int .i64 j.b, .int .i64 nx, .own 1, .int .i64 0], .rows 9 (([] : List Bs).map encP)] := by
  refine FnM.mk' base Tryd.func14 rfl rfl rfl rfl ?_
  repeat' ((conv => whnf); (first
   | (with_reducible first | refine AW.seq ?_ | refine AW.region base (by kernel_rfl) ?_ | refine AW.cond ?_ | refine AW.block ?_ | refine AW.ret ?_ | refine AW.exit ?_ | refine AW.skip ?_ | refine Br.t ?_ | refine Br.f ?_)
   | (with_reducible refine Br.mkT (fun hb => (by (first | (simp at hb; done) | omega | (simp only [decide_eq_true_eq, decide_eq_false_iff_not, Bool.not_eq_true', Bool.not_eq_false'] at hb; first | omega | fail) | fail))) (fun hb => ?_))
   | (with_reducible refine Br.mkF (fun hb => (by (first | (simp at hb; done) | omega | (simp only [decide_eq_true_eq, decide_eq_false_iff_not, Bool.not_eq_true', Bool.not_eq_false'] at hb; first | omega | fail) | fail))) (fun hb => ?_))
   | ((with_reducible refine Or.inl ?_); (conv => whnf); (with_reducible refine And.intro LitSl.mk ?_))
   | refine Br.t ?_
   | refine Br.f ?_
   | (with_reducible refine Or.inr ⟨[?_], _, _, _, _, fits_1d e n nx tc j he x2 dt, ?_⟩)
   | (with_reducible refine Or.inr (Or.inr ⟨[?_], _, _, _, _, fits_1d e n nx tc j he x2 dt, ?_⟩))
   | (with_reducible refine Or.inr ⟨[?_], _, _, _, _, goes_8o e n nx tc j he x2 hx dt, ?_⟩)
   | (with_reducible refine Or.inr (Or.inr ⟨[?_], _, _, _, _, goes_8o e n nx tc j he x2 hx dt, ?_⟩))
   | (with_reducible refine Br.mk (fun hb => ?_) (fun hb => ?_) <;> (try rw [hb]) <;> (try simp only [List.length_map, decide_eq_true_eq, decide_eq_false_iff_not, Bool.not_eq_true', Bool.not_eq_false', Int.ofNat_lt, Int.ofNat_le, Int.not_lt, Int.not_le, Int.toNat_natCast] at hb))
   | ((with_reducible first | refine Or.inl (And.intro ?_ ?_) | refine And.intro ?_ ?_); (focus (first | with_reducible rfl | exact trivial | (exact ⟨rfl, trivial⟩) | (exact ⟨rfl, rfl, trivial⟩) | omega | (intro r hr; simp only [List.mem_singleton] at hr; subst hr; rfl)  | ((simp only [in64, maxLen] at *; omega)) | ((simp only [List.length_map]; omega)) | ((exact ⟨by omega, by simp only [List.length_map]; omega⟩)) | (simp only [in64]; omega) | assumption | (simp; done) | (simp [V.cells]; done) | (simp [in64, maxLen, limK] at *; omega) | ((show confB _ _ = true); kernel_rfl) | rfl)))
   | (intro row hrow; (try simp only [Int.toNat_natCast, List.length_map, toNat_pred, toNat_succ', toNat_zero', toNat_one'] at hrow); (first | (have hsm := same_map (by assumption) hrow; subst hsm; clear hrow) | (obtain ⟨p, hp, rfl⟩ := of_map hrow; clear hrow)))))
  all_goals (conv => whnf)
  all_goals (refine ⟨[0, ?_], ?_⟩)
  all_goals (repeat' (first | (with_reducible rfl) | exact trivial | ((conv => whnf); (first | (with_reducible refine And.intro ?_ ?_) | exact trivial | (intro hb; first | (exfalso; simp_all; done) | skip)))))
  all_goals (first | rfl)

set_option maxRecDepth 100000 in
set_option maxHeartbeats 400000 in
theorem take_10a (e n nx tc : Int) (j : JobV) (ps : List Bs) (hps : ps.length ≤ 9) (he : 0 ≤ j.ep ∧ j.ep ≤ 1000) (hpc : 0 ≤ j.pc ∧ j.pc ≤ 1000) (h1 : j.pc + 1 < j.ps) (dt : Bs)  : FnM Tryd.prog 14 [.ptr 0 0, .agg [.int .i64 10, .int .i64 j.fr, .int .i64 100, .int .i64 j.sh, .int .i64 j.ep, .int .i64 j.pc, .int .i64 0, .int .i64 0, .int .i64 0, .str [], .str [], .str [], .int .i64 0, .nils, .int .i64 0, .str [], .int .i64 0, .nils, .str [], .str [], .nils, .nils, .nils, .str dt]] [.cells [.sl [[.int .i64 1, .int .i64 e, .int .i64 n, .str [], .str []]], .int .i64 2, .int .i64 j.sh, .int .i64 j.ep, .int .i64 j.fr, .int .i64 j.to, .int .i64 j.pc, .int .i64 j.ps, .str j.key, .int .i64 j.ot, .int .i64 j.oe, .int .i64 j.a, .int .i64 j.b, .int .i64 nx, .own 1, .int .i64 tc], .rows 9 (ps.map encP)] (.sl [[.int .i64 9, .int .i64 100, .int .i64 j.fr, .int .i64 j.sh, .int .i64 j.ep, .int .i64 (j.pc + 1), .int .i64 0, .int .i64 0, .int .i64 0, .str [], .str [], .str [], .int .i64 0, .nils, .int .i64 0, .str [], .int .i64 0, .nils, .str [], .str [], .nils, .nils, .nils, .str []]]) [.cells [.sl [[.int .i64 1, .int .i64 e, .int .i64 n, .str [], .str []]], .int .i64 2, .int .i64 j.sh, .int .i64 j.ep, .int .i64 j.fr, .int .i64 j.to, .int .i64 (j.pc + 1), .int .i64 j.ps, .str j.key, .int .i64 j.ot, .int .i64 j.oe, .int .i64 j.a, .int .i64 j.b, .int .i64 nx, .own 2, .int .i64 0], .dead, .rows 9 ((ps ++ [dt]).map encP)] := by
  refine FnM.mk' base Tryd.func14 rfl rfl rfl rfl ?_
  repeat' ((conv => whnf); (first
   | (with_reducible first | refine AW.seq ?_ | refine AW.region base (by kernel_rfl) ?_ | refine AW.cond ?_ | refine AW.block ?_ | refine AW.ret ?_ | refine AW.exit ?_ | refine AW.skip ?_ | refine Br.t ?_ | refine Br.f ?_)
   | (with_reducible refine Br.mkT (fun hb => (by (first | (simp at hb; done) | omega | (simp only [decide_eq_true_eq, decide_eq_false_iff_not, Bool.not_eq_true', Bool.not_eq_false'] at hb; first | omega | fail) | fail))) (fun hb => ?_))
   | (with_reducible refine Br.mkF (fun hb => (by (first | (simp at hb; done) | omega | (simp only [decide_eq_true_eq, decide_eq_false_iff_not, Bool.not_eq_true', Bool.not_eq_false'] at hb; first | omega | fail) | fail))) (fun hb => ?_))
   | ((with_reducible refine Or.inl ?_); (conv => whnf); (with_reducible refine And.intro LitSl.mk ?_))
   | refine Br.t ?_
   | refine Br.f ?_
   | (with_reducible refine Or.inr ⟨[?_, ?_], _, _, _, _, fits_2o e n nx tc j ps (by omega) he 0 dt, ?_⟩)
   | (with_reducible refine Or.inr (Or.inr ⟨[?_, ?_], _, _, _, _, fits_2o e n nx tc j ps (by omega) he 0 dt, ?_⟩))
   | (with_reducible refine Or.inr ⟨[?_, ?_], _, _, _, _, goes_10a e n nx tc j ps hps he hpc h1 dt, ?_⟩)
   | (with_reducible refine Or.inr (Or.inr ⟨[?_, ?_], _, _, _, _, goes_10a e n nx tc j ps hps he hpc h1 dt, ?_⟩))
   | (with_reducible refine Br.mk (fun hb => ?_) (fun hb => ?_) <;> (try rw [hb]) <;> (try simp only [List.length_map, decide_eq_true_eq, decide_eq_false_iff_not, Bool.not_eq_true', Bool.not_eq_false', Int.ofNat_lt, Int.ofNat_le, Int.not_lt, Int.not_le, Int.toNat_natCast] at hb))
   | ((with_reducible first | refine Or.inl (And.intro ?_ ?_) | refine And.intro ?_ ?_); (focus (first | with_reducible rfl | exact trivial | (exact ⟨rfl, trivial⟩) | (exact ⟨rfl, rfl, trivial⟩) | omega | (intro r hr; simp only [List.mem_singleton] at hr; subst hr; rfl)  | ((simp only [in64, maxLen] at *; omega)) | ((simp only [List.length_map]; omega)) | ((exact ⟨by omega, by simp only [List.length_map]; omega⟩)) | (simp only [in64]; omega) | assumption | (simp; done) | (simp [V.cells]; done) | (simp [in64, maxLen, limK] at *; omega) | ((show confB _ _ = true); kernel_rfl) | rfl)))
   | (intro row hrow; (try simp only [Int.toNat_natCast, List.length_map, toNat_pred, toNat_succ', toNat_zero', toNat_one'] at hrow); (first | (have hsm := same_map (by assumption) hrow; subst hsm; clear hrow) | (obtain ⟨p, hp, rfl⟩ := of_map hrow; clear hrow)))))
  all_goals (conv => whnf)
  all_goals (refine ⟨[0, 1, ?_], ?_⟩)
  all_goals (repeat' (first | (with_reducible rfl) | exact trivial | ((conv => whnf); (first | (with_reducible refine And.intro ?_ ?_) | exact trivial | (intro hb; first | (exfalso; simp_all; done) | skip)))))
  all_goals (first | rfl)

set_option maxRecDepth 100000 in
set_option maxHeartbeats 400000 in
theorem take_10b (e n nx tc : Int) (j : JobV) (ps : List Bs) (hps : ps.length ≤ 9) (he : 0 ≤ j.ep ∧ j.ep ≤ 1000) (hpc : 0 ≤ j.pc ∧ j.pc ≤ 1000) (h1 : ¬ j.pc + 1 < j.ps) (dt d0 : Bs) (hd : (ps ++ [dt])[(0 : Int).toNat]? = some d0)  : FnM Tryd.prog 14 [.ptr 0 0, .agg [.int .i64 10, .int .i64 j.fr, .int .i64 100, .int .i64 j.sh, .int .i64 j.ep, .int .i64 j.pc, .int .i64 0, .int .i64 0, .int .i64 0, .str [], .str [], .str [], .int .i64 0, .nils, .int .i64 0, .str [], .int .i64 0, .nils, .str [], .str [], .nils, .nils, .nils, .str dt]] [.cells [.sl [[.int .i64 1, .int .i64 e, .int .i64 n, .str [], .str []]], .int .i64 2, .int .i64 j.sh, .int .i64 j.ep, .int .i64 j.fr, .int .i64 j.to, .int .i64 j.pc, .int .i64 j.ps, .str j.key, .int .i64 j.ot, .int .i64 j.oe, .int .i64 j.a, .int .i64 j.b, .int .i64 nx, .own 1, .int .i64 tc], .rows 9 (ps.map encP)] (.sl [[.int .i64 11, .int .i64 100, .int .i64 j.to, .int .i64 j.sh, .int .i64 (j.ep + 1), .int .i64 0, .int .i64 0, .int .i64 0, .int .i64 0, .str [], .str [], .str [], .int .i64 0, .nils, .int .i64 0, .str [], .int .i64 0, .nils, .str [], .str [], .nils, .nils, .nils, .str d0]]) [.cells [.sl [[.int .i64 1, .int .i64 e, .int .i64 n, .str [], .str []]], .int .i64 3, .int .i64 j.sh, .int .i64 j.ep, .int .i64 j.fr, .int .i64 j.to, .int .i64 0, .int .i64 j.ps, .str j.key, .int .i64 j.ot, .int .i64 j.oe, .int .i64 j.a, .int .i64 j.b, .int .i64 nx, .own 2, .int .i64 0], .dead, .rows 9 ((ps ++ [dt]).map encP)] := by
  refine FnM.mk' base Tryd.func14 rfl rfl rfl rfl ?_
  repeat' ((conv => whnf); (first
   | (with_reducible first | refine AW.seq ?_ | refine AW.region base (by kernel_rfl) ?_ | refine AW.cond ?_ | refine AW.block ?_ | refine AW.ret ?_ | refine AW.exit ?_ | refine AW.skip ?_ | refine Br.t ?_ | refine Br.f ?_)
   | (with_reducible refine Br.mkT (fun hb => (by (first | (simp at hb; done) | omega | (simp only [decide_eq_true_eq, decide_eq_false_iff_not, Bool.not_eq_true', Bool.not_eq_false'] at hb; first | omega | fail) | fail))) (fun hb => ?_))
   | (with_reducible refine Br.mkF (fun hb => (by (first | (simp at hb; done) | omega | (simp only [decide_eq_true_eq, decide_eq_false_iff_not, Bool.not_eq_true', Bool.not_eq_false'] at hb; first | omega | fail) | fail))) (fun hb => ?_))
   | ((with_reducible refine Or.inl ?_); (conv => whnf); (with_reducible refine And.intro LitSl.mk ?_))
   | refine Br.t ?_
   | refine Br.f ?_
   | (with_reducible refine Or.inr ⟨[?_, ?_], _, _, _, _, fits_2o e n nx tc j ps (by omega) he 0 dt, ?_⟩)
   | (with_reducible refine Or.inr (Or.inr ⟨[?_, ?_], _, _, _, _, fits_2o e n nx tc j ps (by omega) he 0 dt, ?_⟩))
   | (with_reducible refine Or.inr ⟨[?_, ?_], _, _, _, _, goes_10b e n nx tc j ps hps he hpc h1 dt d0 hd, ?_⟩)
   | (with_reducible refine Or.inr (Or.inr ⟨[?_, ?_], _, _, _, _, goes_10b e n nx tc j ps hps he hpc h1 dt d0 hd, ?_⟩))
   | (with_reducible refine Br.mk (fun hb => ?_) (fun hb => ?_) <;> (try rw [hb]) <;> (try simp only [List.length_map, decide_eq_true_eq, decide_eq_false_iff_not, Bool.not_eq_true', Bool.not_eq_false', Int.ofNat_lt, Int.ofNat_le, Int.not_lt, Int.not_le, Int.toNat_natCast] at hb))
   | ((with_reducible first | refine Or.inl (And.intro ?_ ?_) | refine And.intro ?_ ?_); (focus (first | with_reducible rfl | exact trivial | (exact ⟨rfl, trivial⟩) | (exact ⟨rfl, rfl, trivial⟩) | omega | (intro r hr; simp only [List.mem_singleton] at hr; subst hr; rfl)  | ((simp only [in64, maxLen] at *; omega)) | ((simp only [List.length_map]; omega)) | ((exact ⟨by omega, by simp only [List.length_map]; omega⟩)) | (simp only [in64]; omega) | assumption | (simp; done) | (simp [V.cells]; done) | (simp [in64, maxLen, limK] at *; omega) | ((show confB _ _ = true); kernel_rfl) | rfl)))
   | (intro row hrow; (try simp only [Int.toNat_natCast, List.length_map, toNat_pred, toNat_succ', toNat_zero', toNat_one'] at hrow); (first | (have hsm := same_map (by assumption) hrow; subst hsm; clear hrow) | (obtain ⟨p, hp, rfl⟩ := of_map hrow; clear hrow)))))
  all_goals (conv => whnf)
  all_goals (refine ⟨[0, 1, ?_], ?_⟩)
  all_goals (repeat' (first | (with_reducible rfl) | exact trivial | ((conv => whnf); (first | (with_reducible refine And.intro ?_ ?_) | exact trivial | (intro hb; first | (exfalso; simp_all; done) | skip)))))
  all_goals (first | rfl)

set_option maxRecDepth 100000 in
set_option maxHeartbeats 400000 in
theorem take_12a (e n nx tc : Int) (j : JobV) (ps : List Bs) (hps : ps.length ≤ 10) (he : 0 ≤ j.ep ∧ j.ep ≤ 1000) (hpc : 0 ≤ j.pc ∧ j.pc ≤ 1000) (h1 : j.pc + 1 < j.ps) (dx : Bs) (hx : ps[j.pc.toNat]? = some dx) (dt d1 : Bs) (hd : ps[(j.pc + 1).toNat]? = some d1)  : FnM Tryd.prog 14 [.ptr 0 0, .agg [.int .i64 12, .int .i64 j.to, .int .i64 100, .int .i64 j.sh, .int .i64 (j.ep + 1), .int .i64 j.pc, .int .i64 0, .int .i64 0, .int .i64 0, .str [], .str [], .str [], .int .i64 0, .nils, .int .i64 0, .str [], .int .i64 0, .nils, .str [], .str [], .nils, .nils, .nils, .str dt]] [.cells [.sl [[.int .i64 1, .int .i64 e, .int .i64 n, .str [], .str []]], .int .i64 3, .int .i64 j.sh, .int .i64 j.ep, .int .i64 j.fr, .int .i64 j.to, .int .i64 j.pc, .int .i64 j.ps, .str j.key, .int .i64 j.ot, .int .i64 j.oe, .int .i64 j.a, .int .i64 j.b, .int .i64 nx, .own 1, .int .i64 tc], .rows 9 (ps.map encP)] (.sl [[.int .i64 11, .int .i64 100, .int .i64 j.to, .int .i64 j.sh, .int .i64 (j.ep + 1), .int .i64 (j.pc + 1), .int .i64 0, .int .i64 0, .int .i64 0, .str [], .str [], .str [], .int .i64 0, .nils, .int .i64 0, .str [], .int .i64 0, .nils, .str [], .str [], .nils, .nils, .nils, .str d1]]) [.cells [.sl [[.int .i64 1, .int .i64 e, .int .i64 n, .str [], .str []]], .int .i64 3, .int .i64 j.sh, .int .i64 j.ep, .int .i64 j.fr, .int .i64 j.to, .int .i64 (j.pc + 1), .int .i64 j.ps, .str j.key, .int .i64 j.ot, .int .i64 j.oe, .int .i64 j.a, .int .i64 j.b, .int .i64 nx, .own 1, .int .i64 0], .rows 9 (ps.map encP)] := by
  refine FnM.mk' base Tryd.func14 rfl rfl rfl rfl ?_
  repeat' ((conv => whnf); (first
   | (with_reducible first | refine AW.seq ?_ | refine AW.region base (by kernel_rfl) ?_ | refine AW.cond ?_ | refine AW.block ?_ | refine AW.ret ?_ | refine AW.exit ?_ | refine AW.skip ?_ | refine Br.t ?_ | refine Br.f ?_)
   | (with_reducible refine Br.mkT (fun hb => (by (first | (simp at hb; done) | omega | (simp only [decide_eq_true_eq, decide_eq_false_iff_not, Bool.not_eq_true', Bool.not_eq_false'] at hb; first | omega | fail) | fail))) (fun hb => ?_))
   | (with_reducible refine Br.mkF (fun hb => (by (first | (simp at hb; done) | omega | (simp only [decide_eq_true_eq, decide_eq_false_iff_not, Bool.not_eq_true', Bool.not_eq_false'] at hb; first | omega | fail) | fail))) (fun hb => ?_))
   | ((with_reducible refine Or.inl ?_); (conv => whnf); (with_reducible refine And.intro LitSl.mk ?_))
   | refine Br.t ?_
   | refine Br.f ?_
   | (with_reducible refine Or.inr ⟨[?_, ?_], _, _, _, _, fits_3o e n nx tc j ps hps he 0 dt dx (by omega) hx, ?_⟩)
   | (with_reducible refine Or.inr (Or.inr ⟨[?_, ?_], _, _, _, _, fits_3o e n nx tc j ps hps he 0 dt dx (by omega) hx, ?_⟩))
   | (with_reducible refine Or.inr ⟨[?_, ?_], _, _, _, _, goes_12a e n nx tc j ps hps he hpc h1 dt d1 hd, ?_⟩)
   | (with_reducible refine Or.inr (Or.inr ⟨[?_, ?_], _, _, _, _, goes_12a e n nx tc j ps hps he hpc h1 dt d1 hd, ?_⟩))
   | (with_reducible refine Br.mk (fun hb => ?_) (fun hb => ?_) <;> (try rw [hb]) <;> (try simp only [List.length_map, decide_eq_true_eq, decide_eq_false_iff_not, Bool.not_eq_true', Bool.not_eq_false', Int.ofNat_lt, Int.ofNat_le, Int.not_lt, Int.not_le, Int.toNat_natCast] at hb))
   | ((with_reducible first | refine Or.inl (And.intro ?_ ?_) | refine And.intro ?_ ?_); (focus (first | with_reducible rfl | exact trivial | (exact ⟨rfl, trivial⟩) | (exact ⟨rfl, rfl, trivial⟩) | omega | (intro r hr; simp only [List.mem_singleton] at hr; subst hr; rfl)  | ((simp only [in64, maxLen] at *; omega)) | ((simp only [List.length_map]; omega)) | ((exact ⟨by omega, by simp only [List.length_map]; omega⟩)) | (simp only [in64]; omega) | assumption | (simp; done) | (simp [V.cells]; done) | (simp [in64, maxLen, limK] at *; omega) | ((show confB _ _ = true); kernel_rfl) | rfl)))
   | (intro row hrow; (try simp only [Int.toNat_natCast, List.length_map, toNat_pred, toNat_succ', toNat_zero', toNat_one'] at hrow); (first | (have hsm := same_map (by assumption) hrow; subst hsm; clear hrow) | (obtain ⟨p, hp, rfl⟩ := of_map hrow; clear hrow)))))
  all_goals (conv => whnf)
  all_goals (refine ⟨[0, 1], ?_⟩)
  all_goals (repeat' (first | (with_reducible rfl) | exact trivial | ((conv => whnf); (first | (with_reducible refine And.intro ?_ ?_) | exact trivial | (intro hb; first | (exfalso; simp_all; done) | skip)))))
  all_goals (first | rfl)

set_option maxRecDepth 100000 in
set_option maxHeartbeats 400000 in
theorem take_12b (e n nx tc : Int) (j : JobV) (ps : List Bs) (hps : ps.length ≤ 10) (he : 0 ≤ j.ep ∧ j.ep ≤ 1000) (hpc : 0 ≤ j.pc ∧ j.pc ≤ 1000) (h1 : ¬ j.pc + 1 < j.ps) (dx : Bs) (hx : ps[j.pc.toNat]? = some dx) (dt : Bs)  : FnM Tryd.prog 14 [.ptr 0 0, .agg [.int .i64 12, .int .i64 j.to, .int .i64 100, .int .i64 j.sh, .int .i64 (j.ep + 1), .int .i64 j.pc, .int .i64 0, .int .i64 0, .int .i64 0, .str [], .str [], .str [], .int .i64 0, .nils, .int .i64 0, .str [], .int .i64 0, .nils, .str [], .str [], .nils, .nils, .nils, .str dt]] [.cells [.sl [[.int .i64 1, .int .i64 e, .int .i64 n, .str [], .str []]], .int .i64 3, .int .i64 j.sh, .int .i64 j.ep, .int .i64 j.fr, .int .i64 j.to, .int .i64 j.pc, .int .i64 j.ps, .str j.key, .int .i64 j.ot, .int .i64 j.oe, .int .i64 j.a, .int .i64 j.b, .int .i64 nx, .own 1, .int .i64 tc], .rows 9 (ps.map encP)] (.sl [[.int .i64 13, .int .i64 100, .int .i64 j.to, .int .i64 j.sh, .int .i64 (j.ep + 1), .int .i64 j.ps, .int .i64 0, .int .i64 0, .int .i64 0, .str [], .str [], .str [], .int .i64 0, .nils, .int .i64 0, .str [], .int .i64 0, .nils, .str [], .str [], .nils, .nils, .nils, .str []]]) [.cells [.sl [[.int .i64 1, .int .i64 e, .int .i64 n, .str [], .str []]], .int .i64 4, .int .i64 j.sh, .int .i64 j.ep, .int .i64 j.fr, .int .i64 j.to, .int .i64 0, .int .i64 j.ps, .str j.key, .int .i64 j.ot, .int .i64 j.oe, .int .i64 j.a, .int .i64 j.b, .int .i64 nx, .own 1, .int .i64 0], .rows 9 (ps.map encP)] := by
  refine FnM.mk' base Tryd.func14 rfl rfl rfl rfl ?_
  repeat' ((conv => whnf); (first
   | (with_reducible first | refine AW.seq ?_ | refine AW.region base (by kernel_rfl) ?_ | refine AW.cond ?_ | refine AW.block ?_ | refine AW.ret ?_ | refine AW.exit ?_ | refine AW.skip ?_ | refine Br.t ?_ | refine Br.f ?_)
   | (with_reducible refine Br.mkT (fun hb => (by (first | (simp at hb; done) | omega | (simp only [decide_eq_true_eq, decide_eq_false_iff_not, Bool.not_eq_true', Bool.not_eq_false'] at hb; first | omega | fail) | fail))) (fun hb => ?_))
   | (with_reducible refine Br.mkF (fun hb => (by (first | (simp at hb; done) | omega | (simp only [decide_eq_true_eq, decide_eq_false_iff_not, Bool.not_eq_true', Bool.not_eq_false'] at hb; first | omega | fail) | fail))) (fun hb => ?_))
   | ((with_reducible refine Or.inl ?_); (conv => whnf); (with_reducible refine And.intro LitSl.mk ?_))
   | refine Br.t ?_
   | refine Br.f ?_
   | (with_reducible refine Or.inr ⟨[?_, ?_], _, _, _, _, fits_3o e n nx tc j ps hps he 0 dt dx (by omega) hx, ?_⟩)
   | (with_reducible refine Or.inr (Or.inr ⟨[?_, ?_], _, _, _, _, fits_3o e n nx tc j ps hps he 0 dt dx (by omega) hx, ?_⟩))
   | (with_reducible refine Or.inr ⟨[?_, ?_], _, _, _, _, goes_12b e n nx tc j ps hps he hpc h1 dt, ?_⟩)
   | (with_reducible refine Or.inr (Or.inr ⟨[?_, ?_], _, _, _, _, goes_12b e n nx tc j ps hps he hpc h1 dt, ?_⟩))
   | (with_reducible refine Br.mk (fun hb => ?_) (fun hb => ?_) <;> (try rw [hb]) <;> (try simp only [List.length_map, decide_eq_true_eq, decide_eq_false_iff_not, Bool.not_eq_true', Bool.not_eq_false', Int.ofNat_lt, Int.ofNat_le, Int.not_lt, Int.not_le, Int.toNat_natCast] at hb))
   | ((with_reducible first | refine Or.inl (And.intro ?_ ?_) | refine And.intro ?_ ?_); (focus (first | with_reducible rfl | exact trivial | (exact ⟨rfl, trivial⟩) | (exact ⟨rfl, rfl, trivial⟩) | omega | (intro r hr; simp only [List.mem_singleton] at hr; subst hr; rfl)  | ((simp only [in64, maxLen] at *; omega)) | ((simp only [List.length_map]; omega)) | ((exact ⟨by omega, by simp only [List.length_map]; omega⟩)) | (simp only [in64]; omega) | assumption | (simp; done) | (simp [V.cells]; done) | (simp [in64, maxLen, limK] at *; omega) | ((show confB _ _ = true); kernel_rfl) | rfl)))
   | (intro row hrow; (try simp only [Int.toNat_natCast, List.length_map, toNat_pred, toNat_succ', toNat_zero', toNat_one'] at hrow); (first | (have hsm := same_map (by assumption) hrow; subst hsm; clear hrow) | (obtain ⟨p, hp, rfl⟩ := of_map hrow; clear hrow)))))
  all_goals (conv => whnf)
  all_goals (refine ⟨[0, 1], ?_⟩)
  all_goals (repeat' (first | (with_reducible rfl) | exact trivial | ((conv => whnf); (first | (with_reducible refine And.intro ?_ ?_) | exact trivial | (intro hb; first | (exfalso; simp_all; done) | skip)))))
  all_goals (first | rfl)

set_option maxRecDepth 100000 in
set_option maxHeartbeats 400000 in
theorem take_14 (e n nx tc : Int) (j : JobV) (ps : List Bs) (hps : ps.length ≤ 10) (he : 0 ≤ j.ep ∧ j.ep ≤ 1000) (dt : Bs)  : FnM Tryd.prog 14 [.ptr 0 0, .agg [.int .i64 14, .int .i64 j.to, .int .i64 100, .int .i64 1, .int .i64 (j.ep + 1), .int .i64 0, .int .i64 0, .int .i64 0, .int .i64 0, .str [], .str [], .str [], .int .i64 0, .nils, .int .i64 0, .str [], .int .i64 0, .nils, .str [], .str [], .nils, .nils, .nils, .str dt]] [.cells [.sl [[.int .i64 1, .int .i64 e, .int .i64 n, .str [], .str []]], .int .i64 4, .int .i64 1, .int .i64 j.ep, .int .i64 j.fr, .int .i64 j.to, .int .i64 j.pc, .int .i64 j.ps, .str j.key, .int .i64 j.ot, .int .i64 j.oe, .int .i64 j.a, .int .i64 j.b, .int .i64 nx, .own 1, .int .i64 tc], .rows 9 (ps.map encP)] (.sl [[.int .i64 17, .int .i64 100, .int .i64 j.fr, .int .i64 1, .int .i64 j.ep, .int .i64 0, .int .i64 0, .int .i64 0, .int .i64 0, .str [], .str [], .str [], .int .i64 0, .nils, .int .i64 0, .str [], .int .i64 0, .nils, .str [], .str [], .nils, .nils, .nils, .str []]]) [.cells [.sl [[.int .i64 1, .int .i64 (j.ep + 1), .int .i64 j.to, .str [], .str []]], .int .i64 5, .int .i64 1, .int .i64 j.ep, .int .i64 j.fr, .int .i64 j.to, .int .i64 0, .int .i64 j.ps, .str j.key, .int .i64 j.ot, .int .i64 j.oe, .int .i64 j.a, .int .i64 j.b, .int .i64 nx, .own 1, .int .i64 0], .rows 9 (ps.map encP)] := by
  refine FnM.mk' base Tryd.func14 rfl rfl rfl rfl ?_
  repeat' ((conv => whnf); (first
   | (with_reducible first | refine AW.seq ?_ | refine AW.region base (by kernel_rfl) ?_ | refine AW.cond ?_ | refine AW.block ?_ | refine AW.ret ?_ | refine AW.exit ?_ | refine AW.skip ?_ | refine Br.t ?_ | refine Br.f ?_)
   | (with_reducible refine Br.mkT (fun hb => (by (first | (simp at hb; done) | omega | (simp only [decide_eq_true_eq, decide_eq_false_iff_not, Bool.not_eq_true', Bool.not_eq_false'] at hb; first | omega | fail) | fail))) (fun hb => ?_))
   | (with_reducible refine Br.mkF (fun hb => (by (first | (simp at hb; done) | omega | (simp only [decide_eq_true_eq, decide_eq_false_iff_not, Bool.not_eq_true', Bool.not_eq_false'] at hb; first | omega | fail) | fail))) (fun hb => ?_))
   | ((with_reducible refine Or.inl ?_); (conv => whnf); (with_reducible refine And.intro LitSl.mk ?_))
   | refine Br.t ?_
   | refine Br.f ?_
   | (with_reducible refine Or.inr ⟨[?_, ?_], _, _, _, _, fits_4o e n nx tc ⟨4, 1, j.ep, j.fr, j.to, j.pc, j.ps, j.key, j.ot, j.oe, j.a, j.b⟩ ps hps he 0 dt, ?_⟩)
   | (with_reducible refine Or.inr (Or.inr ⟨[?_, ?_], _, _, _, _, fits_4o e n nx tc ⟨4, 1, j.ep, j.fr, j.to, j.pc, j.ps, j.key, j.ot, j.oe, j.a, j.b⟩ ps hps he 0 dt, ?_⟩))
   | (with_reducible refine Or.inr ⟨[?_, ?_], _, _, _, _, goes_14 e n nx tc j ps hps he dt, ?_⟩)
   | (with_reducible refine Or.inr (Or.inr ⟨[?_, ?_], _, _, _, _, goes_14 e n nx tc j ps hps he dt, ?_⟩))
   | (with_reducible refine Br.mk (fun hb => ?_) (fun hb => ?_) <;> (try rw [hb]) <;> (try simp only [List.length_map, decide_eq_true_eq, decide_eq_false_iff_not, Bool.not_eq_true', Bool.not_eq_false', Int.ofNat_lt, Int.ofNat_le, Int.not_lt, Int.not_le, Int.toNat_natCast] at hb))
   | ((with_reducible first | refine Or.inl (And.intro ?_ ?_) | refine And.intro ?_ ?_); (focus (first | with_reducible rfl | exact trivial | (exact ⟨rfl, trivial⟩) | (exact ⟨rfl, rfl, trivial⟩) | omega | (intro r hr; simp only [List.mem_singleton] at hr; subst hr; rfl)  | ((simp only [in64, maxLen] at *; omega)) | ((simp only [List.length_map]; omega)) | ((exact ⟨by omega, by simp only [List.length_map]; omega⟩)) | (simp only [in64]; omega) | assumption | (simp; done) | (simp [V.cells]; done) | (simp [in64, maxLen, limK] at *; omega) | ((show confB _ _ = true); kernel_rfl) | rfl)))
   | (intro row hrow; (try simp only [Int.toNat_natCast, List.length_map, toNat_pred, toNat_succ', toNat_zero', toNat_one'] at hrow); (first | (have hsm := same_map (by assumption) hrow; subst hsm; clear hrow) | (obtain ⟨p, hp, rfl⟩ := of_map hrow; clear hrow)))))
  all_goals (conv => whnf)
  all_goals (refine ⟨[0, 1], ?_⟩)
  all_goals (repeat' (first | (with_reducible rfl) | exact trivial | ((conv => whnf); (first | (with_reducible refine And.intro ?_ ?_) | exact trivial | (intro hb; first | (exfalso; simp_all; done) | skip)))))
  all_goals (first | rfl)

set_option maxRecDepth 100000 in
set_option maxHeartbeats 400000 in
theorem take_18 (e n nx tc : Int) (j : JobV) (ps : List Bs) (hps : ps.length ≤ 10) (he : 0 ≤ j.ep ∧ j.ep ≤ 1000) (x2 : Int) (dt : Bs)  : FnM Tryd.prog 14 [.ptr 0 0, .agg [.int .i64 18, .int .i64 j.fr, .int .i64 100, .int .i64 j.sh, .int .i64 j.ep, .int .i64 x2, .int .i64 0, .int .i64 0, .int .i64 0, .str [], .str [], .str [], .int .i64 0, .nils, .int .i64 0, .str [], .int .i64 0, .nils, .str [], .str [], .nils, .nils, .nils, .str dt]] [.cells [.sl [[.int .i64 1, .int .i64 e, .int .i64 n, .str [], .str []]], .int .i64 5, .int .i64 j.sh, .int .i64 j.ep, .int .i64 j.fr, .int .i64 j.to, .int .i64 j.pc, .int .i64 j.ps, .str j.key, .int .i64 j.ot, .int .i64 j.oe, .int .i64 j.a, .int .i64 j.b, .int .i64 nx, .own 1, .int .i64 tc], .rows 9 (ps.map encP)] (.nils) [.cells [.sl [[.int .i64 1, .int .i64 e, .int .i64 n, .str [], .str []]], .int .i64 0, .int .i64 0, .int .i64 0, .int .i64 0, .int .i64 0, .int .i64 0, .int .i64 0, .str [], .int .i64 0, .int .i64 0, .int .i64 0, .int .i64 0, .int .i64 nx, .nils, .int .i64 0], .rows 9 (ps.map encP)] := by
  refine FnM.mk' base Tryd.func14 rfl rfl rfl rfl ?_
  repeat' ((conv => whnf); (first
   | (with_reducible first | refine AW.seq ?_ | refine AW.region base (by kernel_rfl) ?_ | refine AW.cond ?_ | refine AW.block ?_ | refine AW.ret ?_ | refine AW.exit ?_ | refine AW.skip ?_ | refine Br.t ?_ | refine Br.f ?_)
   | (with_reducible refine Br.mkT (fun hb => (by (first | (simp at hb; done) | omega | (simp only [decide_eq_true_eq, decide_eq_false_iff_not, Bool.not_eq_true', Bool.not_eq_false'] at hb; first | omega | fail) | fail))) (fun hb => ?_))
   | (with_reducible refine Br.mkF (fun hb => (by (first | (simp at hb; done) | omega | (simp only [decide_eq_true_eq, decide_eq_false_iff_not, Bool.not_eq_true', Bool.not_eq_false'] at hb; first | omega | fail) | fail))) (fun hb => ?_))
   | ((with_reducible refine Or.inl ?_); (conv => whnf); (with_reducible refine And.intro LitSl.mk ?_))
   | refine Br.t ?_
   | refine Br.f ?_
   | (with_reducible refine Or.inr ⟨[?_, ?_], _, _, _, _, fits_5o e n nx tc j ps hps he x2 dt, ?_⟩)
   | (with_reducible refine Or.inr (Or.inr ⟨[?_, ?_], _, _, _, _, fits_5o e n nx tc j ps hps he x2 dt, ?_⟩))
   | (with_reducible refine Or.inr ⟨[?_, ?_], _, _, _, _, goes_18 e n nx tc j ps hps he x2 dt, ?_⟩)
   | (with_reducible refine Or.inr (Or.inr ⟨[?_, ?_], _, _, _, _, goes_18 e n nx tc j ps hps he x2 dt, ?_⟩))
   | (with_reducible refine Br.mk (fun hb => ?_) (fun hb => ?_) <;> (try rw [hb]) <;> (try simp only [List.length_map, decide_eq_true_eq, decide_eq_false_iff_not, Bool.not_eq_true', Bool.not_eq_false', Int.ofNat_lt, Int.ofNat_le, Int.not_lt, Int.not_le, Int.toNat_natCast] at hb))
   | ((with_reducible first | refine Or.inl (And.intro ?_ ?_) | refine And.intro ?_ ?_); (focus (first | with_reducible rfl | exact trivial | (exact ⟨rfl, trivial⟩) | (exact ⟨rfl, rfl, trivial⟩) | omega | (intro r hr; simp only [List.mem_singleton] at hr; subst hr; rfl)  | ((simp only [in64, maxLen] at *; omega)) | ((simp only [List.length_map]; omega)) | ((exact ⟨by omega, by simp only [List.length_map]; omega⟩)) | (simp only [in64]; omega) | assumption | (simp; done) | (simp [V.cells]; done) | (simp [in64, maxLen, limK] at *; omega) | ((show confB _ _ = true); kernel_rfl) | rfl)))
   | (intro row hrow; (try simp only [Int.toNat_natCast, List.length_map, toNat_pred, toNat_succ', toNat_zero', toNat_one'] at hrow); (first | (have hsm := same_map (by assumption) hrow; subst hsm; clear hrow) | (obtain ⟨p, hp, rfl⟩ := of_map hrow; clear hrow)))))
  all_goals (conv => whnf)
  all_goals (refine ⟨[0, 1], ?_⟩)
  all_goals (repeat' (first | (with_reducible rfl) | exact trivial | ((conv => whnf); (first | (with_reducible refine And.intro ?_ ?_) | exact trivial | (intro hb; first | (exfalso; simp_all; done) | skip)))))
  all_goals (first | rfl)

set_option maxRecDepth 100000 in
set_option maxHeartbeats 400000 in
theorem goes_16o (e n nx tc : Int) (j : JobV) (ps : List Bs) (hps : ps.length ≤ 10) (he : 0 ≤ j.ep ∧ j.ep ≤ 1000) (x2 : Int) (dt : Bs)  : FnM Tryd.prog 37 [.ptr 0 0, .agg [.int .i64 16, .int .i64 j.fr, .int .i64 100, .int .i64 1, .int .i64 j.ep, .int .i64 x2, .int .i64 0, .int .i64 0, .int .i64 0, .str [], .str [], .str [], .int .i64 0, .nils, .int .i64 0, .str [], .int .i64 0, .nils, .str [], .str [], .nils, .nils, .nils, .str dt]] [.cells [.sl [[.int .i64 1, .int .i64 e, .int .i64 n, .str [], .str []]], .int .i64 6, .int .i64 1, .int .i64 j.ep, .int .i64 j.fr, .int .i64 j.to, .int .i64 j.pc, .int .i64 j.ps, .str j.key, .int .i64 j.ot, .int .i64 j.oe, .int .i64 j.a, .int .i64 j.b, .int .i64 nx, .own 1, .int .i64 tc], .rows 9 (ps.map encP)] (.nils) [.cells [.sl [[.int .i64 1, .int .i64 (j.ep + 1), .int .i64 j.fr, .str [], .str []]], .int .i64 0, .int .i64 0, .int .i64 0, .int .i64 0, .int .i64 0, .int .i64 0, .int .i64 0, .str [], .int .i64 0, .int .i64 0, .int .i64 0, .int .i64 0, .int .i64 nx, .nils, .int .i64 0], .rows 9 (ps.map encP)] := by
  refine FnM.mk' base Tryd.func37 rfl rfl rfl rfl ?_
  repeat' ((conv => whnf); (first
   | (with_reducible first | refine AW.seq ?_ | refine AW.region base (by kernel_rfl) ?_ | refine AW.cond ?_ | refine AW.block ?_ | refine AW.ret ?_ | refine AW.exit ?_ | refine AW.skip ?_ | refine Br.t ?_ | refine Br.f ?_)
   | (with_reducible refine Br.mkT (fun hb => (by (first | (simp at hb; done) | omega | (simp only [decide_eq_true_eq, decide_eq_false_iff_not, Bool.not_eq_true', Bool.not_eq_false'] at hb; first | omega | fail) | fail))) (fun hb => ?_))
   | (with_reducible refine Br.mkF (fun hb => (by (first | (simp at hb; done) | omega | (simp only [decide_eq_true_eq, decide_eq_false_iff_not, Bool.not_eq_true', Bool.not_eq_false'] at hb; first | omega | fail) | fail))) (fun hb => ?_))
   | ((with_reducible refine Or.inl ?_); (conv => whnf); (with_reducible refine And.intro LitSl.mk ?_))
   | refine Br.t ?_
   | refine Br.f ?_
   | ((with_reducible refine Or.inl ?_); (conv => whnf); (first | (with_reducible first | refine ⟨_, planMove_fn e n (j.ep + 1) j.fr, ?_⟩)))
   | (with_reducible refine Or.inr ⟨[?_, ?_], _, _, _, _, ends_o (j.ep + 1) j.fr nx tc ⟨6, 1, j.ep, j.fr, j.to, j.pc, j.ps, j.key, j.ot, j.oe, j.a, j.b⟩ ps hps, ?_⟩)
   | (with_reducible refine Or.inr (Or.inr ⟨[?_, ?_], _, _, _, _, ends_o (j.ep + 1) j.fr nx tc ⟨6, 1, j.ep, j.fr, j.to, j.pc, j.ps, j.key, j.ot, j.oe, j.a, j.b⟩ ps hps, ?_⟩))
   | (with_reducible refine Br.mk (fun hb => ?_) (fun hb => ?_) <;> (try rw [hb]) <;> (try simp only [List.length_map, decide_eq_true_eq, decide_eq_false_iff_not, Bool.not_eq_true', Bool.not_eq_false', Int.ofNat_lt, Int.ofNat_le, Int.not_lt, Int.not_le, Int.toNat_natCast] at hb))
   | ((with_reducible first | refine Or.inl (And.intro ?_ ?_) | refine And.intro ?_ ?_); (focus (first | with_reducible rfl | exact trivial | (exact ⟨rfl, trivial⟩) | (exact ⟨rfl, rfl, trivial⟩) | omega | (intro r hr; simp only [List.mem_singleton] at hr; subst hr; rfl)  | ((simp only [in64, maxLen] at *; omega)) | ((simp only [List.length_map]; omega)) | ((exact ⟨by omega, by simp only [List.length_map]; omega⟩)) | (simp only [in64]; omega) | assumption | (simp; done) | (simp [V.cells]; done) | (simp [in64, maxLen, limK] at *; omega) | ((show confB _ _ = true); kernel_rfl) | rfl)))
   | (intro row hrow; (try simp only [Int.toNat_natCast, List.length_map, toNat_pred, toNat_succ', toNat_zero', toNat_one'] at hrow); (first | (have hsm := same_map (by assumption) hrow; subst hsm; clear hrow) | (obtain ⟨p, hp, rfl⟩ := of_map hrow; clear hrow)))))
  all_goals (conv => whnf)
  all_goals (refine ⟨[0, 1], ?_⟩)
  all_goals (repeat' (first | (with_reducible rfl) | exact trivial | ((conv => whnf); (first | (with_reducible refine And.intro ?_ ?_) | exact trivial | (intro hb; first | (exfalso; simp_all; done) | skip)))))
  all_goals (first | rfl)

set_option maxRecDepth 100000 in
set_option maxHeartbeats 400000 in
theorem take_16o (e n nx tc : Int) (j : JobV) (ps : List Bs) (hps : ps.length ≤ 10) (he : 0 ≤ j.ep ∧ j.ep ≤ 1000) (x2 : Int) (dt : Bs)  : FnM Tryd.prog 14 [.ptr 0 0, .agg [.int .i64 16, .int .i64 j.fr, .int .i64 100, .int .i64 1, .int .i64 j.ep, .int .i64 x2, .int .i64 0, .int .i64 0, .int .i64 0, .str [], .str [], .str [], .int .i64 0, .nils, .int .i64 0, .str [], .int .i64 0, .nils, .str [], .str [], .nils, .nils, .nils, .str dt]] [.cells [.sl [[.int .i64 1, .int .i64 e, .int .i64 n, .str [], .str []]], .int .i64 6, .int .i64 1, .int .i64 j.ep, .int .i64 j.fr, .int .i64 j.to, .int .i64 j.pc, .int .i64 j.ps, .str j.key, .int .i64 j.ot, .int .i64 j.oe, .int .i64 j.a, .int .i64 j.b, .int .i64 nx, .own 1, .int .i64 tc], .rows 9 (ps.map encP)] (.nils) [.cells [.sl [[.int .i64 1, .int .i64 (j.ep + 1), .int .i64 j.fr, .str [], .str []]], .int .i64 0, .int .i64 0, .int .i64 0, .int .i64 0, .int .i64 0, .int .i64 0, .int .i64 0, .str [], .int .i64 0, .int .i64 0, .int .i64 0, .int .i64 0, .int .i64 nx, .nils, .int .i64 0], .rows 9 (ps.map encP)] := by
  refine FnM.mk' base Tryd.func14 rfl rfl rfl rfl ?_
  repeat' ((conv => whnf); (first
   | (with_reducible first | refine AW.seq ?_ | refine AW.region base (by kernel_rfl) ?_ | refine AW.cond ?_ | refine AW.block ?_ | refine AW.ret ?_ | refine AW.exit ?_ | refine AW.skip ?_ | refine Br.t ?_ | refine Br.f ?_)
   | (with_reducible refine Br.mkT (fun hb => (by (first | (simp at hb; done) | omega | (simp only [decide_eq_true_eq, decide_eq_false_iff_not, Bool.not_eq_true', Bool.not_eq_false'] at hb; first | omega | fail) | fail))) (fun hb => ?_))
   | (with_reducible refine Br.mkF (fun hb => (by (first | (simp at hb; done) | omega | (simp only [decide_eq_true_eq, decide_eq_false_iff_not, Bool.not_eq_true', Bool.not_eq_false'] at hb; first | omega | fail) | fail))) (fun hb => ?_))
   | ((with_reducible refine Or.inl ?_); (conv => whnf); (with_reducible refine And.intro LitSl.mk ?_))
   | refine Br.t ?_
   | refine Br.f ?_
   | (with_reducible refine Or.inr ⟨[?_, ?_], _, _, _, _, fits_6o e n nx tc ⟨6, 1, j.ep, j.fr, j.to, j.pc, j.ps, j.key, j.ot, j.oe, j.a, j.b⟩ ps hps he x2 dt, ?_⟩)
   | (with_reducible refine Or.inr (Or.inr ⟨[?_, ?_], _, _, _, _, fits_6o e n nx tc ⟨6, 1, j.ep, j.fr, j.to, j.pc, j.ps, j.key, j.ot, j.oe, j.a, j.b⟩ ps hps he x2 dt, ?_⟩))
   | (with_reducible refine Or.inr ⟨[?_, ?_], _, _, _, _, goes_16o e n nx tc j ps hps he x2 dt, ?_⟩)
   | (with_reducible refine Or.inr (Or.inr ⟨[?_, ?_], _, _, _, _, goes_16o e n nx tc j ps hps he x2 dt, ?_⟩))
   | (with_reducible refine Br.mk (fun hb => ?_) (fun hb => ?_) <;> (try rw [hb]) <;> (try simp only [List.length_map, decide_eq_true_eq, decide_eq_false_iff_not, Bool.not_eq_true', Bool.not_eq_false', Int.ofNat_lt, Int.ofNat_le, Int.not_lt, Int.not_le, Int.toNat_natCast] at hb))
   | ((with_reducible first | refine Or.inl (And.intro ?_ ?_) | refine And.intro ?_ ?_); (focus (first | with_reducible rfl | exact trivial | (exact ⟨rfl, trivial⟩) | (exact ⟨rfl, rfl, trivial⟩) | omega | (intro r hr; simp only [List.mem_singleton] at hr; subst hr; rfl)  | ((simp only [in64, maxLen] at *; omega)) | ((simp only [List.length_map]; omega)) | ((exact ⟨by omega, by simp only [List.length_map]; omega⟩)) | (simp only [in64]; omega) | assumption | (simp; done) | (simp [V.cells]; done) | (simp [in64, maxLen, limK] at *; omega) | ((show confB _ _ = true); kernel_rfl) | rfl)))
   | (intro row hrow; (try simp only [Int.toNat_natCast, List.length_map, toNat_pred, toNat_succ', toNat_zero', toNat_one'] at hrow); (first | (have hsm := same_map (by assumption) hrow; subst hsm; clear hrow) | (obtain ⟨p, hp, rfl⟩ := of_map hrow; clear hrow)))))
  all_goals (conv => whnf)
  all_goals (refine ⟨[0, 1], ?_⟩)
  all_goals (repeat' (first | (with_reducible rfl) | exact trivial | ((conv => whnf); (first | (with_reducible refine And.intro ?_ ?_) | exact trivial | (intro hb; first | (exfalso; simp_all; done) | skip)))))
  all_goals (first | rfl)

set_option maxRecDepth 100000 in
set_option maxHeartbeats 400000 in
theorem abort_2o (e n nx tc : Int) (j : JobV) (ps : List Bs) (hps : ps.length ≤ 10) (he : 0 ≤ j.ep ∧ j.ep ≤ 1000)  : FnM Tryd.prog 24 [.ptr 0 0] [.cells [.sl [[.int .i64 1, .int .i64 e, .int .i64 n, .str [], .str []]], .int .i64 2, .int .i64 j.sh, .int .i64 j.ep, .int .i64 j.fr, .int .i64 j.to, .int .i64 j.pc, .int .i64 j.ps, .str j.key, .int .i64 j.ot, .int .i64 j.oe, .int .i64 j.a, .int .i64 j.b, .int .i64 nx, .own 1, .int .i64 tc], .rows 9 (ps.map encP)] (.tup [.sl [[.int .i64 15, .int .i64 100, .int .i64 j.fr, .int .i64 j.sh, .int .i64 j.ep, .int .i64 0, .int .i64 0, .int .i64 0, .int .i64 0, .str [], .str [], .str [], .int .i64 0, .nils, .int .i64 0, .str [], .int .i64 0, .nils, .str [], .str [], .nils, .nils, .nils, .str []]], noErr]) [.cells [.sl [[.int .i64 1, .int .i64 e, .int .i64 n, .str [], .str []]], .int .i64 6, .int .i64 j.sh, .int .i64 j.ep, .int .i64 j.fr, .int .i64 j.to, .int .i64 0, .int .i64 j.ps, .str j.key, .int .i64 j.ot, .int .i64 j.oe, .int .i64 j.a, .int .i64 j.b, .int .i64 nx, .own 1, .int .i64 0], .rows 9 (ps.map encP)] := by
  refine FnM.mk' base Tryd.func24 rfl rfl rfl rfl ?_
  repeat' ((conv => whnf); (first
   | (with_reducible first | refine AW.seq ?_ | refine AW.region base (by kernel_rfl) ?_ | refine AW.cond ?_ | refine AW.block ?_ | refine AW.ret ?_ | refine AW.exit ?_ | refine AW.skip ?_ | refine Br.t ?_ | refine Br.f ?_)
   | (with_reducible refine Br.mkT (fun hb => (by (first | (simp at hb; done) | omega | (simp only [decide_eq_true_eq, decide_eq_false_iff_not, Bool.not_eq_true', Bool.not_eq_false'] at hb; first | omega | fail) | fail))) (fun hb => ?_))
   | (with_reducible refine Br.mkF (fun hb => (by (first | (simp at hb; done) | omega | (simp only [decide_eq_true_eq, decide_eq_false_iff_not, Bool.not_eq_true', Bool.not_eq_false'] at hb; first | omega | fail) | fail))) (fun hb => ?_))
   | ((with_reducible refine Or.inl ?_); (conv => whnf); (with_reducible refine And.intro LitSl.mk ?_))
   | refine Br.t ?_
   | refine Br.f ?_
   | (with_reducible refine Or.inr ⟨[?_, ?_], _, _, _, _, begins_6o e n nx tc ⟨2, j.sh, j.ep, j.fr, j.to, j.pc, j.ps, j.key, j.ot, j.oe, j.a, j.b⟩ ps hps he 0, ?_⟩)
   | (with_reducible refine Or.inr (Or.inr ⟨[?_, ?_], _, _, _, _, begins_6o e n nx tc ⟨2, j.sh, j.ep, j.fr, j.to, j.pc, j.ps, j.key, j.ot, j.oe, j.a, j.b⟩ ps hps he 0, ?_⟩))
   | (with_reducible refine Br.mk (fun hb => ?_) (fun hb => ?_) <;> (try rw [hb]) <;> (try simp only [List.length_map, decide_eq_true_eq, decide_eq_false_iff_not, Bool.not_eq_true', Bool.not_eq_false', Int.ofNat_lt, Int.ofNat_le, Int.not_lt, Int.not_le, Int.toNat_natCast] at hb))
   | ((with_reducible first | refine Or.inl (And.intro ?_ ?_) | refine And.intro ?_ ?_); (focus (first | with_reducible rfl | exact trivial | (exact ⟨rfl, trivial⟩) | (exact ⟨rfl, rfl, trivial⟩) | omega | (intro r hr; simp only [List.mem_singleton] at hr; subst hr; rfl)  | ((simp only [in64, maxLen] at *; omega)) | ((simp only [List.length_map]; omega)) | ((exact ⟨by omega, by simp only [List.length_map]; omega⟩)) | (simp only [in64]; omega) | assumption | (simp; done) | (simp [V.cells]; done) | (simp [in64, maxLen, limK] at *; omega) | ((show confB _ _ = true); kernel_rfl) | rfl)))
   | (intro row hrow; (try simp only [Int.toNat_natCast, List.length_map, toNat_pred, toNat_succ', toNat_zero', toNat_one'] at hrow); (first | (have hsm := same_map (by assumption) hrow; subst hsm; clear hrow) | (obtain ⟨p, hp, rfl⟩ := of_map hrow; clear hrow)))))
  all_goals (conv => whnf)
  all_goals (refine ⟨[0, 1], ?_⟩)
  all_goals (repeat' (first | (with_reducible rfl) | exact trivial | ((conv => whnf); (first | (with_reducible refine And.intro ?_ ?_) | exact trivial | (intro hb; first | (exfalso; simp_all; done) | skip)))))
  all_goals (first | rfl)

set_option maxRecDepth 100000 in
set_option maxHeartbeats 400000 in
theorem abort_3 (e n nx tc : Int) (j : JobV) (ps : List Bs) (hps : ps.length ≤ 10) (hj : 3 ≤ j.ph)  : FnM Tryd.prog 24 [.ptr 0 0] [.cells [.sl [[.int .i64 1, .int .i64 e, .int .i64 n, .str [], .str []]], .int .i64 j.ph, .int .i64 j.sh, .int .i64 j.ep, .int .i64 j.fr, .int .i64 j.to, .int .i64 j.pc, .int .i64 j.ps, .str j.key, .int .i64 j.ot, .int .i64 j.oe, .int .i64 j.a, .int .i64 j.b, .int .i64 nx, .own 1, .int .i64 tc], .rows 9 (ps.map encP)] (.tup [.nils, errV [] 20]) [.cells [.sl [[.int .i64 1, .int .i64 e, .int .i64 n, .str [], .str []]], .int .i64 j.ph, .int .i64 j.sh, .int .i64 j.ep, .int .i64 j.fr, .int .i64 j.to, .int .i64 j.pc, .int .i64 j.ps, .str j.key, .int .i64 j.ot, .int .i64 j.oe, .int .i64 j.a, .int .i64 j.b, .int .i64 nx, .own 1, .int .i64 tc], .rows 9 (ps.map encP)] := by
  refine FnM.mk' base Tryd.func24 rfl rfl rfl rfl ?_
  repeat' ((conv => whnf); (first
   | (with_reducible first | refine AW.seq ?_ | refine AW.region base (by kernel_rfl) ?_ | refine AW.cond ?_ | refine AW.block ?_ | refine AW.ret ?_ | refine AW.exit ?_ | refine AW.skip ?_ | refine Br.t ?_ | refine Br.f ?_)
   | (with_reducible refine Br.mkT (fun hb => (by (first | (simp at hb; done) | omega | (simp only [decide_eq_true_eq, decide_eq_false_iff_not, Bool.not_eq_true', Bool.not_eq_false'] at hb; first | omega | fail) | fail))) (fun hb => ?_))
   | (with_reducible refine Br.mkF (fun hb => (by (first | (simp at hb; done) | omega | (simp only [decide_eq_true_eq, decide_eq_false_iff_not, Bool.not_eq_true', Bool.not_eq_false'] at hb; first | omega | fail) | fail))) (fun hb => ?_))
   | ((with_reducible refine Or.inl ?_); (conv => whnf); (with_reducible refine And.intro LitSl.mk ?_))
   | refine Br.t ?_
   | refine Br.f ?_
   | (with_reducible refine Br.mk (fun hb => ?_) (fun hb => ?_) <;> (try rw [hb]) <;> (try simp only [List.length_map, decide_eq_true_eq, decide_eq_false_iff_not, Bool.not_eq_true', Bool.not_eq_false', Int.ofNat_lt, Int.ofNat_le, Int.not_lt, Int.not_le, Int.toNat_natCast] at hb))
   | ((with_reducible first | refine Or.inl (And.intro ?_ ?_) | refine And.intro ?_ ?_); (focus (first | with_reducible rfl | exact trivial | (exact ⟨rfl, trivial⟩) | (exact ⟨rfl, rfl, trivial⟩) | omega | (intro r hr; simp only [List.mem_singleton] at hr; subst hr; rfl)  | ((simp only [in64, maxLen] at *; omega)) | ((simp only [List.length_map]; omega)) | ((exact ⟨by omega, by simp only [List.length_map]; omega⟩)) | (simp only [in64]; omega) | assumption | (simp; done) | (simp [V.cells]; done) | (simp [in64, maxLen, limK] at *; omega) | ((show confB _ _ = true); kernel_rfl) | rfl)))
   | (intro row hrow; (try simp only [Int.toNat_natCast, List.length_map, toNat_pred, toNat_succ', toNat_zero', toNat_one'] at hrow); (first | (have hsm := same_map (by assumption) hrow; subst hsm; clear hrow) | (obtain ⟨p, hp, rfl⟩ := of_map hrow; clear hrow)))))
  all_goals (conv => whnf)
  all_goals (refine ⟨[0, 1], ?_⟩)
  all_goals (repeat' (first | (with_reducible rfl) | exact trivial | ((conv => whnf); (first | (with_reducible refine And.intro ?_ ?_) | exact trivial | (intro hb; first | (exfalso; simp_all; done) | skip)))))
  all_goals (first | rfl)

set_option maxRecDepth 100000 in
set_option maxHeartbeats 400000 in
theorem job_o (e n nx tc : Int) (j : JobV) (ps : List Bs) (hps : ps.length ≤ 10)  : FnM Tryd.prog 18 [.ptr 0 0] [.cells [.sl [[.int .i64 1, .int .i64 e, .int .i64 n, .str [], .str []]], .int .i64 j.ph, .int .i64 j.sh, .int .i64 j.ep, .int .i64 j.fr, .int .i64 j.to, .int .i64 j.pc, .int .i64 j.ps, .str j.key, .int .i64 j.ot, .int .i64 j.oe, .int .i64 j.a, .int .i64 j.b, .int .i64 nx, .own 1, .int .i64 tc], .rows 9 (ps.map encP)] (.agg (encJ j)) [.cells [.sl [[.int .i64 1, .int .i64 e, .int .i64 n, .str [], .str []]], .int .i64 j.ph, .int .i64 j.sh, .int .i64 j.ep, .int .i64 j.fr, .int .i64 j.to, .int .i64 j.pc, .int .i64 j.ps, .str j.key, .int .i64 j.ot, .int .i64 j.oe, .int .i64 j.a, .int .i64 j.b, .int .i64 nx, .own 1, .int .i64 tc], .rows 9 (ps.map encP)] := by
  refine FnM.mk' base Tryd.func18 rfl rfl rfl rfl ?_
  repeat' ((conv => whnf); (first
   | (with_reducible first | refine AW.seq ?_ | refine AW.region base (by kernel_rfl) ?_ | refine AW.cond ?_ | refine AW.block ?_ | refine AW.ret ?_ | refine AW.exit ?_ | refine AW.skip ?_ | refine Br.t ?_ | refine Br.f ?_)
   | (with_reducible refine Br.mkT (fun hb => (by (first | (simp at hb; done) | omega | (simp only [decide_eq_true_eq, decide_eq_false_iff_not, Bool.not_eq_true', Bool.not_eq_false'] at hb; first | omega | fail) | fail))) (fun hb => ?_))
   | (with_reducible refine Br.mkF (fun hb => (by (first | (simp at hb; done) | omega | (simp only [decide_eq_true_eq, decide_eq_false_iff_not, Bool.not_eq_true', Bool.not_eq_false'] at hb; first | omega | fail) | fail))) (fun hb => ?_))
   | ((with_reducible refine Or.inl ?_); (conv => whnf); (with_reducible refine And.intro LitSl.mk ?_))
   | refine Br.t ?_
   | refine Br.f ?_
   | (with_reducible refine Br.mk (fun hb => ?_) (fun hb => ?_) <;> (try rw [hb]) <;> (try simp only [List.length_map, decide_eq_true_eq, decide_eq_false_iff_not, Bool.not_eq_true', Bool.not_eq_false', Int.ofNat_lt, Int.ofNat_le, Int.not_lt, Int.not_le, Int.toNat_natCast] at hb))
   | ((with_reducible first | refine Or.inl (And.intro ?_ ?_) | refine And.intro ?_ ?_); (focus (first | with_reducible rfl | exact trivial | (exact ⟨rfl, trivial⟩) | (exact ⟨rfl, rfl, trivial⟩) | omega | (intro r hr; simp only [List.mem_singleton] at hr; subst hr; rfl)  | ((simp only [in64, maxLen] at *; omega)) | ((simp only [List.length_map]; omega)) | ((exact ⟨by omega, by simp only [List.length_map]; omega⟩)) | (simp only [in64]; omega) | assumption | (simp; done) | (simp [V.cells]; done) | (simp [in64, maxLen, limK] at *; omega) | ((show confB _ _ = true); kernel_rfl) | rfl)))
   | (intro row hrow; (try simp only [Int.toNat_natCast, List.length_map, toNat_pred, toNat_succ', toNat_zero', toNat_one'] at hrow); (first | (have hsm := same_map (by assumption) hrow; subst hsm; clear hrow) | (obtain ⟨p, hp, rfl⟩ := of_map hrow; clear hrow)))))
  all_goals (conv => whnf)
  all_goals (refine ⟨[0, 1], ?_⟩)
  all_goals (repeat' (first | (with_reducible rfl) | exact trivial | ((conv => whnf); (first | (with_reducible refine And.intro ?_ ?_) | exact trivial | (intro hb; first | (exfalso; simp_all; done) | skip)))))
  all_goals (first | rfl)
end Go.Proofs.YtgjbhkbjdihddaaDoor
