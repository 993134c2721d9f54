/-
  Walks of the reference: whether two ops, two answers are alike. No conditions.
-/
import Derived.Test.YtgjbhkbjdihddaaDoorLetF
namespace Go.Proofs.YtgjbhkbjdihddaaDoor
open Go.RowKit
set_option linter.unusedSimpArgs false
set_option linter.unusedVariables false

set_option maxRecDepth 100000 in
set_option maxHeartbeats 1000000 in
theorem sameOp_fn (a b : OpV) (hl : a.ws.length ≤ 1000000) : Fn Tryd.prog 65 [.agg [.int .i64 a.kind, .str a.key, .str a.to, .str a.val, .int .i64 a.ver, .sl (a.ws.map encWr)], .agg [.int .i64 b.kind, .str b.key, .str b.to, .str b.val, .int .i64 b.ver, .sl (b.ws.map encWr)]] (.bool (decide (a = b))) := by
  refine Fn.mk' base Tryd.func65 rfl rfl rfl ?_
  repeat' ((conv => whnf); (first
   | (with_reducible first | refine AW.seq ?_ | refine AW.region base (by kernel_rfl) ?_ | refine AW.cond ?_ | refine AW.block ?_ | refine AW.ret ?_ | refine AW.exit ?_ | refine AW.skip ?_ | refine Br.t ?_ | refine Br.f ?_)
   | ((with_reducible refine Or.inl ?_); (conv => whnf); (with_reducible refine And.intro LitSl.mk ?_))
   | refine Br.t ?_
   | refine Br.f ?_
   | (with_reducible refine Br.mk (fun hb => ?_) (fun hb => ?_) <;> (try rw [hb]) <;> (try simp only [List.length_map, decide_eq_true_eq, decide_eq_false_iff_not, Bool.not_eq_true', Bool.not_eq_false', Int.ofNat_lt, Int.ofNat_le, Int.not_lt, Int.not_le, Int.toNat_natCast] at hb))
   | ((with_reducible first | refine Or.inl (And.intro ?_ ?_) | refine And.intro ?_ ?_); (focus (first | with_reducible rfl | exact trivial | (exact ⟨rfl, trivial⟩) | (exact ⟨rfl, rfl, trivial⟩) | omega | (intro r hr; simp only [List.mem_singleton] at hr; subst hr; rfl)  | ((simp only [List.length_map] at *; omega)) | ((simp only [in64, maxLen] at *; omega)) | (simp only [in64]; omega) | assumption | (simp; done) | (simp [V.cells]; done) | (simp [in64, maxLen, limK] at *; omega) | ((show confB _ _ = true); kernel_rfl) | rfl)))
   | (intro row hrow; (try simp only [Int.toNat_natCast, List.length_map, toNat_pred, toNat_succ', toNat_zero', toNat_one'] at hrow); (first | (have hsm := same_map (by assumption) hrow; subst hsm; clear hrow) | (obtain ⟨p, hp, rfl⟩ := of_map hrow; clear hrow)))))
  all_goals try ((conv => whnf); (refine congrArg V.bool ?_); symm; rw [decide_eq_false_iff_not]; intro e; subst e; simp_all; done)
  have hlm : a.ws.length = b.ws.length := by first | omega | (simp only [List.length_map] at *; omega) | (simp only [List.length_map, decide_eq_true_eq, decide_eq_false_iff_not] at *; omega)
  refine AW.loop (fun (i : Nat) => i ≤ a.ws.length ∧ a.ws.take i = b.ws.take i) (fun (i : Nat) => ⟨[(2, .ptr 0 0), (3, .ptr 1 0), (5, .int .i64 (i : Int))], [.cells [.int .i64 a.kind, .str a.key, .str a.to, .str a.val, .int .i64 a.ver, .sl (a.ws.map encWr)], .cells [.int .i64 b.kind, .str b.key, .str b.to, .str b.val, .int .i64 b.ver, .sl (b.ws.map encWr)]]⟩) (fun i => a.ws.length - i) 0 ?_ ?_ ?_
  · exact ⟨Nat.zero_le _, rfl⟩
  · (refine ⟨⟨[1000, 1001], ?_⟩⟩; repeat' (first | (with_reducible rfl) | exact trivial | ((conv => whnf); (first | (with_reducible refine And.intro ?_ ?_) | (first | with_reducible rfl | ((first | refine congrArg V.str ?_ | refine congrArg (V.int _) ?_ | refine congrArg V.bool ?_ | refine congrArg V.sl ?_); (first | with_reducible rfl | omega | rfl | (simp; done))) | (first | with_reducible rfl | omega | rfl | (simp; done)) | rfl)))))
  · rintro i hk
    obtain ⟨hk1, hk2⟩ := hk
    rcases (by omega : i = a.ws.length ∨ i < a.ws.length) with hi | hi
    · have e : a.ws = b.ws := by rw [hi, List.take_length, hlm, List.take_length] at hk2; exact hk2
      have e2 : a = b := op_ext.2 (by simp_all)
      rw [decide_eq_true e2]
      repeat' ((conv => whnf); (first
       | (with_reducible first | refine AW.seq ?_ | refine AW.region base (by kernel_rfl) ?_ | refine AW.cond ?_ | refine AW.block ?_ | refine AW.ret ?_ | refine AW.exit ?_ | refine AW.skip ?_ | refine Br.t ?_ | refine Br.f ?_)
       | (with_reducible refine Br.mkT (fun hb => (by (first | (simp at hb; done) | omega | (simp at hb; omega) | (simp only [List.length_map, decide_eq_true_eq, decide_eq_false_iff_not] at hb; omega) | fail))) (fun hb => ?_))
       | (with_reducible refine Br.mkF (fun hb => (by (first | (simp at hb; done) | omega | (simp at hb; omega) | (simp only [List.length_map, decide_eq_true_eq, decide_eq_false_iff_not] at hb; omega) | fail))) (fun hb => ?_))
       | ((with_reducible refine Or.inl ?_); (conv => whnf); (with_reducible refine And.intro LitSl.mk ?_))
       | refine Br.t ?_
       | refine Br.f ?_
       | (with_reducible refine Br.mk (fun hb => ?_) (fun hb => ?_) <;> (try rw [hb]) <;> (try simp only [List.length_map, decide_eq_true_eq, decide_eq_false_iff_not, Bool.not_eq_true', Bool.not_eq_false', Int.ofNat_lt, Int.ofNat_le, Int.not_lt, Int.not_le, Int.toNat_natCast] at hb))
       | ((with_reducible first | refine Or.inl (And.intro ?_ ?_) | refine And.intro ?_ ?_); (focus (first | with_reducible rfl | exact trivial | (exact ⟨rfl, trivial⟩) | (exact ⟨rfl, rfl, trivial⟩) | omega | (intro r hr; simp only [List.mem_singleton] at hr; subst hr; rfl)  | ((simp only [List.length_map] at *; omega)) | ((simp only [in64, maxLen] at *; omega)) | (simp only [in64]; omega) | assumption | (simp; done) | (simp [V.cells]; done) | (simp [in64, maxLen, limK] at *; omega) | ((show confB _ _ = true); kernel_rfl) | rfl)))
       | (intro row hrow; (try simp only [Int.toNat_natCast, List.length_map, toNat_pred, toNat_succ', toNat_zero', toNat_one'] at hrow); (first | (have hsm := same_map (by assumption) hrow; subst hsm; clear hrow) | (obtain ⟨p, hp, rfl⟩ := of_map hrow; clear hrow)))))
      all_goals ((conv => whnf); first | done | rfl)
    obtain ⟨p, hp⟩ : ∃ p, a.ws[i]? = some p := ⟨_, List.getElem?_eq_getElem hi⟩
    obtain ⟨q, hq⟩ : ∃ q, b.ws[i]? = some q := ⟨_, List.getElem?_eq_getElem (by omega)⟩
    by_cases hpq : p = q
    · subst hpq
      repeat' ((conv => whnf); (first
       | (with_reducible first | refine AW.seq ?_ | refine AW.region base (by kernel_rfl) ?_ | refine AW.cond ?_ | refine AW.block ?_ | refine AW.ret ?_ | refine AW.exit ?_ | refine AW.skip ?_ | refine Br.t ?_ | refine Br.f ?_)
       | (with_reducible refine Br.mkT (fun hb => (by (first | (simp at hb; done) | omega | (simp at hb; omega) | (simp only [List.length_map, decide_eq_true_eq, decide_eq_false_iff_not] at hb; omega) | fail))) (fun hb => ?_))
       | (with_reducible refine Br.mkF (fun hb => (by (first | (simp at hb; done) | omega | (simp at hb; omega) | (simp only [List.length_map, decide_eq_true_eq, decide_eq_false_iff_not] at hb; omega) | fail))) (fun hb => ?_))
       | ((with_reducible refine Or.inl ?_); (conv => whnf); (with_reducible refine And.intro LitSl.mk ?_))
       | refine Br.t ?_
       | refine Br.f ?_
       | (with_reducible refine Br.mk (fun hb => ?_) (fun hb => ?_) <;> (try rw [hb]) <;> (try simp only [List.length_map, decide_eq_true_eq, decide_eq_false_iff_not, Bool.not_eq_true', Bool.not_eq_false', Int.ofNat_lt, Int.ofNat_le, Int.not_lt, Int.not_le, Int.toNat_natCast] at hb))
       | ((with_reducible first | refine Or.inl (And.intro ?_ ?_) | refine And.intro ?_ ?_); (focus (first | with_reducible rfl | exact trivial | (exact ⟨rfl, trivial⟩) | (exact ⟨rfl, rfl, trivial⟩) | omega | (intro r hr; simp only [List.mem_singleton] at hr; subst hr; rfl)  | ((simp only [List.length_map] at *; omega)) | ((simp only [in64, maxLen] at *; omega)) | (simp only [in64]; omega) | assumption | (simp; done) | (simp [V.cells]; done) | (simp [in64, maxLen, limK] at *; omega) | ((show confB _ _ = true); kernel_rfl) | rfl)))
       | (intro row hrow; (try simp only [Int.toNat_natCast, List.length_map, toNat_pred, toNat_succ', toNat_zero', toNat_one'] at hrow); (first | (have hsm := same_map (by assumption) hrow; subst hsm; clear hrow) | (obtain ⟨p, hp, rfl⟩ := of_map hrow; clear hrow)))))
      all_goals ((conv => whnf); (refine ⟨i + 1, ?_⟩); (refine And.intro ?_ (And.intro ?_ ?_)); (focus (refine ⟨⟨[0, 1], ?_⟩⟩; repeat' (first | (with_reducible rfl) | exact trivial | ((conv => whnf); (first | (with_reducible refine And.intro ?_ ?_) | (first | with_reducible rfl | ((first | refine congrArg V.str ?_ | refine congrArg (V.int _) ?_ | refine congrArg V.bool ?_ | refine congrArg V.sl ?_); (first | with_reducible rfl | omega | rfl | (simp; done))) | (first | with_reducible rfl | omega | rfl | (simp; done)) | rfl)))))); (focus (exact ⟨by omega, (eq_take hp hq hk2).2 rfl⟩)); (focus omega))
    · have hne := neq_of hp hq hpq
      have hne2 : ¬ a = b := fun e => hne (by rw [e])
      rw [decide_eq_false hne2]
      repeat' ((conv => whnf); (first
       | (with_reducible first | refine AW.seq ?_ | refine AW.region base (by kernel_rfl) ?_ | refine AW.cond ?_ | refine AW.block ?_ | refine AW.ret ?_ | refine AW.exit ?_ | refine AW.skip ?_ | refine Br.t ?_ | refine Br.f ?_)
       | (with_reducible refine Br.mkT (fun hb => (by (first | (simp at hb; done) | omega | (simp at hb; omega) | (simp only [List.length_map, decide_eq_true_eq, decide_eq_false_iff_not] at hb; omega) | (exact absurd (encWr_ext (by simpa using hb)) hpq) | fail))) (fun hb => ?_))
       | (with_reducible refine Br.mkF (fun hb => (by (first | (simp at hb; done) | omega | (simp at hb; omega) | (simp only [List.length_map, decide_eq_true_eq, decide_eq_false_iff_not] at hb; omega) | (exact absurd (encWr_ext (by simpa using hb)) hpq) | fail))) (fun hb => ?_))
       | ((with_reducible refine Or.inl ?_); (conv => whnf); (with_reducible refine And.intro LitSl.mk ?_))
       | refine Br.t ?_
       | refine Br.f ?_
       | (with_reducible refine Br.mk (fun hb => ?_) (fun hb => ?_) <;> (try rw [hb]) <;> (try simp only [List.length_map, decide_eq_true_eq, decide_eq_false_iff_not, Bool.not_eq_true', Bool.not_eq_false', Int.ofNat_lt, Int.ofNat_le, Int.not_lt, Int.not_le, Int.toNat_natCast] at hb))
       | ((with_reducible first | refine Or.inl (And.intro ?_ ?_) | refine And.intro ?_ ?_); (focus (first | with_reducible rfl | exact trivial | (exact ⟨rfl, trivial⟩) | (exact ⟨rfl, rfl, trivial⟩) | omega | (intro r hr; simp only [List.mem_singleton] at hr; subst hr; rfl)  | ((simp only [List.length_map] at *; omega)) | ((simp only [in64, maxLen] at *; omega)) | (simp only [in64]; omega) | assumption | (simp; done) | (simp [V.cells]; done) | (simp [in64, maxLen, limK] at *; omega) | ((show confB _ _ = true); kernel_rfl) | rfl)))
       | (intro row hrow; (try simp only [Int.toNat_natCast, List.length_map, toNat_pred, toNat_succ', toNat_zero', toNat_one'] at hrow); (first | (have hsm := same_map (by assumption) hrow; subst hsm; clear hrow) | (obtain ⟨p, hp, rfl⟩ := of_map hrow; clear hrow)))))
      all_goals ((conv => whnf); first | done | rfl)

set_option maxRecDepth 100000 in
set_option maxHeartbeats 1000000 in
theorem sameAn_fn (a b : AnV) (hl : a.rows.length ≤ 1000000) : Fn Tryd.prog 66 [.agg [.int .i64 a.code, .str a.val, .int .i64 a.ver, .sl (a.rows.map encRw)], .agg [.int .i64 b.code, .str b.val, .int .i64 b.ver, .sl (b.rows.map encRw)]] (.bool (decide (a = b))) := by
  refine Fn.mk' base Tryd.func66 rfl rfl rfl ?_
  repeat' ((conv => whnf); (first
   | (with_reducible first | refine AW.seq ?_ | refine AW.region base (by kernel_rfl) ?_ | refine AW.cond ?_ | refine AW.block ?_ | refine AW.ret ?_ | refine AW.exit ?_ | refine AW.skip ?_ | refine Br.t ?_ | refine Br.f ?_)
   | ((with_reducible refine Or.inl ?_); (conv => whnf); (with_reducible refine And.intro LitSl.mk ?_))
   | refine Br.t ?_
   | refine Br.f ?_
   | (with_reducible refine Br.mk (fun hb => ?_) (fun hb => ?_) <;> (try rw [hb]) <;> (try simp only [List.length_map, decide_eq_true_eq, decide_eq_false_iff_not, Bool.not_eq_true', Bool.not_eq_false', Int.ofNat_lt, Int.ofNat_le, Int.not_lt, Int.not_le, Int.toNat_natCast] at hb))
   | ((with_reducible first | refine Or.inl (And.intro ?_ ?_) | refine And.intro ?_ ?_); (focus (first | with_reducible rfl | exact trivial | (exact ⟨rfl, trivial⟩) | (exact ⟨rfl, rfl, trivial⟩) | omega | (intro r hr; simp only [List.mem_singleton] at hr; subst hr; rfl)  | ((simp only [List.length_map] at *; omega)) | ((simp only [in64, maxLen] at *; omega)) | (simp only [in64]; omega) | assumption | (simp; done) | (simp [V.cells]; done) | (simp [in64, maxLen, limK] at *; omega) | ((show confB _ _ = true); kernel_rfl) | rfl)))
   | (intro row hrow; (try simp only [Int.toNat_natCast, List.length_map, toNat_pred, toNat_succ', toNat_zero', toNat_one'] at hrow); (first | (have hsm := same_map (by assumption) hrow; subst hsm; clear hrow) | (obtain ⟨p, hp, rfl⟩ := of_map hrow; clear hrow)))))
  all_goals try ((conv => whnf); (refine congrArg V.bool ?_); symm; rw [decide_eq_false_iff_not]; intro e; subst e; simp_all; done)
  have hlm : a.rows.length = b.rows.length := by first | omega | (simp only [List.length_map] at *; omega) | (simp only [List.length_map, decide_eq_true_eq, decide_eq_false_iff_not] at *; omega)
  refine AW.loop (fun (i : Nat) => i ≤ a.rows.length ∧ a.rows.take i = b.rows.take i) (fun (i : Nat) => ⟨[(2, .ptr 0 0), (3, .ptr 1 0), (5, .int .i64 (i : Int))], [.cells [.int .i64 a.code, .str a.val, .int .i64 a.ver, .sl (a.rows.map encRw)], .cells [.int .i64 b.code, .str b.val, .int .i64 b.ver, .sl (b.rows.map encRw)]]⟩) (fun i => a.rows.length - i) 0 ?_ ?_ ?_
  · exact ⟨Nat.zero_le _, rfl⟩
  · (refine ⟨⟨[1000, 1001], ?_⟩⟩; repeat' (first | (with_reducible rfl) | exact trivial | ((conv => whnf); (first | (with_reducible refine And.intro ?_ ?_) | (first | with_reducible rfl | ((first | refine congrArg V.str ?_ | refine congrArg (V.int _) ?_ | refine congrArg V.bool ?_ | refine congrArg V.sl ?_); (first | with_reducible rfl | omega | rfl | (simp; done))) | (first | with_reducible rfl | omega | rfl | (simp; done)) | rfl)))))
  · rintro i hk
    obtain ⟨hk1, hk2⟩ := hk
    rcases (by omega : i = a.rows.length ∨ i < a.rows.length) with hi | hi
    · have e : a.rows = b.rows := by rw [hi, List.take_length, hlm, List.take_length] at hk2; exact hk2
      have e2 : a = b := an_ext.2 (by simp_all)
      rw [decide_eq_true e2]
      repeat' ((conv => whnf); (first
       | (with_reducible first | refine AW.seq ?_ | refine AW.region base (by kernel_rfl) ?_ | refine AW.cond ?_ | refine AW.block ?_ | refine AW.ret ?_ | refine AW.exit ?_ | refine AW.skip ?_ | refine Br.t ?_ | refine Br.f ?_)
       | (with_reducible refine Br.mkT (fun hb => (by (first | (simp at hb; done) | omega | (simp at hb; omega) | (simp only [List.length_map, decide_eq_true_eq, decide_eq_false_iff_not] at hb; omega) | fail))) (fun hb => ?_))
       | (with_reducible refine Br.mkF (fun hb => (by (first | (simp at hb; done) | omega | (simp at hb; omega) | (simp only [List.length_map, decide_eq_true_eq, decide_eq_false_iff_not] at hb; omega) | fail))) (fun hb => ?_))
       | ((with_reducible refine Or.inl ?_); (conv => whnf); (with_reducible refine And.intro LitSl.mk ?_))
       | refine Br.t ?_
       | refine Br.f ?_
       | (with_reducible refine Br.mk (fun hb => ?_) (fun hb => ?_) <;> (try rw [hb]) <;> (try simp only [List.length_map, decide_eq_true_eq, decide_eq_false_iff_not, Bool.not_eq_true', Bool.not_eq_false', Int.ofNat_lt, Int.ofNat_le, Int.not_lt, Int.not_le, Int.toNat_natCast] at hb))
       | ((with_reducible first | refine Or.inl (And.intro ?_ ?_) | refine And.intro ?_ ?_); (focus (first | with_reducible rfl | exact trivial | (exact ⟨rfl, trivial⟩) | (exact ⟨rfl, rfl, trivial⟩) | omega | (intro r hr; simp only [List.mem_singleton] at hr; subst hr; rfl)  | ((simp only [List.length_map] at *; omega)) | ((simp only [in64, maxLen] at *; omega)) | (simp only [in64]; omega) | assumption | (simp; done) | (simp [V.cells]; done) | (simp [in64, maxLen, limK] at *; omega) | ((show confB _ _ = true); kernel_rfl) | rfl)))
       | (intro row hrow; (try simp only [Int.toNat_natCast, List.length_map, toNat_pred, toNat_succ', toNat_zero', toNat_one'] at hrow); (first | (have hsm := same_map (by assumption) hrow; subst hsm; clear hrow) | (obtain ⟨p, hp, rfl⟩ := of_map hrow; clear hrow)))))
      all_goals ((conv => whnf); first | done | rfl)
    obtain ⟨p, hp⟩ : ∃ p, a.rows[i]? = some p := ⟨_, List.getElem?_eq_getElem hi⟩
    obtain ⟨q, hq⟩ : ∃ q, b.rows[i]? = some q := ⟨_, List.getElem?_eq_getElem (by omega)⟩
    by_cases hpq : p = q
    · subst hpq
      repeat' ((conv => whnf); (first
       | (with_reducible first | refine AW.seq ?_ | refine AW.region base (by kernel_rfl) ?_ | refine AW.cond ?_ | refine AW.block ?_ | refine AW.ret ?_ | refine AW.exit ?_ | refine AW.skip ?_ | refine Br.t ?_ | refine Br.f ?_)
       | (with_reducible refine Br.mkT (fun hb => (by (first | (simp at hb; done) | omega | (simp at hb; omega) | (simp only [List.length_map, decide_eq_true_eq, decide_eq_false_iff_not] at hb; omega) | fail))) (fun hb => ?_))
       | (with_reducible refine Br.mkF (fun hb => (by (first | (simp at hb; done) | omega | (simp at hb; omega) | (simp only [List.length_map, decide_eq_true_eq, decide_eq_false_iff_not] at hb; omega) | fail))) (fun hb => ?_))
       | ((with_reducible refine Or.inl ?_); (conv => whnf); (with_reducible refine And.intro LitSl.mk ?_))
       | refine Br.t ?_
       | refine Br.f ?_
       | (with_reducible refine Br.mk (fun hb => ?_) (fun hb => ?_) <;> (try rw [hb]) <;> (try simp only [List.length_map, decide_eq_true_eq, decide_eq_false_iff_not, Bool.not_eq_true', Bool.not_eq_false', Int.ofNat_lt, Int.ofNat_le, Int.not_lt, Int.not_le, Int.toNat_natCast] at hb))
       | ((with_reducible first | refine Or.inl (And.intro ?_ ?_) | refine And.intro ?_ ?_); (focus (first | with_reducible rfl | exact trivial | (exact ⟨rfl, trivial⟩) | (exact ⟨rfl, rfl, trivial⟩) | omega | (intro r hr; simp only [List.mem_singleton] at hr; subst hr; rfl)  | ((simp only [List.length_map] at *; omega)) | ((simp only [in64, maxLen] at *; omega)) | (simp only [in64]; omega) | assumption | (simp; done) | (simp [V.cells]; done) | (simp [in64, maxLen, limK] at *; omega) | ((show confB _ _ = true); kernel_rfl) | rfl)))
       | (intro row hrow; (try simp only [Int.toNat_natCast, List.length_map, toNat_pred, toNat_succ', toNat_zero', toNat_one'] at hrow); (first | (have hsm := same_map (by assumption) hrow; subst hsm; clear hrow) | (obtain ⟨p, hp, rfl⟩ := of_map hrow; clear hrow)))))
      all_goals ((conv => whnf); (refine ⟨i + 1, ?_⟩); (refine And.intro ?_ (And.intro ?_ ?_)); (focus (refine ⟨⟨[0, 1], ?_⟩⟩; repeat' (first | (with_reducible rfl) | exact trivial | ((conv => whnf); (first | (with_reducible refine And.intro ?_ ?_) | (first | with_reducible rfl | ((first | refine congrArg V.str ?_ | refine congrArg (V.int _) ?_ | refine congrArg V.bool ?_ | refine congrArg V.sl ?_); (first | with_reducible rfl | omega | rfl | (simp; done))) | (first | with_reducible rfl | omega | rfl | (simp; done)) | rfl)))))); (focus (exact ⟨by omega, (eq_take hp hq hk2).2 rfl⟩)); (focus omega))
    · have hne := neq_of hp hq hpq
      have hne2 : ¬ a = b := fun e => hne (by rw [e])
      rw [decide_eq_false hne2]
      repeat' ((conv => whnf); (first
       | (with_reducible first | refine AW.seq ?_ | refine AW.region base (by kernel_rfl) ?_ | refine AW.cond ?_ | refine AW.block ?_ | refine AW.ret ?_ | refine AW.exit ?_ | refine AW.skip ?_ | refine Br.t ?_ | refine Br.f ?_)
       | (with_reducible refine Br.mkT (fun hb => (by (first | (simp at hb; done) | omega | (simp at hb; omega) | (simp only [List.length_map, decide_eq_true_eq, decide_eq_false_iff_not] at hb; omega) | (exact absurd (encRw_ext (by simpa using hb)) hpq) | fail))) (fun hb => ?_))
       | (with_reducible refine Br.mkF (fun hb => (by (first | (simp at hb; done) | omega | (simp at hb; omega) | (simp only [List.length_map, decide_eq_true_eq, decide_eq_false_iff_not] at hb; omega) | (exact absurd (encRw_ext (by simpa using hb)) hpq) | fail))) (fun hb => ?_))
       | ((with_reducible refine Or.inl ?_); (conv => whnf); (with_reducible refine And.intro LitSl.mk ?_))
       | refine Br.t ?_
       | refine Br.f ?_
       | (with_reducible refine Br.mk (fun hb => ?_) (fun hb => ?_) <;> (try rw [hb]) <;> (try simp only [List.length_map, decide_eq_true_eq, decide_eq_false_iff_not, Bool.not_eq_true', Bool.not_eq_false', Int.ofNat_lt, Int.ofNat_le, Int.not_lt, Int.not_le, Int.toNat_natCast] at hb))
       | ((with_reducible first | refine Or.inl (And.intro ?_ ?_) | refine And.intro ?_ ?_); (focus (first | with_reducible rfl | exact trivial | (exact ⟨rfl, trivial⟩) | (exact ⟨rfl, rfl, trivial⟩) | omega | (intro r hr; simp only [List.mem_singleton] at hr; subst hr; rfl)  | ((simp only [List.length_map] at *; omega)) | ((simp only [in64, maxLen] at *; omega)) | (simp only [in64]; omega) | assumption | (simp; done) | (simp [V.cells]; done) | (simp [in64, maxLen, limK] at *; omega) | ((show confB _ _ = true); kernel_rfl) | rfl)))
       | (intro row hrow; (try simp only [Int.toNat_natCast, List.length_map, toNat_pred, toNat_succ', toNat_zero', toNat_one'] at hrow); (first | (have hsm := same_map (by assumption) hrow; subst hsm; clear hrow) | (obtain ⟨p, hp, rfl⟩ := of_map hrow; clear hrow)))))
      all_goals ((conv => whnf); first | done | rfl)
end Go.Proofs.YtgjbhkbjdihddaaDoor
