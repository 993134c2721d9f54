/-
  Walks of package letter: whether two letters are alike. No conditions.
-/
import Derived.Test.YtgjbhkbjdihddaaDoorLetD
namespace Go.Proofs.YtgjbhkbjdihddaaDoor
open Go.RowKit
set_option linter.unusedSimpArgs false
set_option linter.unusedVariables false

theorem extSn {p q : Sn} (h : p.k = q.k ∧ p.n = q.n) : p = q := by
  cases p; cases q; simp at h; simp [h]

theorem extEvt {p q : Evt} (h : p.k = q.k ∧ p.n = q.n ∧ p.v = q.v ∧ p.d = q.d) : p = q := by
  cases p; cases q; simp at h; simp [h]

theorem extPlc {p q : Plc} (h : p.id = q.id ∧ p.ep = q.ep ∧ p.nd = q.nd ∧ p.f = q.f ∧ p.t = q.t) : p = q := by
  cases p; cases q; simp at h; simp [h]

set_option maxRecDepth 100000 in
set_option maxHeartbeats 400000 in
theorem sameSeen_fn (l m : List Sn) : Fn Tryd.prog 67 [.sl (l.map encN), .sl (m.map encN)] (.bool (decide (l = m))) := by
  refine Fn.mk' base Tryd.func67 rfl rfl rfl ?_
  refine AW.len 0 rfl (fun hlen => ?_)
  simp only [List.length_map, maxLen] at hlen
  refine AW.len 1 rfl (fun hlen2 => ?_)
  simp only [List.length_map, maxLen] at hlen2
  by_cases hlm : l.length = m.length
  case neg =>
    have hne : ¬ l = m := fun e => hlm (by rw [e])
    rw [decide_eq_false hne]
    repeat' ((conv => whnf); (first
     | (with_reducible first | refine AW.seq ?_ | refine AW.region base (by kernel_rfl) ?_ | refine AW.cond ?_ | refine AW.block ?_ | refine AW.ret ?_ | refine AW.exit ?_ | refine AW.skip ?_ | refine Br.t ?_ | refine Br.f ?_)
     | (with_reducible refine Br.mkT (fun hb => (by (first | (simp at hb; done) | omega | (simp at hb; omega) | (simp only [List.length_map, decide_eq_true_eq, decide_eq_false_iff_not] at hb; omega) | fail))) (fun hb => ?_))
     | (with_reducible refine Br.mkF (fun hb => (by (first | (simp at hb; done) | omega | (simp at hb; omega) | (simp only [List.length_map, decide_eq_true_eq, decide_eq_false_iff_not] at hb; omega) | fail))) (fun hb => ?_))
     | ((with_reducible refine Or.inl ?_); (conv => whnf); (with_reducible refine And.intro LitSl.mk ?_))
     | refine Br.t ?_
     | refine Br.f ?_
     | (with_reducible refine Br.mk (fun hb => ?_) (fun hb => ?_) <;> (try rw [hb]) <;> (try simp only [List.length_map, decide_eq_true_eq, decide_eq_false_iff_not, Bool.not_eq_true', Bool.not_eq_false', Int.ofNat_lt, Int.ofNat_le, Int.not_lt, Int.not_le, Int.toNat_natCast] at hb))
     | ((with_reducible first | refine Or.inl (And.intro ?_ ?_) | refine And.intro ?_ ?_); (focus (first | with_reducible rfl | exact trivial | (exact ⟨rfl, trivial⟩) | (exact ⟨rfl, rfl, trivial⟩) | omega | (intro r hr; simp only [List.mem_singleton] at hr; subst hr; rfl)  | ((simp only [List.length_map] at *; omega)) | ((simp only [in64, maxLen] at *; omega)) | (simp only [in64]; omega) | assumption | (simp; done) | (simp [V.cells]; done) | (simp [in64, maxLen, limK] at *; omega) | ((show confB _ _ = true); kernel_rfl) | rfl)))
     | (intro row hrow; (try simp only [Int.toNat_natCast, List.length_map, toNat_pred, toNat_succ', toNat_zero', toNat_one'] at hrow); (first | (have hsm := same_map (by assumption) hrow; subst hsm; clear hrow) | (obtain ⟨p, hp, rfl⟩ := of_map hrow; clear hrow)))))
    all_goals ((conv => whnf); first | done | rfl)
  repeat' ((conv => whnf); (first
   | (with_reducible first | refine AW.seq ?_ | refine AW.region base (by kernel_rfl) ?_ | refine AW.cond ?_ | refine AW.block ?_ | refine AW.ret ?_ | refine AW.exit ?_ | refine AW.skip ?_ | refine Br.t ?_ | refine Br.f ?_)
   | (with_reducible refine Br.mkT (fun hb => (by (first | (simp at hb; done) | omega | (simp at hb; omega) | (simp only [List.length_map, decide_eq_true_eq, decide_eq_false_iff_not] at hb; omega) | fail))) (fun hb => ?_))
   | (with_reducible refine Br.mkF (fun hb => (by (first | (simp at hb; done) | omega | (simp at hb; omega) | (simp only [List.length_map, decide_eq_true_eq, decide_eq_false_iff_not] at hb; omega) | fail))) (fun hb => ?_))
   | ((with_reducible refine Or.inl ?_); (conv => whnf); (with_reducible refine And.intro LitSl.mk ?_))
   | refine Br.t ?_
   | refine Br.f ?_
   | (with_reducible refine Br.mk (fun hb => ?_) (fun hb => ?_) <;> (try rw [hb]) <;> (try simp only [List.length_map, decide_eq_true_eq, decide_eq_false_iff_not, Bool.not_eq_true', Bool.not_eq_false', Int.ofNat_lt, Int.ofNat_le, Int.not_lt, Int.not_le, Int.toNat_natCast] at hb))
   | ((with_reducible first | refine Or.inl (And.intro ?_ ?_) | refine And.intro ?_ ?_); (focus (first | with_reducible rfl | exact trivial | (exact ⟨rfl, trivial⟩) | (exact ⟨rfl, rfl, trivial⟩) | omega | (intro r hr; simp only [List.mem_singleton] at hr; subst hr; rfl)  | ((simp only [List.length_map] at *; omega)) | ((simp only [in64, maxLen] at *; omega)) | (simp only [in64]; omega) | assumption | (simp; done) | (simp [V.cells]; done) | (simp [in64, maxLen, limK] at *; omega) | ((show confB _ _ = true); kernel_rfl) | rfl)))
   | (intro row hrow; (try simp only [Int.toNat_natCast, List.length_map, toNat_pred, toNat_succ', toNat_zero', toNat_one'] at hrow); (first | (have hsm := same_map (by assumption) hrow; subst hsm; clear hrow) | (obtain ⟨p, hp, rfl⟩ := of_map hrow; clear hrow)))))
  refine AW.loop (fun (i : Nat) => i ≤ l.length ∧ l.take i = m.take i) (fun (i : Nat) => ⟨[(0, .sl (l.map encN)), (1, .sl (m.map encN)), (5, .int .i64 (i : Int))], []⟩) (fun i => l.length - i) 0 ?_ ?_ ?_
  · exact ⟨Nat.zero_le _, rfl⟩
  · (refine ⟨⟨[], ?_⟩⟩; repeat' (first | (with_reducible rfl) | exact trivial | ((conv => whnf); (first | (with_reducible refine And.intro ?_ ?_) | (first | with_reducible rfl | ((first | refine congrArg V.str ?_ | refine congrArg (V.int _) ?_ | refine congrArg V.bool ?_ | refine congrArg V.sl ?_); (first | with_reducible rfl | omega | rfl | (simp; done))) | (first | with_reducible rfl | omega | rfl | (simp; done)) | rfl)))))
  · rintro i hk
    obtain ⟨hk1, hk2⟩ := hk
    rcases (by omega : i = l.length ∨ i < l.length) with hi | hi
    · have e : l = m := by rw [hi, List.take_length, hlm, List.take_length] at hk2; exact hk2
      rw [decide_eq_true e]
      repeat' ((conv => whnf); (first
       | (with_reducible first | refine AW.seq ?_ | refine AW.region base (by kernel_rfl) ?_ | refine AW.cond ?_ | refine AW.block ?_ | refine AW.ret ?_ | refine AW.exit ?_ | refine AW.skip ?_ | refine Br.t ?_ | refine Br.f ?_)
       | (with_reducible refine Br.mkT (fun hb => (by (first | (simp at hb; done) | omega | (simp at hb; omega) | (simp only [List.length_map, decide_eq_true_eq, decide_eq_false_iff_not] at hb; omega) | fail))) (fun hb => ?_))
       | (with_reducible refine Br.mkF (fun hb => (by (first | (simp at hb; done) | omega | (simp at hb; omega) | (simp only [List.length_map, decide_eq_true_eq, decide_eq_false_iff_not] at hb; omega) | fail))) (fun hb => ?_))
       | ((with_reducible refine Or.inl ?_); (conv => whnf); (with_reducible refine And.intro LitSl.mk ?_))
       | refine Br.t ?_
       | refine Br.f ?_
       | (with_reducible refine Br.mk (fun hb => ?_) (fun hb => ?_) <;> (try rw [hb]) <;> (try simp only [List.length_map, decide_eq_true_eq, decide_eq_false_iff_not, Bool.not_eq_true', Bool.not_eq_false', Int.ofNat_lt, Int.ofNat_le, Int.not_lt, Int.not_le, Int.toNat_natCast] at hb))
       | ((with_reducible first | refine Or.inl (And.intro ?_ ?_) | refine And.intro ?_ ?_); (focus (first | with_reducible rfl | exact trivial | (exact ⟨rfl, trivial⟩) | (exact ⟨rfl, rfl, trivial⟩) | omega | (intro r hr; simp only [List.mem_singleton] at hr; subst hr; rfl)  | ((simp only [List.length_map] at *; omega)) | ((simp only [in64, maxLen] at *; omega)) | (simp only [in64]; omega) | assumption | (simp; done) | (simp [V.cells]; done) | (simp [in64, maxLen, limK] at *; omega) | ((show confB _ _ = true); kernel_rfl) | rfl)))
       | (intro row hrow; (try simp only [Int.toNat_natCast, List.length_map, toNat_pred, toNat_succ', toNat_zero', toNat_one'] at hrow); (first | (have hsm := same_map (by assumption) hrow; subst hsm; clear hrow) | (obtain ⟨p, hp, rfl⟩ := of_map hrow; clear hrow)))))
      all_goals ((conv => whnf); first | done | rfl)
    obtain ⟨p, hp⟩ : ∃ p, l[i]? = some p := ⟨_, List.getElem?_eq_getElem hi⟩
    obtain ⟨q, hq⟩ : ∃ q, m[i]? = some q := ⟨_, List.getElem?_eq_getElem (by omega)⟩
    by_cases hpq : p = q
    · subst hpq
      repeat' ((conv => whnf); (first
       | (with_reducible first | refine AW.seq ?_ | refine AW.region base (by kernel_rfl) ?_ | refine AW.cond ?_ | refine AW.block ?_ | refine AW.ret ?_ | refine AW.exit ?_ | refine AW.skip ?_ | refine Br.t ?_ | refine Br.f ?_)
       | (with_reducible refine Br.mkT (fun hb => (by (first | (simp at hb; done) | omega | (simp at hb; omega) | (simp only [List.length_map, decide_eq_true_eq, decide_eq_false_iff_not] at hb; omega) | fail))) (fun hb => ?_))
       | (with_reducible refine Br.mkF (fun hb => (by (first | (simp at hb; done) | omega | (simp at hb; omega) | (simp only [List.length_map, decide_eq_true_eq, decide_eq_false_iff_not] at hb; omega) | fail))) (fun hb => ?_))
       | ((with_reducible refine Or.inl ?_); (conv => whnf); (with_reducible refine And.intro LitSl.mk ?_))
       | refine Br.t ?_
       | refine Br.f ?_
       | (with_reducible refine Br.mk (fun hb => ?_) (fun hb => ?_) <;> (try rw [hb]) <;> (try simp only [List.length_map, decide_eq_true_eq, decide_eq_false_iff_not, Bool.not_eq_true', Bool.not_eq_false', Int.ofNat_lt, Int.ofNat_le, Int.not_lt, Int.not_le, Int.toNat_natCast] at hb))
       | ((with_reducible first | refine Or.inl (And.intro ?_ ?_) | refine And.intro ?_ ?_); (focus (first | with_reducible rfl | exact trivial | (exact ⟨rfl, trivial⟩) | (exact ⟨rfl, rfl, trivial⟩) | omega | (intro r hr; simp only [List.mem_singleton] at hr; subst hr; rfl)  | ((simp only [List.length_map] at *; omega)) | ((simp only [in64, maxLen] at *; omega)) | (simp only [in64]; omega) | assumption | (simp; done) | (simp [V.cells]; done) | (simp [in64, maxLen, limK] at *; omega) | ((show confB _ _ = true); kernel_rfl) | rfl)))
       | (intro row hrow; (try simp only [Int.toNat_natCast, List.length_map, toNat_pred, toNat_succ', toNat_zero', toNat_one'] at hrow); (first | (have hsm := same_map (by assumption) hrow; subst hsm; clear hrow) | (obtain ⟨p, hp, rfl⟩ := of_map hrow; clear hrow)))))
      all_goals ((conv => whnf); (refine ⟨i + 1, ?_⟩); (refine And.intro ?_ (And.intro ?_ ?_)); (focus (refine ⟨⟨[], ?_⟩⟩; repeat' (first | (with_reducible rfl) | exact trivial | ((conv => whnf); (first | (with_reducible refine And.intro ?_ ?_) | (first | with_reducible rfl | ((first | refine congrArg V.str ?_ | refine congrArg (V.int _) ?_ | refine congrArg V.bool ?_ | refine congrArg V.sl ?_); (first | with_reducible rfl | omega | rfl | (simp; done))) | (first | with_reducible rfl | omega | rfl | (simp; done)) | rfl)))))); (focus (exact ⟨by omega, (eq_take hp hq hk2).2 rfl⟩)); (focus omega))
    · have hne := neq_of hp hq hpq
      rw [decide_eq_false hne]
      repeat' ((conv => whnf); (first
       | (with_reducible first | refine AW.seq ?_ | refine AW.region base (by kernel_rfl) ?_ | refine AW.cond ?_ | refine AW.block ?_ | refine AW.ret ?_ | refine AW.exit ?_ | refine AW.skip ?_ | refine Br.t ?_ | refine Br.f ?_)
       | (with_reducible refine Br.mkT (fun hb => (by (first | (simp at hb; done) | omega | (simp at hb; omega) | (simp only [List.length_map, decide_eq_true_eq, decide_eq_false_iff_not] at hb; omega) | (exact absurd (extSn (by simpa using hb)) hpq) | (exact absurd (extSn (by simpa [and_assoc] using hb)) hpq) | fail))) (fun hb => ?_))
       | (with_reducible refine Br.mkF (fun hb => (by (first | (simp at hb; done) | omega | (simp at hb; omega) | (simp only [List.length_map, decide_eq_true_eq, decide_eq_false_iff_not] at hb; omega) | (exact absurd (extSn (by simpa using hb)) hpq) | (exact absurd (extSn (by simpa [and_assoc] using hb)) hpq) | fail))) (fun hb => ?_))
       | ((with_reducible refine Or.inl ?_); (conv => whnf); (with_reducible refine And.intro LitSl.mk ?_))
       | refine Br.t ?_
       | refine Br.f ?_
       | (with_reducible refine Br.mk (fun hb => ?_) (fun hb => ?_) <;> (try rw [hb]) <;> (try simp only [List.length_map, decide_eq_true_eq, decide_eq_false_iff_not, Bool.not_eq_true', Bool.not_eq_false', Int.ofNat_lt, Int.ofNat_le, Int.not_lt, Int.not_le, Int.toNat_natCast] at hb))
       | ((with_reducible first | refine Or.inl (And.intro ?_ ?_) | refine And.intro ?_ ?_); (focus (first | with_reducible rfl | exact trivial | (exact ⟨rfl, trivial⟩) | (exact ⟨rfl, rfl, trivial⟩) | omega | (intro r hr; simp only [List.mem_singleton] at hr; subst hr; rfl)  | ((simp only [List.length_map] at *; omega)) | ((simp only [in64, maxLen] at *; omega)) | (simp only [in64]; omega) | assumption | (simp; done) | (simp [V.cells]; done) | (simp [in64, maxLen, limK] at *; omega) | ((show confB _ _ = true); kernel_rfl) | rfl)))
       | (intro row hrow; (try simp only [Int.toNat_natCast, List.length_map, toNat_pred, toNat_succ', toNat_zero', toNat_one'] at hrow); (first | (have hsm := same_map (by assumption) hrow; subst hsm; clear hrow) | (obtain ⟨p, hp, rfl⟩ := of_map hrow; clear hrow)))))
      all_goals ((conv => whnf); first | done | rfl)

set_option maxRecDepth 100000 in
set_option maxHeartbeats 400000 in
theorem sameEvents_fn (l m : List Evt) : Fn Tryd.prog 68 [.sl (l.map encE), .sl (m.map encE)] (.bool (decide (l = m))) := by
  refine Fn.mk' base Tryd.func68 rfl rfl rfl ?_
  refine AW.len 0 rfl (fun hlen => ?_)
  simp only [List.length_map, maxLen] at hlen
  refine AW.len 1 rfl (fun hlen2 => ?_)
  simp only [List.length_map, maxLen] at hlen2
  by_cases hlm : l.length = m.length
  case neg =>
    have hne : ¬ l = m := fun e => hlm (by rw [e])
    rw [decide_eq_false hne]
    repeat' ((conv => whnf); (first
     | (with_reducible first | refine AW.seq ?_ | refine AW.region base (by kernel_rfl) ?_ | refine AW.cond ?_ | refine AW.block ?_ | refine AW.ret ?_ | refine AW.exit ?_ | refine AW.skip ?_ | refine Br.t ?_ | refine Br.f ?_)
     | (with_reducible refine Br.mkT (fun hb => (by (first | (simp at hb; done) | omega | (simp at hb; omega) | (simp only [List.length_map, decide_eq_true_eq, decide_eq_false_iff_not] at hb; omega) | fail))) (fun hb => ?_))
     | (with_reducible refine Br.mkF (fun hb => (by (first | (simp at hb; done) | omega | (simp at hb; omega) | (simp only [List.length_map, decide_eq_true_eq, decide_eq_false_iff_not] at hb; omega) | fail))) (fun hb => ?_))
     | ((with_reducible refine Or.inl ?_); (conv => whnf); (with_reducible refine And.intro LitSl.mk ?_))
     | refine Br.t ?_
     | refine Br.f ?_
     | (with_reducible refine Br.mk (fun hb => ?_) (fun hb => ?_) <;> (try rw [hb]) <;> (try simp only [List.length_map, decide_eq_true_eq, decide_eq_false_iff_not, Bool.not_eq_true', Bool.not_eq_false', Int.ofNat_lt, Int.ofNat_le, Int.not_lt, Int.not_le, Int.toNat_natCast] at hb))
     | ((with_reducible first | refine Or.inl (And.intro ?_ ?_) | refine And.intro ?_ ?_); (focus (first | with_reducible rfl | exact trivial | (exact ⟨rfl, trivial⟩) | (exact ⟨rfl, rfl, trivial⟩) | omega | (intro r hr; simp only [List.mem_singleton] at hr; subst hr; rfl)  | ((simp only [List.length_map] at *; omega)) | ((simp only [in64, maxLen] at *; omega)) | (simp only [in64]; omega) | assumption | (simp; done) | (simp [V.cells]; done) | (simp [in64, maxLen, limK] at *; omega) | ((show confB _ _ = true); kernel_rfl) | rfl)))
     | (intro row hrow; (try simp only [Int.toNat_natCast, List.length_map, toNat_pred, toNat_succ', toNat_zero', toNat_one'] at hrow); (first | (have hsm := same_map (by assumption) hrow; subst hsm; clear hrow) | (obtain ⟨p, hp, rfl⟩ := of_map hrow; clear hrow)))))
    all_goals ((conv => whnf); first | done | rfl)
  repeat' ((conv => whnf); (first
   | (with_reducible first | refine AW.seq ?_ | refine AW.region base (by kernel_rfl) ?_ | refine AW.cond ?_ | refine AW.block ?_ | refine AW.ret ?_ | refine AW.exit ?_ | refine AW.skip ?_ | refine Br.t ?_ | refine Br.f ?_)
   | (with_reducible refine Br.mkT (fun hb => (by (first | (simp at hb; done) | omega | (simp at hb; omega) | (simp only [List.length_map, decide_eq_true_eq, decide_eq_false_iff_not] at hb; omega) | fail))) (fun hb => ?_))
   | (with_reducible refine Br.mkF (fun hb => (by (first | (simp at hb; done) | omega | (simp at hb; omega) | (simp only [List.length_map, decide_eq_true_eq, decide_eq_false_iff_not] at hb; omega) | fail))) (fun hb => ?_))
   | ((with_reducible refine Or.inl ?_); (conv => whnf); (with_reducible refine And.intro LitSl.mk ?_))
   | refine Br.t ?_
   | refine Br.f ?_
   | (with_reducible refine Br.mk (fun hb => ?_) (fun hb => ?_) <;> (try rw [hb]) <;> (try simp only [List.length_map, decide_eq_true_eq, decide_eq_false_iff_not, Bool.not_eq_true', Bool.not_eq_false', Int.ofNat_lt, Int.ofNat_le, Int.not_lt, Int.not_le, Int.toNat_natCast] at hb))
   | ((with_reducible first | refine Or.inl (And.intro ?_ ?_) | refine And.intro ?_ ?_); (focus (first | with_reducible rfl | exact trivial | (exact ⟨rfl, trivial⟩) | (exact ⟨rfl, rfl, trivial⟩) | omega | (intro r hr; simp only [List.mem_singleton] at hr; subst hr; rfl)  | ((simp only [List.length_map] at *; omega)) | ((simp only [in64, maxLen] at *; omega)) | (simp only [in64]; omega) | assumption | (simp; done) | (simp [V.cells]; done) | (simp [in64, maxLen, limK] at *; omega) | ((show confB _ _ = true); kernel_rfl) | rfl)))
   | (intro row hrow; (try simp only [Int.toNat_natCast, List.length_map, toNat_pred, toNat_succ', toNat_zero', toNat_one'] at hrow); (first | (have hsm := same_map (by assumption) hrow; subst hsm; clear hrow) | (obtain ⟨p, hp, rfl⟩ := of_map hrow; clear hrow)))))
  refine AW.loop (fun (i : Nat) => i ≤ l.length ∧ l.take i = m.take i) (fun (i : Nat) => ⟨[(0, .sl (l.map encE)), (1, .sl (m.map encE)), (5, .int .i64 (i : Int))], []⟩) (fun i => l.length - i) 0 ?_ ?_ ?_
  · exact ⟨Nat.zero_le _, rfl⟩
  · (refine ⟨⟨[], ?_⟩⟩; repeat' (first | (with_reducible rfl) | exact trivial | ((conv => whnf); (first | (with_reducible refine And.intro ?_ ?_) | (first | with_reducible rfl | ((first | refine congrArg V.str ?_ | refine congrArg (V.int _) ?_ | refine congrArg V.bool ?_ | refine congrArg V.sl ?_); (first | with_reducible rfl | omega | rfl | (simp; done))) | (first | with_reducible rfl | omega | rfl | (simp; done)) | rfl)))))
  · rintro i hk
    obtain ⟨hk1, hk2⟩ := hk
    rcases (by omega : i = l.length ∨ i < l.length) with hi | hi
    · have e : l = m := by rw [hi, List.take_length, hlm, List.take_length] at hk2; exact hk2
      rw [decide_eq_true e]
      repeat' ((conv => whnf); (first
       | (with_reducible first | refine AW.seq ?_ | refine AW.region base (by kernel_rfl) ?_ | refine AW.cond ?_ | refine AW.block ?_ | refine AW.ret ?_ | refine AW.exit ?_ | refine AW.skip ?_ | refine Br.t ?_ | refine Br.f ?_)
       | (with_reducible refine Br.mkT (fun hb => (by (first | (simp at hb; done) | omega | (simp at hb; omega) | (simp only [List.length_map, decide_eq_true_eq, decide_eq_false_iff_not] at hb; omega) | fail))) (fun hb => ?_))
       | (with_reducible refine Br.mkF (fun hb => (by (first | (simp at hb; done) | omega | (simp at hb; omega) | (simp only [List.length_map, decide_eq_true_eq, decide_eq_false_iff_not] at hb; omega) | fail))) (fun hb => ?_))
       | ((with_reducible refine Or.inl ?_); (conv => whnf); (with_reducible refine And.intro LitSl.mk ?_))
       | refine Br.t ?_
       | refine Br.f ?_
       | (with_reducible refine Br.mk (fun hb => ?_) (fun hb => ?_) <;> (try rw [hb]) <;> (try simp only [List.length_map, decide_eq_true_eq, decide_eq_false_iff_not, Bool.not_eq_true', Bool.not_eq_false', Int.ofNat_lt, Int.ofNat_le, Int.not_lt, Int.not_le, Int.toNat_natCast] at hb))
       | ((with_reducible first | refine Or.inl (And.intro ?_ ?_) | refine And.intro ?_ ?_); (focus (first | with_reducible rfl | exact trivial | (exact ⟨rfl, trivial⟩) | (exact ⟨rfl, rfl, trivial⟩) | omega | (intro r hr; simp only [List.mem_singleton] at hr; subst hr; rfl)  | ((simp only [List.length_map] at *; omega)) | ((simp only [in64, maxLen] at *; omega)) | (simp only [in64]; omega) | assumption | (simp; done) | (simp [V.cells]; done) | (simp [in64, maxLen, limK] at *; omega) | ((show confB _ _ = true); kernel_rfl) | rfl)))
       | (intro row hrow; (try simp only [Int.toNat_natCast, List.length_map, toNat_pred, toNat_succ', toNat_zero', toNat_one'] at hrow); (first | (have hsm := same_map (by assumption) hrow; subst hsm; clear hrow) | (obtain ⟨p, hp, rfl⟩ := of_map hrow; clear hrow)))))
      all_goals ((conv => whnf); first | done | rfl)
    obtain ⟨p, hp⟩ : ∃ p, l[i]? = some p := ⟨_, List.getElem?_eq_getElem hi⟩
    obtain ⟨q, hq⟩ : ∃ q, m[i]? = some q := ⟨_, List.getElem?_eq_getElem (by omega)⟩
    by_cases hpq : p = q
    · subst hpq
      repeat' ((conv => whnf); (first
       | (with_reducible first | refine AW.seq ?_ | refine AW.region base (by kernel_rfl) ?_ | refine AW.cond ?_ | refine AW.block ?_ | refine AW.ret ?_ | refine AW.exit ?_ | refine AW.skip ?_ | refine Br.t ?_ | refine Br.f ?_)
       | (with_reducible refine Br.mkT (fun hb => (by (first | (simp at hb; done) | omega | (simp at hb; omega) | (simp only [List.length_map, decide_eq_true_eq, decide_eq_false_iff_not] at hb; omega) | fail))) (fun hb => ?_))
       | (with_reducible refine Br.mkF (fun hb => (by (first | (simp at hb; done) | omega | (simp at hb; omega) | (simp only [List.length_map, decide_eq_true_eq, decide_eq_false_iff_not] at hb; omega) | fail))) (fun hb => ?_))
       | ((with_reducible refine Or.inl ?_); (conv => whnf); (with_reducible refine And.intro LitSl.mk ?_))
       | refine Br.t ?_
       | refine Br.f ?_
       | (with_reducible refine Br.mk (fun hb => ?_) (fun hb => ?_) <;> (try rw [hb]) <;> (try simp only [List.length_map, decide_eq_true_eq, decide_eq_false_iff_not, Bool.not_eq_true', Bool.not_eq_false', Int.ofNat_lt, Int.ofNat_le, Int.not_lt, Int.not_le, Int.toNat_natCast] at hb))
       | ((with_reducible first | refine Or.inl (And.intro ?_ ?_) | refine And.intro ?_ ?_); (focus (first | with_reducible rfl | exact trivial | (exact ⟨rfl, trivial⟩) | (exact ⟨rfl, rfl, trivial⟩) | omega | (intro r hr; simp only [List.mem_singleton] at hr; subst hr; rfl)  | ((simp only [List.length_map] at *; omega)) | ((simp only [in64, maxLen] at *; omega)) | (simp only [in64]; omega) | assumption | (simp; done) | (simp [V.cells]; done) | (simp [in64, maxLen, limK] at *; omega) | ((show confB _ _ = true); kernel_rfl) | rfl)))
       | (intro row hrow; (try simp only [Int.toNat_natCast, List.length_map, toNat_pred, toNat_succ', toNat_zero', toNat_one'] at hrow); (first | (have hsm := same_map (by assumption) hrow; subst hsm; clear hrow) | (obtain ⟨p, hp, rfl⟩ := of_map hrow; clear hrow)))))
      all_goals ((conv => whnf); (refine ⟨i + 1, ?_⟩); (refine And.intro ?_ (And.intro ?_ ?_)); (focus (refine ⟨⟨[], ?_⟩⟩; repeat' (first | (with_reducible rfl) | exact trivial | ((conv => whnf); (first | (with_reducible refine And.intro ?_ ?_) | (first | with_reducible rfl | ((first | refine congrArg V.str ?_ | refine congrArg (V.int _) ?_ | refine congrArg V.bool ?_ | refine congrArg V.sl ?_); (first | with_reducible rfl | omega | rfl | (simp; done))) | (first | with_reducible rfl | omega | rfl | (simp; done)) | rfl)))))); (focus (exact ⟨by omega, (eq_take hp hq hk2).2 rfl⟩)); (focus omega))
    · have hne := neq_of hp hq hpq
      rw [decide_eq_false hne]
      repeat' ((conv => whnf); (first
       | (with_reducible first | refine AW.seq ?_ | refine AW.region base (by kernel_rfl) ?_ | refine AW.cond ?_ | refine AW.block ?_ | refine AW.ret ?_ | refine AW.exit ?_ | refine AW.skip ?_ | refine Br.t ?_ | refine Br.f ?_)
       | (with_reducible refine Br.mkT (fun hb => (by (first | (simp at hb; done) | omega | (simp at hb; omega) | (simp only [List.length_map, decide_eq_true_eq, decide_eq_false_iff_not] at hb; omega) | (exact absurd (extEvt (by simpa using hb)) hpq) | (exact absurd (extEvt (by simpa [and_assoc] using hb)) hpq) | fail))) (fun hb => ?_))
       | (with_reducible refine Br.mkF (fun hb => (by (first | (simp at hb; done) | omega | (simp at hb; omega) | (simp only [List.length_map, decide_eq_true_eq, decide_eq_false_iff_not] at hb; omega) | (exact absurd (extEvt (by simpa using hb)) hpq) | (exact absurd (extEvt (by simpa [and_assoc] using hb)) hpq) | fail))) (fun hb => ?_))
       | ((with_reducible refine Or.inl ?_); (conv => whnf); (with_reducible refine And.intro LitSl.mk ?_))
       | refine Br.t ?_
       | refine Br.f ?_
       | (with_reducible refine Br.mk (fun hb => ?_) (fun hb => ?_) <;> (try rw [hb]) <;> (try simp only [List.length_map, decide_eq_true_eq, decide_eq_false_iff_not, Bool.not_eq_true', Bool.not_eq_false', Int.ofNat_lt, Int.ofNat_le, Int.not_lt, Int.not_le, Int.toNat_natCast] at hb))
       | ((with_reducible first | refine Or.inl (And.intro ?_ ?_) | refine And.intro ?_ ?_); (focus (first | with_reducible rfl | exact trivial | (exact ⟨rfl, trivial⟩) | (exact ⟨rfl, rfl, trivial⟩) | omega | (intro r hr; simp only [List.mem_singleton] at hr; subst hr; rfl)  | ((simp only [List.length_map] at *; omega)) | ((simp only [in64, maxLen] at *; omega)) | (simp only [in64]; omega) | assumption | (simp; done) | (simp [V.cells]; done) | (simp [in64, maxLen, limK] at *; omega) | ((show confB _ _ = true); kernel_rfl) | rfl)))
       | (intro row hrow; (try simp only [Int.toNat_natCast, List.length_map, toNat_pred, toNat_succ', toNat_zero', toNat_one'] at hrow); (first | (have hsm := same_map (by assumption) hrow; subst hsm; clear hrow) | (obtain ⟨p, hp, rfl⟩ := of_map hrow; clear hrow)))))
      all_goals ((conv => whnf); first | done | rfl)

set_option maxRecDepth 100000 in
set_option maxHeartbeats 400000 in
theorem samePlaces_fn (l m : List Plc) : Fn Tryd.prog 23 [.sl (l.map encP), .sl (m.map encP)] (.bool (decide (l = m))) := by
  refine Fn.mk' base Tryd.func23 rfl rfl rfl ?_
  refine AW.len 0 rfl (fun hlen => ?_)
  simp only [List.length_map, maxLen] at hlen
  refine AW.len 1 rfl (fun hlen2 => ?_)
  simp only [List.length_map, maxLen] at hlen2
  by_cases hlm : l.length = m.length
  case neg =>
    have hne : ¬ l = m := fun e => hlm (by rw [e])
    rw [decide_eq_false hne]
    repeat' ((conv => whnf); (first
     | (with_reducible first | refine AW.seq ?_ | refine AW.region base (by kernel_rfl) ?_ | refine AW.cond ?_ | refine AW.block ?_ | refine AW.ret ?_ | refine AW.exit ?_ | refine AW.skip ?_ | refine Br.t ?_ | refine Br.f ?_)
     | (with_reducible refine Br.mkT (fun hb => (by (first | (simp at hb; done) | omega | (simp at hb; omega) | (simp only [List.length_map, decide_eq_true_eq, decide_eq_false_iff_not] at hb; omega) | fail))) (fun hb => ?_))
     | (with_reducible refine Br.mkF (fun hb => (by (first | (simp at hb; done) | omega | (simp at hb; omega) | (simp only [List.length_map, decide_eq_true_eq, decide_eq_false_iff_not] at hb; omega) | fail))) (fun hb => ?_))
     | ((with_reducible refine Or.inl ?_); (conv => whnf); (with_reducible refine And.intro LitSl.mk ?_))
     | refine Br.t ?_
     | refine Br.f ?_
     | (with_reducible refine Br.mk (fun hb => ?_) (fun hb => ?_) <;> (try rw [hb]) <;> (try simp only [List.length_map, decide_eq_true_eq, decide_eq_false_iff_not, Bool.not_eq_true', Bool.not_eq_false', Int.ofNat_lt, Int.ofNat_le, Int.not_lt, Int.not_le, Int.toNat_natCast] at hb))
     | ((with_reducible first | refine Or.inl (And.intro ?_ ?_) | refine And.intro ?_ ?_); (focus (first | with_reducible rfl | exact trivial | (exact ⟨rfl, trivial⟩) | (exact ⟨rfl, rfl, trivial⟩) | omega | (intro r hr; simp only [List.mem_singleton] at hr; subst hr; rfl)  | ((simp only [List.length_map] at *; omega)) | ((simp only [in64, maxLen] at *; omega)) | (simp only [in64]; omega) | assumption | (simp; done) | (simp [V.cells]; done) | (simp [in64, maxLen, limK] at *; omega) | ((show confB _ _ = true); kernel_rfl) | rfl)))
     | (intro row hrow; (try simp only [Int.toNat_natCast, List.length_map, toNat_pred, toNat_succ', toNat_zero', toNat_one'] at hrow); (first | (have hsm := same_map (by assumption) hrow; subst hsm; clear hrow) | (obtain ⟨p, hp, rfl⟩ := of_map hrow; clear hrow)))))
    all_goals ((conv => whnf); first | done | rfl)
  repeat' ((conv => whnf); (first
   | (with_reducible first | refine AW.seq ?_ | refine AW.region base (by kernel_rfl) ?_ | refine AW.cond ?_ | refine AW.block ?_ | refine AW.ret ?_ | refine AW.exit ?_ | refine AW.skip ?_ | refine Br.t ?_ | refine Br.f ?_)
   | (with_reducible refine Br.mkT (fun hb => (by (first | (simp at hb; done) | omega | (simp at hb; omega) | (simp only [List.length_map, decide_eq_true_eq, decide_eq_false_iff_not] at hb; omega) | fail))) (fun hb => ?_))
   | (with_reducible refine Br.mkF (fun hb => (by (first | (simp at hb; done) | omega | (simp at hb; omega) | (simp only [List.length_map, decide_eq_true_eq, decide_eq_false_iff_not] at hb; omega) | fail))) (fun hb => ?_))
   | ((with_reducible refine Or.inl ?_); (conv => whnf); (with_reducible refine And.intro LitSl.mk ?_))
   | refine Br.t ?_
   | refine Br.f ?_
   | (with_reducible refine Br.mk (fun hb => ?_) (fun hb => ?_) <;> (try rw [hb]) <;> (try simp only [List.length_map, decide_eq_true_eq, decide_eq_false_iff_not, Bool.not_eq_true', Bool.not_eq_false', Int.ofNat_lt, Int.ofNat_le, Int.not_lt, Int.not_le, Int.toNat_natCast] at hb))
   | ((with_reducible first | refine Or.inl (And.intro ?_ ?_) | refine And.intro ?_ ?_); (focus (first | with_reducible rfl | exact trivial | (exact ⟨rfl, trivial⟩) | (exact ⟨rfl, rfl, trivial⟩) | omega | (intro r hr; simp only [List.mem_singleton] at hr; subst hr; rfl)  | ((simp only [List.length_map] at *; omega)) | ((simp only [in64, maxLen] at *; omega)) | (simp only [in64]; omega) | assumption | (simp; done) | (simp [V.cells]; done) | (simp [in64, maxLen, limK] at *; omega) | ((show confB _ _ = true); kernel_rfl) | rfl)))
   | (intro row hrow; (try simp only [Int.toNat_natCast, List.length_map, toNat_pred, toNat_succ', toNat_zero', toNat_one'] at hrow); (first | (have hsm := same_map (by assumption) hrow; subst hsm; clear hrow) | (obtain ⟨p, hp, rfl⟩ := of_map hrow; clear hrow)))))
  refine AW.loop (fun (i : Nat) => i ≤ l.length ∧ l.take i = m.take i) (fun (i : Nat) => ⟨[(0, .sl (l.map encP)), (1, .sl (m.map encP)), (5, .int .i64 (i : Int))], []⟩) (fun i => l.length - i) 0 ?_ ?_ ?_
  · exact ⟨Nat.zero_le _, rfl⟩
  · (refine ⟨⟨[], ?_⟩⟩; repeat' (first | (with_reducible rfl) | exact trivial | ((conv => whnf); (first | (with_reducible refine And.intro ?_ ?_) | (first | with_reducible rfl | ((first | refine congrArg V.str ?_ | refine congrArg (V.int _) ?_ | refine congrArg V.bool ?_ | refine congrArg V.sl ?_); (first | with_reducible rfl | omega | rfl | (simp; done))) | (first | with_reducible rfl | omega | rfl | (simp; done)) | rfl)))))
  · rintro i hk
    obtain ⟨hk1, hk2⟩ := hk
    rcases (by omega : i = l.length ∨ i < l.length) with hi | hi
    · have e : l = m := by rw [hi, List.take_length, hlm, List.take_length] at hk2; exact hk2
      rw [decide_eq_true e]
      repeat' ((conv => whnf); (first
       | (with_reducible first | refine AW.seq ?_ | refine AW.region base (by kernel_rfl) ?_ | refine AW.cond ?_ | refine AW.block ?_ | refine AW.ret ?_ | refine AW.exit ?_ | refine AW.skip ?_ | refine Br.t ?_ | refine Br.f ?_)
       | (with_reducible refine Br.mkT (fun hb => (by (first | (simp at hb; done) | omega | (simp at hb; omega) | (simp only [List.length_map, decide_eq_true_eq, decide_eq_false_iff_not] at hb; omega) | fail))) (fun hb => ?_))
       | (with_reducible refine Br.mkF (fun hb => (by (first | (simp at hb; done) | omega | (simp at hb; omega) | (simp only [List.length_map, decide_eq_true_eq, decide_eq_false_iff_not] at hb; omega) | fail))) (fun hb => ?_))
       | ((with_reducible refine Or.inl ?_); (conv => whnf); (with_reducible refine And.intro LitSl.mk ?_))
       | refine Br.t ?_
       | refine Br.f ?_
       | (with_reducible refine Br.mk (fun hb => ?_) (fun hb => ?_) <;> (try rw [hb]) <;> (try simp only [List.length_map, decide_eq_true_eq, decide_eq_false_iff_not, Bool.not_eq_true', Bool.not_eq_false', Int.ofNat_lt, Int.ofNat_le, Int.not_lt, Int.not_le, Int.toNat_natCast] at hb))
       | ((with_reducible first | refine Or.inl (And.intro ?_ ?_) | refine And.intro ?_ ?_); (focus (first | with_reducible rfl | exact trivial | (exact ⟨rfl, trivial⟩) | (exact ⟨rfl, rfl, trivial⟩) | omega | (intro r hr; simp only [List.mem_singleton] at hr; subst hr; rfl)  | ((simp only [List.length_map] at *; omega)) | ((simp only [in64, maxLen] at *; omega)) | (simp only [in64]; omega) | assumption | (simp; done) | (simp [V.cells]; done) | (simp [in64, maxLen, limK] at *; omega) | ((show confB _ _ = true); kernel_rfl) | rfl)))
       | (intro row hrow; (try simp only [Int.toNat_natCast, List.length_map, toNat_pred, toNat_succ', toNat_zero', toNat_one'] at hrow); (first | (have hsm := same_map (by assumption) hrow; subst hsm; clear hrow) | (obtain ⟨p, hp, rfl⟩ := of_map hrow; clear hrow)))))
      all_goals ((conv => whnf); first | done | rfl)
    obtain ⟨p, hp⟩ : ∃ p, l[i]? = some p := ⟨_, List.getElem?_eq_getElem hi⟩
    obtain ⟨q, hq⟩ : ∃ q, m[i]? = some q := ⟨_, List.getElem?_eq_getElem (by omega)⟩
    by_cases hpq : p = q
    · subst hpq
      repeat' ((conv => whnf); (first
       | (with_reducible first | refine AW.seq ?_ | refine AW.region base (by kernel_rfl) ?_ | refine AW.cond ?_ | refine AW.block ?_ | refine AW.ret ?_ | refine AW.exit ?_ | refine AW.skip ?_ | refine Br.t ?_ | refine Br.f ?_)
       | (with_reducible refine Br.mkT (fun hb => (by (first | (simp at hb; done) | omega | (simp at hb; omega) | (simp only [List.length_map, decide_eq_true_eq, decide_eq_false_iff_not] at hb; omega) | fail))) (fun hb => ?_))
       | (with_reducible refine Br.mkF (fun hb => (by (first | (simp at hb; done) | omega | (simp at hb; omega) | (simp only [List.length_map, decide_eq_true_eq, decide_eq_false_iff_not] at hb; omega) | fail))) (fun hb => ?_))
       | ((with_reducible refine Or.inl ?_); (conv => whnf); (with_reducible refine And.intro LitSl.mk ?_))
       | refine Br.t ?_
       | refine Br.f ?_
       | (with_reducible refine Br.mk (fun hb => ?_) (fun hb => ?_) <;> (try rw [hb]) <;> (try simp only [List.length_map, decide_eq_true_eq, decide_eq_false_iff_not, Bool.not_eq_true', Bool.not_eq_false', Int.ofNat_lt, Int.ofNat_le, Int.not_lt, Int.not_le, Int.toNat_natCast] at hb))
       | ((with_reducible first | refine Or.inl (And.intro ?_ ?_) | refine And.intro ?_ ?_); (focus (first | with_reducible rfl | exact trivial | (exact ⟨rfl, trivial⟩) | (exact ⟨rfl, rfl, trivial⟩) | omega | (intro r hr; simp only [List.mem_singleton] at hr; subst hr; rfl)  | ((simp only [List.length_map] at *; omega)) | ((simp only [in64, maxLen] at *; omega)) | (simp only [in64]; omega) | assumption | (simp; done) | (simp [V.cells]; done) | (simp [in64, maxLen, limK] at *; omega) | ((show confB _ _ = true); kernel_rfl) | rfl)))
       | (intro row hrow; (try simp only [Int.toNat_natCast, List.length_map, toNat_pred, toNat_succ', toNat_zero', toNat_one'] at hrow); (first | (have hsm := same_map (by assumption) hrow; subst hsm; clear hrow) | (obtain ⟨p, hp, rfl⟩ := of_map hrow; clear hrow)))))
      all_goals ((conv => whnf); (refine ⟨i + 1, ?_⟩); (refine And.intro ?_ (And.intro ?_ ?_)); (focus (refine ⟨⟨[], ?_⟩⟩; repeat' (first | (with_reducible rfl) | exact trivial | ((conv => whnf); (first | (with_reducible refine And.intro ?_ ?_) | (first | with_reducible rfl | ((first | refine congrArg V.str ?_ | refine congrArg (V.int _) ?_ | refine congrArg V.bool ?_ | refine congrArg V.sl ?_); (first | with_reducible rfl | omega | rfl | (simp; done))) | (first | with_reducible rfl | omega | rfl | (simp; done)) | rfl)))))); (focus (exact ⟨by omega, (eq_take hp hq hk2).2 rfl⟩)); (focus omega))
    · have hne := neq_of hp hq hpq
      rw [decide_eq_false hne]
      repeat' ((conv => whnf); (first
       | (with_reducible first | refine AW.seq ?_ | refine AW.region base (by kernel_rfl) ?_ | refine AW.cond ?_ | refine AW.block ?_ | refine AW.ret ?_ | refine AW.exit ?_ | refine AW.skip ?_ | refine Br.t ?_ | refine Br.f ?_)
       | (with_reducible refine Br.mkT (fun hb => (by (first | (simp at hb; done) | omega | (simp at hb; omega) | (simp only [List.length_map, decide_eq_true_eq, decide_eq_false_iff_not] at hb; omega) | (exact absurd (extPlc (by simpa using hb)) hpq) | (exact absurd (extPlc (by simpa [and_assoc] using hb)) hpq) | fail))) (fun hb => ?_))
       | (with_reducible refine Br.mkF (fun hb => (by (first | (simp at hb; done) | omega | (simp at hb; omega) | (simp only [List.length_map, decide_eq_true_eq, decide_eq_false_iff_not] at hb; omega) | (exact absurd (extPlc (by simpa using hb)) hpq) | (exact absurd (extPlc (by simpa [and_assoc] using hb)) hpq) | fail))) (fun hb => ?_))
       | ((with_reducible refine Or.inl ?_); (conv => whnf); (with_reducible refine And.intro LitSl.mk ?_))
       | refine Br.t ?_
       | refine Br.f ?_
       | (with_reducible refine Br.mk (fun hb => ?_) (fun hb => ?_) <;> (try rw [hb]) <;> (try simp only [List.length_map, decide_eq_true_eq, decide_eq_false_iff_not, Bool.not_eq_true', Bool.not_eq_false', Int.ofNat_lt, Int.ofNat_le, Int.not_lt, Int.not_le, Int.toNat_natCast] at hb))
       | ((with_reducible first | refine Or.inl (And.intro ?_ ?_) | refine And.intro ?_ ?_); (focus (first | with_reducible rfl | exact trivial | (exact ⟨rfl, trivial⟩) | (exact ⟨rfl, rfl, trivial⟩) | omega | (intro r hr; simp only [List.mem_singleton] at hr; subst hr; rfl)  | ((simp only [List.length_map] at *; omega)) | ((simp only [in64, maxLen] at *; omega)) | (simp only [in64]; omega) | assumption | (simp; done) | (simp [V.cells]; done) | (simp [in64, maxLen, limK] at *; omega) | ((show confB _ _ = true); kernel_rfl) | rfl)))
       | (intro row hrow; (try simp only [Int.toNat_natCast, List.length_map, toNat_pred, toNat_succ', toNat_zero', toNat_one'] at hrow); (first | (have hsm := same_map (by assumption) hrow; subst hsm; clear hrow) | (obtain ⟨p, hp, rfl⟩ := of_map hrow; clear hrow)))))
      all_goals ((conv => whnf); first | done | rfl)
end Go.Proofs.YtgjbhkbjdihddaaDoor
