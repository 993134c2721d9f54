/-
  A law of cells: the versions of a key. No conditions.
-/
import Derived.Test.YthcbffejjkmmfaaDoorLaw11
namespace Go.Proofs.YthcbffejjkmmfaaDoor
open Go.RowKit
set_option linter.unusedSimpArgs false
set_option linter.unusedVariables false

theorem Br.of_t {b : Bool} {p q : Prop} (hb : b = true) (h : p) : Br b p q := hb ▸ .t h
theorem Br.of_f {b : Bool} {p q : Prop} (hb : b = false) (h : q) : Br b p q := hb ▸ .f h

set_option maxRecDepth 100000 in
set_option maxHeartbeats 3000000 in
theorem cellVersions_fn (l : List Bs) : Fn Tryd.prog 6 [.sl (l.map fun s => [.str s])] (.bool true) := by
  refine Fn.mk' base Tryd.func6 rfl rfl rfl ?_
  refine AW.len 0 rfl (fun hlen => ?_)
  simp only [List.length_map, maxLen] at hlen
  repeat' (first
      | (with_reducible refine AW.seq ?_) | (with_reducible refine AW.region base (by kernel_rfl) ?_) | (with_reducible refine AW.cond ?_) | (with_reducible refine AW.block ?_) | (with_reducible refine AW.ret ?_) | (with_reducible refine AW.exit ?_) | (with_reducible refine AW.skip ?_)
      | ((conv => whnf); (first
         | (with_reducible refine Br.t ?_)
         | (with_reducible refine Br.f ?_)
         | (refine Br.t ?_)
         | (refine Br.f ?_)
         | (with_reducible refine Or.inl ⟨_, known11_fn, ?_⟩)
         | ((with_reducible refine Or.inl ?_); (conv => whnf); (with_reducible refine ⟨_, known11_fn, ?_⟩))
         | (with_reducible refine Br.mk (fun hb => ?_) (fun hb => ?_) <;> (try rw [hb]) <;> (try simp only [List.length_map, decide_eq_true_eq, decide_eq_false_iff_not, Bool.not_eq_true', Bool.not_eq_false', Int.ofNat_lt, Int.ofNat_le, Int.not_lt, Int.not_le, Int.toNat_natCast] at hb))
         | (with_reducible refine ⟨_, (by first | exact ByteRows.map _ | (repeat (first | exact ByteRows.nil | exact ByteRows.map _ | refine ByteRows.cons ?_ | refine ByteRows.app ?_ ?_))), ?_⟩)
         | (refine Exists.intro _ (And.intro (ByteRows.rep _) ?_))
         | (refine Exists.intro _ (And.intro (ByteRows.app (ByteRows.map _) (ByteRows.cons ByteRows.nil)) ?_))
         | ((with_reducible refine And.intro ?_ ?_); (focus (first | with_reducible rfl | exact trivial | (exact ⟨rfl, trivial⟩) | (exact ⟨rfl, rfl, trivial⟩) | omega | (intro r hr; simp only [List.mem_singleton] at hr; subst hr; rfl)  | ((simp only [in64] at *; omega)) | ((simp only [in64, maxLen] at *; omega)) | (simp only [in64]; omega) | assumption | (simp; done) | (simp [V.cells]; done) | (simp [in64, maxLen, limK] at *; omega) | ((show confB _ _ = true); kernel_rfl) | rfl)))
         | (intro row hrow; (try simp only [Int.toNat_natCast, List.length_map, toNat_pred, toNat_succ', toNat_zero', toNat_one'] at hrow); (first | (have hsm := same_map (by assumption) hrow; subst hsm; clear hrow) | (obtain ⟨p, hp, rfl⟩ := of_map hrow; clear hrow)))
         | (with_reducible refine AW.seq ?_) | (with_reducible refine AW.region base (by kernel_rfl) ?_) | (with_reducible refine AW.cond ?_) | (with_reducible refine AW.block ?_) | (with_reducible refine AW.ret ?_) | (with_reducible refine AW.exit ?_) | (with_reducible refine AW.skip ?_))))
  all_goals try ((conv => whnf); first | rfl | done)
  refine AW.loop (fun (⟨k, v, n, d, th⟩ : Nat × Bs × Int × Bool × Bool) => k ≤ l.length ∧ l.length ≤ 40 ∧ 0 ≤ n ∧ n ≤ k ∧ (n = 0 → d = false ∧ th = false) ∧ (0 < n → th = !d)) (fun (⟨k, v, n, d, th⟩ : Nat × Bs × Int × Bool × Bool) => ⟨[(0, .sl (l.map fun s => [.str s])), (3, .ptr 0 0), (4, .int .i64 n), (5, .bool th), (6, .int .i64 (k : Int))], [.cells [.str [107], .str v, .int .i64 n, .bool d, .int .i64 0]]⟩) (fun (⟨k, v, n, d, th⟩ : Nat × Bs × Int × Bool × Bool) => l.length - k) (0, [], 0, false, false) ?_ ?_ ?_
  · (simp at *; omega)
  · (refine ⟨⟨[?_], ?_⟩⟩; rotate_left 1; repeat' (first | (with_reducible rfl) | exact trivial | ((conv => whnf); (first | (with_reducible refine And.intro ?_ ?_) | (first | rfl | (refine congrArg V.str ?_; (first | rfl | omega | (simp; done))) | (refine congrArg (V.int _) ?_; (first | rfl | omega | (simp; done))) | (refine congrArg V.bool ?_; (first | rfl | omega | (simp; done))) | (refine congrArg V.sl ?_; (first | rfl | omega | (simp; done))) | (first | rfl | omega | (simp; done)))))))
  · rintro ⟨k, v, n, d, th⟩ hk
    obtain ⟨hk1, hk2, hk3, hk4, hk5, hk6⟩ := hk
    have hq : True := trivial
    have hpe2 : True := trivial
    rcases (show (n = 0 ∧ d = false ∧ th = false) ∨ (0 < n ∧ d = true ∧ th = false) ∨ (0 < n ∧ d = false ∧ th = true) by
      rcases (show n = 0 ∨ 0 < n by omega) with h | h
      · exact Or.inl ⟨h, hk5 h⟩
      · have := hk6 h; cases d <;> simp_all) with ⟨hn, rfl, rfl⟩ | ⟨hn, rfl, rfl⟩ | ⟨hn, rfl, rfl⟩ <;> clear hk5 hk6
    repeat' (first
        | (with_reducible refine AW.seq ?_) | (with_reducible refine AW.region base (by kernel_rfl) ?_) | (with_reducible refine AW.cond ?_) | (with_reducible refine AW.block ?_) | (with_reducible refine AW.ret ?_) | (with_reducible refine AW.exit ?_) | (with_reducible refine AW.skip ?_)
        | ((conv => whnf); (first
           | (with_reducible refine Br.t ?_)
           | (with_reducible refine Br.f ?_)
           | (with_reducible refine Br.of_t (by (first | (simp only [hq]; done) | (simp [hq, hpe2]; done) | fail)) ?_)
           | (with_reducible refine Br.of_f (by (first | (simp only [hq]; done) | (simp [hq, hpe2]; done) | fail)) ?_)
           | (with_reducible refine Br.mk (fun hb => ?_) (fun hb => (by exfalso; (first | (simp at hb; done) | (simp [thereB] at hb; done) | (simp at hb; omega) | (simp [hpe] at hb; done) | (simp [thereB] at hb; omega)))))
           | (with_reducible refine Br.mk (fun hb => (by exfalso; (first | (simp at hb; done) | (simp [thereB] at hb; done) | (simp at hb; omega) | (simp [hpe] at hb; done) | (simp [thereB] at hb; omega)))) (fun hb => ?_))
           | (refine Br.t ?_)
           | (refine Br.f ?_)
           | (with_reducible refine Or.inl ⟨_, put_large _ _ _ _ _ _ (by first | assumption | omega | (simp; done) | (simp at *; omega)), ?_⟩)
           | ((with_reducible refine Or.inl ?_); (conv => whnf); (with_reducible refine ⟨_, put_large _ _ _ _ _ _ (by first | assumption | omega | (simp; done) | (simp at *; omega)), ?_⟩))
           | (with_reducible refine Or.inl ⟨_, put_spent _ _ _ _ _ _ (by first | assumption | omega | (simp; done) | (simp at *; omega)) (by first | assumption | omega | (simp; done) | (simp at *; omega)), ?_⟩)
           | ((with_reducible refine Or.inl ?_); (conv => whnf); (with_reducible refine ⟨_, put_spent _ _ _ _ _ _ (by first | assumption | omega | (simp; done) | (simp at *; omega)) (by first | assumption | omega | (simp; done) | (simp at *; omega)), ?_⟩))
           | (with_reducible refine Or.inl ⟨_, put_ok _ _ _ _ _ _ (by first | assumption | omega | (simp; done) | (simp at *; omega)) (by first | assumption | omega | (simp; done) | (simp at *; omega)) (by first | assumption | omega | (simp; done) | (simp at *; omega)), ?_⟩)
           | ((with_reducible refine Or.inl ?_); (conv => whnf); (with_reducible refine ⟨_, put_ok _ _ _ _ _ _ (by first | assumption | omega | (simp; done) | (simp at *; omega)) (by first | assumption | omega | (simp; done) | (simp at *; omega)) (by first | assumption | omega | (simp; done) | (simp at *; omega)), ?_⟩))
           | (with_reducible refine Or.inl ⟨_, putr_large _ _ _ _ _ _ (by first | assumption | omega | (simp; done) | (simp at *; omega)), ?_⟩)
           | ((with_reducible refine Or.inl ?_); (conv => whnf); (with_reducible refine ⟨_, putr_large _ _ _ _ _ _ (by first | assumption | omega | (simp; done) | (simp at *; omega)), ?_⟩))
           | (with_reducible refine Or.inl ⟨_, putr_spent _ _ _ _ _ _ (by first | assumption | omega | (simp; done) | (simp at *; omega)) (by first | assumption | omega | (simp; done) | (simp at *; omega)), ?_⟩)
           | ((with_reducible refine Or.inl ?_); (conv => whnf); (with_reducible refine ⟨_, putr_spent _ _ _ _ _ _ (by first | assumption | omega | (simp; done) | (simp at *; omega)) (by first | assumption | omega | (simp; done) | (simp at *; omega)), ?_⟩))
           | (with_reducible refine Or.inl ⟨_, putr_ok _ _ _ _ _ _ (by first | assumption | omega | (simp; done) | (simp at *; omega)) (by first | assumption | omega | (simp; done) | (simp at *; omega)) (by first | assumption | omega | (simp; done) | (simp at *; omega)), ?_⟩)
           | ((with_reducible refine Or.inl ?_); (conv => whnf); (with_reducible refine ⟨_, putr_ok _ _ _ _ _ _ (by first | assumption | omega | (simp; done) | (simp at *; omega)) (by first | assumption | omega | (simp; done) | (simp at *; omega)) (by first | assumption | omega | (simp; done) | (simp at *; omega)), ?_⟩))
           | (with_reducible refine Or.inl ⟨_, del_none _ _ _ _ _ (by first | assumption | omega | (simp; done) | (simp at *; omega)), ?_⟩)
           | ((with_reducible refine Or.inl ?_); (conv => whnf); (with_reducible refine ⟨_, del_none _ _ _ _ _ (by first | assumption | omega | (simp; done) | (simp at *; omega)), ?_⟩))
           | (with_reducible refine Or.inl ⟨_, delr_none _ _ _ _ _ (by first | assumption | omega | (simp; done) | (simp at *; omega)), ?_⟩)
           | ((with_reducible refine Or.inl ?_); (conv => whnf); (with_reducible refine ⟨_, delr_none _ _ _ _ _ (by first | assumption | omega | (simp; done) | (simp at *; omega)), ?_⟩))
           | (with_reducible refine Or.inl ⟨_, del_gone _ _ _ _, ?_⟩)
           | ((with_reducible refine Or.inl ?_); (conv => whnf); (with_reducible refine ⟨_, del_gone _ _ _ _, ?_⟩))
           | (with_reducible refine Or.inl ⟨_, delr_gone _ _ _ _, ?_⟩)
           | ((with_reducible refine Or.inl ?_); (conv => whnf); (with_reducible refine ⟨_, delr_gone _ _ _ _, ?_⟩))
           | (with_reducible refine Or.inl ⟨_, del_spent _ _ _ _ (by first | assumption | omega | (simp; done) | (simp at *; omega)) (by first | assumption | omega | (simp; done) | (simp at *; omega)), ?_⟩)
           | ((with_reducible refine Or.inl ?_); (conv => whnf); (with_reducible refine ⟨_, del_spent _ _ _ _ (by first | assumption | omega | (simp; done) | (simp at *; omega)) (by first | assumption | omega | (simp; done) | (simp at *; omega)), ?_⟩))
           | (with_reducible refine Or.inl ⟨_, del_ok _ _ _ _ (by first | assumption | omega | (simp; done) | (simp at *; omega)) (by first | assumption | omega | (simp; done) | (simp at *; omega)), ?_⟩)
           | ((with_reducible refine Or.inl ?_); (conv => whnf); (with_reducible refine ⟨_, del_ok _ _ _ _ (by first | assumption | omega | (simp; done) | (simp at *; omega)) (by first | assumption | omega | (simp; done) | (simp at *; omega)), ?_⟩))
           | (with_reducible refine Or.inl ⟨_, delr_spent _ _ _ _ (by first | assumption | omega | (simp; done) | (simp at *; omega)) (by first | assumption | omega | (simp; done) | (simp at *; omega)), ?_⟩)
           | ((with_reducible refine Or.inl ?_); (conv => whnf); (with_reducible refine ⟨_, delr_spent _ _ _ _ (by first | assumption | omega | (simp; done) | (simp at *; omega)) (by first | assumption | omega | (simp; done) | (simp at *; omega)), ?_⟩))
           | (with_reducible refine Or.inl ⟨_, delr_ok _ _ _ _ (by first | assumption | omega | (simp; done) | (simp at *; omega)) (by first | assumption | omega | (simp; done) | (simp at *; omega)), ?_⟩)
           | ((with_reducible refine Or.inl ?_); (conv => whnf); (with_reducible refine ⟨_, delr_ok _ _ _ _ (by first | assumption | omega | (simp; done) | (simp at *; omega)) (by first | assumption | omega | (simp; done) | (simp at *; omega)), ?_⟩))
           | (with_reducible refine Or.inl ⟨_, cellIs_fn _ _ _ _ _, ?_⟩)
           | ((with_reducible refine Or.inl ?_); (conv => whnf); (with_reducible refine ⟨_, cellIs_fn _ _ _ _ _, ?_⟩))
           | (with_reducible refine Or.inl ⟨_, cellIsr_fn _ _ _ _ _, ?_⟩)
           | ((with_reducible refine Or.inl ?_); (conv => whnf); (with_reducible refine ⟨_, cellIsr_fn _ _ _ _ _, ?_⟩))
           | (with_reducible refine Or.inl ⟨_, isEvent_fn _ _ _ _, ?_⟩)
           | ((with_reducible refine Or.inl ?_); (conv => whnf); (with_reducible refine ⟨_, isEvent_fn _ _ _ _, ?_⟩))
           | (with_reducible refine Or.inl ⟨_, isEventr_fn _ _ _ _, ?_⟩)
           | ((with_reducible refine Or.inl ?_); (conv => whnf); (with_reducible refine ⟨_, isEventr_fn _ _ _ _, ?_⟩))
           | (with_reducible refine Or.inl ⟨_, there_fn _ _ _ _ _, ?_⟩)
           | ((with_reducible refine Or.inl ?_); (conv => whnf); (with_reducible refine ⟨_, there_fn _ _ _ _ _, ?_⟩))
           | (with_reducible refine Or.inl ⟨_, therer_fn _ _ _ _ _, ?_⟩)
           | ((with_reducible refine Or.inl ?_); (conv => whnf); (with_reducible refine ⟨_, therer_fn _ _ _ _ _, ?_⟩))
           | (with_reducible refine Br.mk (fun hb => ?_) (fun hb => ?_) <;> (try rw [hb]) <;> (try simp only [List.length_map, decide_eq_true_eq, decide_eq_false_iff_not, Bool.not_eq_true', Bool.not_eq_false', Int.ofNat_lt, Int.ofNat_le, Int.not_lt, Int.not_le, Int.toNat_natCast] at hb))
           | (with_reducible refine ⟨_, (by first | exact ByteRows.map _ | (repeat (first | exact ByteRows.nil | exact ByteRows.map _ | refine ByteRows.cons ?_ | refine ByteRows.app ?_ ?_))), ?_⟩)
           | (refine Exists.intro _ (And.intro (ByteRows.rep _) ?_))
           | (refine Exists.intro _ (And.intro (ByteRows.app (ByteRows.map _) (ByteRows.cons ByteRows.nil)) ?_))
           | ((with_reducible refine And.intro ?_ ?_); (focus (first | with_reducible rfl | exact trivial | (exact ⟨rfl, trivial⟩) | (exact ⟨rfl, rfl, trivial⟩) | omega | (intro r hr; simp only [List.mem_singleton] at hr; subst hr; rfl)  | ((simp only [in64] at *; omega)) | ((simp only [in64, maxLen] at *; omega)) | (simp only [in64]; omega) | assumption | (simp; done) | (simp [V.cells]; done) | (simp [in64, maxLen, limK] at *; omega) | ((show confB _ _ = true); kernel_rfl) | rfl)))
           | (intro row hrow; (try simp only [Int.toNat_natCast, List.length_map, toNat_pred, toNat_succ', toNat_zero', toNat_one'] at hrow); (first | (have hsm := same_map (by assumption) hrow; subst hsm; clear hrow) | (obtain ⟨p, hp, rfl⟩ := of_map hrow; clear hrow; rcases Nat.lt_or_ge 12 p.length with h12 | h12 <;> by_cases hpe : p = [] <;> (try (exfalso; subst hpe; simp at h12; done)) <;> (first | (subst hpe; have hq : decide (((([] : Bs).length : Nat) : Int) ≤ 12) = true := rfl; have hpe2 := hq; have hb40 := hq) | (have hpe2 := decide_eq_false hpe; have hb40 := hpe2; first | have hq : decide (((p.length : Nat) : Int) ≤ 12) = true := decide_eq_true (by omega) | have hq : decide (((p.length : Nat) : Int) ≤ 12) = false := decide_eq_false (by omega))))))
           | (with_reducible refine AW.seq ?_) | (with_reducible refine AW.region base (by kernel_rfl) ?_) | (with_reducible refine AW.cond ?_) | (with_reducible refine AW.block ?_) | (with_reducible refine AW.ret ?_) | (with_reducible refine AW.exit ?_) | (with_reducible refine AW.skip ?_))))
    all_goals (try first | with_reducible assumption | ((show (_ : Int) ≤ _); (first | omega | (simp at *; omega))) | ((show (_ : Nat) ≤ _); (first | omega | (simp at *; omega))) | ((show in64 _); (simp only [in64] at *; (first | omega | (simp at *; omega)))) | ((show (_ : Int) < _); (first | omega | (simp at *; omega))) | ((show ¬ (_ : Int) = _); (first | omega | (simp at *; omega))) | ((with_reducible refine And.intro ?_ ?_) <;> (first | omega | (simp at *; omega))))
    all_goals (first
      | (with_reducible exact absurd rfl (by assumption))
      | ((conv => whnf); (refine ⟨(k + 1, ?_, ?_, ?_, ?_), ?_⟩); (rotate_left 4); (refine And.intro ?_ (And.intro ?_ ?_)); (focus (refine ⟨⟨[0], ?_⟩⟩; repeat' (first | (with_reducible rfl) | exact trivial | ((conv => whnf); (first | (with_reducible refine And.intro ?_ ?_) | (first | rfl | (refine congrArg V.str ?_; (first | rfl | omega | (simp; done))) | (refine congrArg (V.int _) ?_; (first | rfl | omega | (simp; done))) | (refine congrArg V.bool ?_; (first | rfl | omega | (simp; done))) | (refine congrArg V.sl ?_; (first | rfl | omega | (simp; done))) | (first | rfl | omega | (simp; done)))))))); (focus (refine ⟨by omega, by omega, by omega, by omega, ?_, ?_⟩ <;> intro h <;> first | (exfalso; omega) | (simp_all; done) | (exact ⟨rfl, rfl⟩) | rfl)); (focus (first | omega | (dsimp only; omega) | (simp at *; omega))))
      | ((conv => whnf); (try (first | rfl | (exfalso; simp_all; done) | (exfalso; simp at *; omega) | (simp; done) | (exfalso; simp [thereB, hpe] at hb; omega) | (exfalso; simp [thereB] at hb; omega))); done))

end Go.Proofs.YthcbffejjkmmfaaDoor
