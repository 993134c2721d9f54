/-
  The laws of disks: their walks. No conditions.
-/
import Derived.Test.YthcbffejjkmmfaaDoorDisk
namespace Go.Proofs.YthcbffejjkmmfaaDoor
open Go.RowKit
set_option linter.unusedSimpArgs false
set_option linter.unusedVariables false

set_option maxRecDepth 100000 in
set_option maxHeartbeats 400000 in
theorem known9_fn  : Fn Tryd.prog 9 [] (.bool true) := by
  refine Fn.mk' base Tryd.func9 rfl rfl rfl ?_
  repeat' (first
      | (with_reducible refine AW.seq ?_) | (with_reducible refine AW.region base (by kernel_rfl) ?_) | (with_reducible refine AW.cond ?_) | (with_reducible refine AW.block ?_) | (with_reducible refine AW.ret ?_) | (with_reducible refine AW.exit ?_) | (with_reducible refine AW.skip ?_)
      | ((conv => whnf); (first
         | (with_reducible refine Br.t ?_)
         | (with_reducible refine Br.f ?_)
         | (refine Br.t ?_)
         | (refine Br.f ?_)
         | (with_reducible refine Or.inr ⟨[], _, _, _, _, diskNew_fn, ?_⟩)
         | (with_reducible refine Or.inr (Or.inr ⟨[], _, _, _, _, diskNew_fn, ?_⟩))
         | (with_reducible refine Or.inr ⟨[?_], _, _, _, _, diskAppend_ok ?_ ?_ ?_ ?_ ?_, ?_⟩)
         | (with_reducible refine Or.inr (Or.inr ⟨[?_], _, _, _, _, diskAppend_ok ?_ ?_ ?_ ?_ ?_, ?_⟩))
         | (with_reducible refine Or.inr ⟨[?_], _, _, _, _, diskReplace_ok ?_ ?_ ?_ ?_, ?_⟩)
         | (with_reducible refine Or.inr (Or.inr ⟨[?_], _, _, _, _, diskReplace_ok ?_ ?_ ?_ ?_, ?_⟩))
         | (with_reducible refine Or.inr ⟨[?_], _, _, _, _, diskSync_fn ?_ ?_, ?_⟩)
         | (with_reducible refine Or.inr (Or.inr ⟨[?_], _, _, _, _, diskSync_fn ?_ ?_, ?_⟩))
         | (with_reducible refine Or.inr ⟨[?_], _, _, _, _, diskCrash_fn ?_ ?_ ?_ ?_ ?_, ?_⟩)
         | (with_reducible refine Or.inr (Or.inr ⟨[?_], _, _, _, _, diskCrash_fn ?_ ?_ ?_ ?_ ?_, ?_⟩))
         | (with_reducible refine Or.inl ⟨_, diskBytes_fn _ _, ?_⟩)
         | ((with_reducible refine Or.inl ?_); (conv => whnf); (with_reducible refine ⟨_, diskBytes_fn _ _, ?_⟩))
         | (with_reducible refine Or.inl ⟨_, diskLoose_fn _ _, ?_⟩)
         | ((with_reducible refine Or.inl ?_); (conv => whnf); (with_reducible refine ⟨_, diskLoose_fn _ _, ?_⟩))
         | (with_reducible refine Br.mk (fun hb => ?_) (fun hb => ?_) <;> (try rw [hb]) <;> (try simp only [List.length_map, decide_eq_true_eq, decide_eq_false_iff_not, Bool.not_eq_true', Bool.not_eq_false', Int.ofNat_lt, Int.ofNat_le, Int.not_lt, Int.not_le, Int.toNat_natCast] at hb))
         | (with_reducible refine ⟨_, (by first | exact ByteRows.map _ | (repeat (first | exact ByteRows.nil | exact ByteRows.map _ | refine ByteRows.cons ?_ | refine ByteRows.app ?_ ?_))), ?_⟩)
         | (refine Exists.intro _ (And.intro (ByteRows.rep _) ?_))
         | ((with_reducible refine And.intro ?_ ?_); (focus (first | with_reducible rfl | exact trivial | (exact ⟨rfl, trivial⟩) | (exact ⟨rfl, rfl, trivial⟩) | omega | (intro r hr; simp only [List.mem_singleton] at hr; subst hr; rfl)  | (simp only [in64]; omega) | assumption | (simp; done) | (simp [V.cells]; done) | (simp [in64, maxLen, limK] at *; omega) | ((show confB _ _ = true); kernel_rfl) | rfl)))
         | (intro row hrow; (try simp only [Int.toNat_natCast, List.length_map, toNat_pred, toNat_succ', toNat_zero', toNat_one'] at hrow); (first | (have hsm := same_map (by assumption) hrow; subst hsm; clear hrow) | (obtain ⟨p, hp, rfl⟩ := of_map hrow; clear hrow)))
         | (with_reducible refine AW.seq ?_) | (with_reducible refine AW.region base (by kernel_rfl) ?_) | (with_reducible refine AW.cond ?_) | (with_reducible refine AW.block ?_) | (with_reducible refine AW.ret ?_) | (with_reducible refine AW.exit ?_) | (with_reducible refine AW.skip ?_))))
  all_goals (try first | with_reducible assumption | ((show (_ : Int) ≤ _); (first | omega | (simp at *; omega) | (simp; done) | (simp [maxLen]; done))) | ((show (_ : Nat) ≤ _); (first | omega | (simp at *; omega) | (simp; done) | (simp [maxLen]; done))) | ((show in64 _); (simp only [in64] at *; (first | omega | (simp at *; omega) | (simp; done) | (simp [maxLen]; done)))) | ((show (_ : Int) < _); (first | omega | (simp at *; omega) | (simp; done) | (simp [maxLen]; done))) | ((show ¬ (_ : Int) = _); (first | omega | (simp at *; omega) | (simp; done) | (simp [maxLen]; done))) | ((with_reducible refine And.intro ?_ ?_) <;> (first | omega | (simp at *; omega) | (simp; done) | (simp [maxLen]; done))))
  all_goals (conv => whnf)
  all_goals (first | rfl | (simp only [V.bool.injEq, V.tup.injEq, V.agg.injEq, V.str.injEq, V.int.injEq, V.sl.injEq, V.ifc.injEq, List.cons.injEq, and_true, true_and, and_self]; done) | (simp only [V.bool.injEq, V.tup.injEq, V.agg.injEq, V.str.injEq, V.int.injEq, V.sl.injEq, V.ifc.injEq, List.cons.injEq, and_true, true_and, and_self]; grind) | (simp  at *; done) | (simp  at *; grind))

/-- a step of the law: what to do, how many bytes stay, which bytes -/
structure Step where
  w : Int
  n : Int
  b : Bs
theorem take_to (s t : Bs) (m : Int) (j : Nat) (h : m = s.length + j) : List.take m.toNat (s ++ t) = s ++ List.take j t := by
  subst h
  rw [show ((s.length : Int) + j).toNat = s.length + j by omega, List.take_append, List.take_of_length_le (by omega)]
  congr 2; omega
theorem crash_eq (kept loose : Bs) (n : Int) : List.take (((kept ++ loose).length : Int) - loose.length + min (max n 0) (loose.length : Int)).toNat (kept ++ loose) = kept ++ List.drop 0 (List.take (max 0 (min n (loose.length : Int))).toNat loose) ++ [] := by
  rw [List.append_nil, List.drop_zero]
  exact take_to _ _ _ _ (by rw [List.length_append]; omega)
theorem crash2 (s b : Bs) (c : Int) (h : 0 ≤ c) : List.take (((s ++ b).length : Int) - (0 + (b.length : Int)) + min (max c 0) (0 + (b.length : Int))).toNat (s ++ b) = s ++ List.drop 0 (List.take (min (b.length : Int) c).toNat b) := by
  rw [List.drop_zero]
  exact take_to _ _ _ _ (by rw [List.length_append]; omega)
theorem crash0 (s : Bs) : List.take ((s.length : Int) - 0 + min (max 0 0) 0).toNat s = s := List.take_of_length_le (by omega)
abbrev encS (s : Step) : List V := [.int .i64 s.w, .int .i64 s.n, .str s.b]

set_option maxRecDepth 100000 in
set_option maxHeartbeats 400000 in
theorem diskPlays_fn (l : List Step) : Fn Tryd.prog 3 [.sl (l.map encS)] (.bool true) := by
  refine Fn.mk' base Tryd.func3 rfl rfl rfl ?_
  refine AW.len 0 rfl (fun hlen => ?_)
  simp only [List.length_map, maxLen] at hlen
  repeat' (first
      | (with_reducible refine AW.seq ?_) | (with_reducible refine AW.region base (by kernel_rfl) ?_) | (with_reducible refine AW.cond ?_) | (with_reducible refine AW.block ?_) | (with_reducible refine AW.ret ?_) | (with_reducible refine AW.exit ?_) | (with_reducible refine AW.skip ?_)
      | ((conv => whnf); (first
         | (with_reducible refine Br.t ?_)
         | (with_reducible refine Br.f ?_)
         | (refine Br.t ?_)
         | (refine Br.f ?_)
         | (with_reducible refine Or.inl ⟨_, known9_fn, ?_⟩)
         | ((with_reducible refine Or.inl ?_); (conv => whnf); (with_reducible refine ⟨_, known9_fn, ?_⟩))
         | (with_reducible refine Or.inr ⟨[], _, _, _, _, diskNew_fn, ?_⟩)
         | (with_reducible refine Or.inr (Or.inr ⟨[], _, _, _, _, diskNew_fn, ?_⟩))
         | (with_reducible refine Br.mk (fun hb => ?_) (fun hb => ?_) <;> (try rw [hb]) <;> (try simp only [List.length_map, decide_eq_true_eq, decide_eq_false_iff_not, Bool.not_eq_true', Bool.not_eq_false', Int.ofNat_lt, Int.ofNat_le, Int.not_lt, Int.not_le, Int.toNat_natCast] at hb))
         | (with_reducible refine ⟨_, (by first | exact ByteRows.map _ | (repeat (first | exact ByteRows.nil | exact ByteRows.map _ | refine ByteRows.cons ?_ | refine ByteRows.app ?_ ?_))), ?_⟩)
         | (refine Exists.intro _ (And.intro (ByteRows.rep _) ?_))
         | ((with_reducible refine And.intro ?_ ?_); (focus (first | with_reducible rfl | exact trivial | (exact ⟨rfl, trivial⟩) | (exact ⟨rfl, rfl, trivial⟩) | omega | (intro r hr; simp only [List.mem_singleton] at hr; subst hr; rfl)  | ((simp only [maxLen, List.length_append] at *; omega)) | ((simp only [in64, maxLen, List.length_append] at *; omega)) | (simp only [in64]; omega) | assumption | (simp; done) | (simp [V.cells]; done) | (simp [in64, maxLen, limK] at *; omega) | ((show confB _ _ = true); kernel_rfl) | rfl)))
         | (intro row hrow; (try simp only [Int.toNat_natCast, List.length_map, toNat_pred, toNat_succ', toNat_zero', toNat_one'] at hrow); (first | (have hsm := same_map (by assumption) hrow; subst hsm; clear hrow) | (obtain ⟨p, hp, rfl⟩ := of_map hrow; clear hrow)))
         | (with_reducible refine AW.seq ?_) | (with_reducible refine AW.region base (by kernel_rfl) ?_) | (with_reducible refine AW.cond ?_) | (with_reducible refine AW.block ?_) | (with_reducible refine AW.ret ?_) | (with_reducible refine AW.exit ?_) | (with_reducible refine AW.skip ?_))))
  all_goals try ((conv => whnf); first | rfl | done)
  refine AW.loop (fun (⟨k, kept, loose⟩ : Nat × Bs × Bs) => k ≤ l.length ∧ l.length ≤ 100 ∧ kept.length + loose.length ≤ 300 * k) (fun (⟨k, kept, loose⟩ : Nat × Bs × Bs) => ⟨[(0, .sl (l.map encS)), (3, .ptr 0 0), (4, .str kept), (5, .str loose), (6, .int .i64 (k : Int))], [.cells [.str (kept ++ loose), .int .i64 (loose.length : Int)]]⟩) (fun (⟨k, kept, loose⟩ : Nat × Bs × Bs) => l.length - k) (0, [], []) ?_ ?_ ?_
  · (simp at *; omega)
  · (refine ⟨⟨[?_], ?_⟩⟩; repeat' (first | (with_reducible rfl) | exact trivial | ((conv => whnf); (first | (with_reducible refine And.intro ?_ ?_) | (first | rfl | (refine congrArg V.str ?_; (first | rfl | omega | (simp; done) | exact crash_eq _ _ _ | (simp [List.append_assoc]; done))) | (refine congrArg (V.int _) ?_; (first | rfl | omega | (simp; done) | exact crash_eq _ _ _ | (simp [List.append_assoc]; done))) | (refine congrArg V.bool ?_; (first | rfl | omega | (simp; done) | exact crash_eq _ _ _ | (simp [List.append_assoc]; done))) | (refine congrArg V.sl ?_; (first | rfl | omega | (simp; done) | exact crash_eq _ _ _ | (simp [List.append_assoc]; done))) | (first | rfl | omega | (simp; done) | exact crash_eq _ _ _ | (simp [List.append_assoc]; done)))))))
  · rintro ⟨k, kept, loose⟩ hk
    obtain ⟨hk1, hk2, hk3⟩ := hk
    repeat' (first
        | (with_reducible refine AW.seq ?_) | (with_reducible refine AW.region base (by kernel_rfl) ?_) | (with_reducible refine AW.cond ?_) | (with_reducible refine AW.block ?_) | (with_reducible refine AW.ret ?_) | (with_reducible refine AW.exit ?_) | (with_reducible refine AW.skip ?_)
        | ((conv => whnf); (first
           | (with_reducible refine Br.t ?_)
           | (with_reducible refine Br.f ?_)
           | (refine Br.t ?_)
           | (refine Br.f ?_)
           | (with_reducible refine Or.inr ⟨[], _, _, _, _, diskNew_fn, ?_⟩)
           | (with_reducible refine Or.inr (Or.inr ⟨[], _, _, _, _, diskNew_fn, ?_⟩))
           | (with_reducible refine Or.inr ⟨[?_], _, _, _, _, diskAppend_ok ?_ ?_ ?_ ?_ ?_, ?_⟩)
           | (with_reducible refine Or.inr (Or.inr ⟨[?_], _, _, _, _, diskAppend_ok ?_ ?_ ?_ ?_ ?_, ?_⟩))
           | (with_reducible refine Or.inr ⟨[?_], _, _, _, _, diskReplace_ok ?_ ?_ ?_ ?_, ?_⟩)
           | (with_reducible refine Or.inr (Or.inr ⟨[?_], _, _, _, _, diskReplace_ok ?_ ?_ ?_ ?_, ?_⟩))
           | (with_reducible refine Or.inr ⟨[?_], _, _, _, _, diskSync_fn ?_ ?_, ?_⟩)
           | (with_reducible refine Or.inr (Or.inr ⟨[?_], _, _, _, _, diskSync_fn ?_ ?_, ?_⟩))
           | (with_reducible refine Or.inr ⟨[?_], _, _, _, _, diskCrash_fn ?_ ?_ ?_ ?_ ?_, ?_⟩)
           | (with_reducible refine Or.inr (Or.inr ⟨[?_], _, _, _, _, diskCrash_fn ?_ ?_ ?_ ?_ ?_, ?_⟩))
           | (with_reducible refine Or.inl ⟨_, diskBytes_fn _ _, ?_⟩)
           | ((with_reducible refine Or.inl ?_); (conv => whnf); (with_reducible refine ⟨_, diskBytes_fn _ _, ?_⟩))
           | (with_reducible refine Or.inl ⟨_, diskLoose_fn _ _, ?_⟩)
           | ((with_reducible refine Or.inl ?_); (conv => whnf); (with_reducible refine ⟨_, diskLoose_fn _ _, ?_⟩))
           | (with_reducible refine Br.mk (fun hb => ?_) (fun hb => ?_) <;> (try rw [hb]) <;> (try simp only [List.length_map, decide_eq_true_eq, decide_eq_false_iff_not, Bool.not_eq_true', Bool.not_eq_false', Int.ofNat_lt, Int.ofNat_le, Int.not_lt, Int.not_le, Int.toNat_natCast] at hb))
           | (with_reducible refine ⟨_, (by first | exact ByteRows.map _ | (repeat (first | exact ByteRows.nil | exact ByteRows.map _ | refine ByteRows.cons ?_ | refine ByteRows.app ?_ ?_))), ?_⟩)
           | (refine Exists.intro _ (And.intro (ByteRows.rep _) ?_))
           | ((with_reducible refine And.intro ?_ ?_); (focus (first | with_reducible rfl | exact trivial | (exact ⟨rfl, trivial⟩) | (exact ⟨rfl, rfl, trivial⟩) | omega | (intro r hr; simp only [List.mem_singleton] at hr; subst hr; rfl)  | ((simp only [maxLen, List.length_append] at *; omega)) | ((simp only [in64, maxLen, List.length_append] at *; omega)) | (simp only [in64]; omega) | assumption | (simp; done) | (simp [V.cells]; done) | (simp [in64, maxLen, limK] at *; omega) | ((show confB _ _ = true); kernel_rfl) | rfl)))
           | (intro row hrow; (try simp only [Int.toNat_natCast, List.length_map, toNat_pred, toNat_succ', toNat_zero', toNat_one'] at hrow); (first | (have hsm := same_map (by assumption) hrow; subst hsm; clear hrow) | (obtain ⟨p, hp, rfl⟩ := of_map hrow; clear hrow)))
           | (with_reducible refine AW.seq ?_) | (with_reducible refine AW.region base (by kernel_rfl) ?_) | (with_reducible refine AW.cond ?_) | (with_reducible refine AW.block ?_) | (with_reducible refine AW.ret ?_) | (with_reducible refine AW.exit ?_) | (with_reducible refine AW.skip ?_))))
    all_goals (try first | with_reducible assumption | ((show (_ : Int) ≤ _); (first | omega | (simp only [List.length_append, maxLen, in64] at *; omega))) | ((show (_ : Nat) ≤ _); (first | omega | (simp only [List.length_append, maxLen, in64] at *; omega))) | ((show in64 _); (simp only [in64] at *; (first | omega | (simp only [List.length_append, maxLen, in64] at *; omega)))) | ((show (_ : Int) < _); (first | omega | (simp only [List.length_append, maxLen, in64] at *; omega))) | ((show ¬ (_ : Int) = _); (first | omega | (simp only [List.length_append, maxLen, in64] at *; omega))) | ((with_reducible refine And.intro ?_ ?_) <;> (first | omega | (simp only [List.length_append, maxLen, in64] at *; omega))))
    all_goals (first
      | (with_reducible exact absurd rfl (by assumption))
      | ((conv => whnf); (refine ⟨(k + 1, ?_, ?_), ?_⟩); (rotate_left 2); (refine And.intro ?_ (And.intro ?_ ?_)); (focus (refine ⟨⟨[0], ?_⟩⟩; repeat' (first | (with_reducible rfl) | exact trivial | ((conv => whnf); (first | (with_reducible refine And.intro ?_ ?_) | (first | rfl | (refine congrArg V.str ?_; (first | rfl | omega | (simp; done) | exact crash_eq _ _ _ | (simp [List.append_assoc]; done))) | (refine congrArg (V.int _) ?_; (first | rfl | omega | (simp; done) | exact crash_eq _ _ _ | (simp [List.append_assoc]; done))) | (refine congrArg V.bool ?_; (first | rfl | omega | (simp; done) | exact crash_eq _ _ _ | (simp [List.append_assoc]; done))) | (refine congrArg V.sl ?_; (first | rfl | omega | (simp; done) | exact crash_eq _ _ _ | (simp [List.append_assoc]; done))) | (first | rfl | omega | (simp; done) | exact crash_eq _ _ _ | (simp [List.append_assoc]; done)))))))); (focus (simp only [List.length_append, List.length_take, List.length_drop, List.length_nil] at *; omega)); (focus (first | omega | (simp at *; omega))))
      | ((conv => whnf); (try (first | rfl | (exfalso; simp_all; done) | (exfalso; simp at *; omega) | (exfalso; exact hb (crash_eq _ _ _)) | (exfalso; simp [List.append_assoc] at *; done))); done))


set_option maxRecDepth 100000 in
set_option maxHeartbeats 400000 in
theorem diskSafe_fn (a b : Bs) (l : List UInt8) : Fn Tryd.prog 4 [.str a, .str b, .sl (l.map encB)] (.bool true) := by
  refine Fn.mk' base Tryd.func4 rfl rfl rfl ?_
  refine AW.len 2 rfl (fun hlen => ?_)
  simp only [List.length_map, maxLen] at hlen
  repeat' (first
      | (with_reducible refine AW.seq ?_) | (with_reducible refine AW.region base (by kernel_rfl) ?_) | (with_reducible refine AW.cond ?_) | (with_reducible refine AW.block ?_) | (with_reducible refine AW.ret ?_) | (with_reducible refine AW.exit ?_) | (with_reducible refine AW.skip ?_)
      | ((conv => whnf); (first
         | (with_reducible refine Br.t ?_)
         | (with_reducible refine Br.f ?_)
         | (refine Br.t ?_)
         | (refine Br.f ?_)
         | (with_reducible refine Or.inl ⟨_, known9_fn, ?_⟩)
         | ((with_reducible refine Or.inl ?_); (conv => whnf); (with_reducible refine ⟨_, known9_fn, ?_⟩))
         | (with_reducible refine Or.inr ⟨[], _, _, _, _, diskNew_fn, ?_⟩)
         | (with_reducible refine Or.inr (Or.inr ⟨[], _, _, _, _, diskNew_fn, ?_⟩))
         | (with_reducible refine Or.inr ⟨[?_], _, _, _, _, diskAppend_ok ?_ ?_ ?_ ?_ ?_, ?_⟩)
         | (with_reducible refine Or.inr (Or.inr ⟨[?_], _, _, _, _, diskAppend_ok ?_ ?_ ?_ ?_ ?_, ?_⟩))
         | (with_reducible refine Or.inr ⟨[?_], _, _, _, _, diskReplace_ok ?_ ?_ ?_ ?_, ?_⟩)
         | (with_reducible refine Or.inr (Or.inr ⟨[?_], _, _, _, _, diskReplace_ok ?_ ?_ ?_ ?_, ?_⟩))
         | (with_reducible refine Or.inr ⟨[?_], _, _, _, _, diskSync_fn ?_ ?_, ?_⟩)
         | (with_reducible refine Or.inr (Or.inr ⟨[?_], _, _, _, _, diskSync_fn ?_ ?_, ?_⟩))
         | (with_reducible refine Or.inr ⟨[?_], _, _, _, _, diskCrash_fn ?_ ?_ ?_ ?_ ?_, ?_⟩)
         | (with_reducible refine Or.inr (Or.inr ⟨[?_], _, _, _, _, diskCrash_fn ?_ ?_ ?_ ?_ ?_, ?_⟩))
         | (with_reducible refine Or.inl ⟨_, diskBytes_fn _ _, ?_⟩)
         | ((with_reducible refine Or.inl ?_); (conv => whnf); (with_reducible refine ⟨_, diskBytes_fn _ _, ?_⟩))
         | (with_reducible refine Or.inl ⟨_, diskLoose_fn _ _, ?_⟩)
         | ((with_reducible refine Or.inl ?_); (conv => whnf); (with_reducible refine ⟨_, diskLoose_fn _ _, ?_⟩))
         | (with_reducible refine Br.mk (fun hb => ?_) (fun hb => ?_) <;> (try rw [hb]) <;> (try simp only [List.length_map, decide_eq_true_eq, decide_eq_false_iff_not, Bool.not_eq_true', Bool.not_eq_false', Int.ofNat_lt, Int.ofNat_le, Int.not_lt, Int.not_le, Int.toNat_natCast] at hb))
         | (with_reducible refine ⟨_, (by first | exact ByteRows.map _ | (repeat (first | exact ByteRows.nil | exact ByteRows.map _ | refine ByteRows.cons ?_ | refine ByteRows.app ?_ ?_))), ?_⟩)
         | (refine Exists.intro _ (And.intro (ByteRows.rep _) ?_))
         | ((with_reducible refine And.intro ?_ ?_); (focus (first | with_reducible rfl | exact trivial | (exact ⟨rfl, trivial⟩) | (exact ⟨rfl, rfl, trivial⟩) | omega | (intro r hr; simp only [List.mem_singleton] at hr; subst hr; rfl)  | ((simp only [maxLen, List.length_append] at *; omega)) | ((simp only [in64, maxLen, List.length_append] at *; omega)) | ((have := UInt8.toNat_lt p; simp only [in64]; omega)) | (simp only [in64]; omega) | assumption | (simp; done) | (simp [V.cells]; done) | (simp [in64, maxLen, limK] at *; omega) | ((show confB _ _ = true); kernel_rfl) | rfl)))
         | (intro row hrow; (try simp only [Int.toNat_natCast, List.length_map, toNat_pred, toNat_succ', toNat_zero', toNat_one'] at hrow); (first | (have hsm := same_map (by assumption) hrow; subst hsm; clear hrow) | (obtain ⟨p, hp, rfl⟩ := of_map hrow; clear hrow)))
         | (with_reducible refine AW.seq ?_) | (with_reducible refine AW.region base (by kernel_rfl) ?_) | (with_reducible refine AW.cond ?_) | (with_reducible refine AW.block ?_) | (with_reducible refine AW.ret ?_) | (with_reducible refine AW.exit ?_) | (with_reducible refine AW.skip ?_))))
  all_goals (try first | with_reducible assumption | ((show (_ : Int) ≤ _); (first | omega | (simp only [List.length_append, List.length_nil, maxLen, in64, List.length_take, List.length_drop] at *; omega) | (simp [maxLen]; done))) | ((show (_ : Nat) ≤ _); (first | omega | (simp only [List.length_append, List.length_nil, maxLen, in64, List.length_take, List.length_drop] at *; omega) | (simp [maxLen]; done))) | ((show in64 _); (simp only [in64] at *; (first | omega | (simp only [List.length_append, List.length_nil, maxLen, in64, List.length_take, List.length_drop] at *; omega) | (simp [maxLen]; done)))) | ((show (_ : Int) < _); (first | omega | (simp only [List.length_append, List.length_nil, maxLen, in64, List.length_take, List.length_drop] at *; omega) | (simp [maxLen]; done))) | ((show ¬ (_ : Int) = _); (first | omega | (simp only [List.length_append, List.length_nil, maxLen, in64, List.length_take, List.length_drop] at *; omega) | (simp [maxLen]; done))) | ((with_reducible refine And.intro ?_ ?_) <;> (first | omega | (simp only [List.length_append, List.length_nil, maxLen, in64, List.length_take, List.length_drop] at *; omega) | (simp [maxLen]; done))))
  all_goals try ((conv => whnf); first | rfl | done)
  refine AW.loop (fun (⟨k, x⟩ : Nat × Bs) => k ≤ l.length ∧ l.length ≤ 10 ∧ a.length ≤ 200 ∧ b.length ≤ 200 ∧ x.length ≤ 200 + 200 * k ∧ a <+: x) (fun (⟨k, x⟩ : Nat × Bs) => ⟨[(0, .str a), (1, .str b), (2, .sl (l.map encB)), (7, .ptr 0 0), (8, .str x), (9, .int .i64 (k : Int))], [.cells [.str x, .int .i64 0]]⟩) (fun (⟨k, x⟩ : Nat × Bs) => l.length - k) (0, a) ?_ ?_ ?_
  · (simp at *; omega)
  · (refine ⟨⟨[?_], ?_⟩⟩; repeat' (first | (with_reducible rfl) | exact trivial | ((conv => whnf); (first | (with_reducible refine And.intro ?_ ?_) | (first | rfl | (refine congrArg V.str ?_; (first | rfl | omega | (simp; done) | exact (crash0 _).trans (crash2 _ _ _ (Int.natCast_nonneg _)))) | (refine congrArg (V.int _) ?_; (first | rfl | omega | (simp; done) | exact (crash0 _).trans (crash2 _ _ _ (Int.natCast_nonneg _)))) | (refine congrArg V.bool ?_; (first | rfl | omega | (simp; done) | exact (crash0 _).trans (crash2 _ _ _ (Int.natCast_nonneg _)))) | (refine congrArg V.sl ?_; (first | rfl | omega | (simp; done) | exact (crash0 _).trans (crash2 _ _ _ (Int.natCast_nonneg _)))) | (first | rfl | omega | (simp; done) | exact (crash0 _).trans (crash2 _ _ _ (Int.natCast_nonneg _))))))))
  · rintro ⟨k, x⟩ hk
    obtain ⟨hk1, hk2, hk3, hk4, hk5, hk6⟩ := hk
    repeat' (first
        | (with_reducible refine AW.seq ?_) | (with_reducible refine AW.region base (by kernel_rfl) ?_) | (with_reducible refine AW.cond ?_) | (with_reducible refine AW.block ?_) | (with_reducible refine AW.ret ?_) | (with_reducible refine AW.exit ?_) | (with_reducible refine AW.skip ?_)
        | ((conv => whnf); (first
           | (with_reducible refine Br.t ?_)
           | (with_reducible refine Br.f ?_)
           | (refine Br.t ?_)
           | (refine Br.f ?_)
           | (with_reducible refine Or.inr ⟨[], _, _, _, _, diskNew_fn, ?_⟩)
           | (with_reducible refine Or.inr (Or.inr ⟨[], _, _, _, _, diskNew_fn, ?_⟩))
           | (with_reducible refine Or.inr ⟨[?_], _, _, _, _, diskAppend_ok ?_ ?_ ?_ ?_ ?_, ?_⟩)
           | (with_reducible refine Or.inr (Or.inr ⟨[?_], _, _, _, _, diskAppend_ok ?_ ?_ ?_ ?_ ?_, ?_⟩))
           | (with_reducible refine Or.inr ⟨[?_], _, _, _, _, diskReplace_ok ?_ ?_ ?_ ?_, ?_⟩)
           | (with_reducible refine Or.inr (Or.inr ⟨[?_], _, _, _, _, diskReplace_ok ?_ ?_ ?_ ?_, ?_⟩))
           | (with_reducible refine Or.inr ⟨[?_], _, _, _, _, diskSync_fn ?_ ?_, ?_⟩)
           | (with_reducible refine Or.inr (Or.inr ⟨[?_], _, _, _, _, diskSync_fn ?_ ?_, ?_⟩))
           | (with_reducible refine Or.inr ⟨[?_], _, _, _, _, diskCrash_fn ?_ ?_ ?_ ?_ ?_, ?_⟩)
           | (with_reducible refine Or.inr (Or.inr ⟨[?_], _, _, _, _, diskCrash_fn ?_ ?_ ?_ ?_ ?_, ?_⟩))
           | (with_reducible refine Or.inl ⟨_, diskBytes_fn _ _, ?_⟩)
           | ((with_reducible refine Or.inl ?_); (conv => whnf); (with_reducible refine ⟨_, diskBytes_fn _ _, ?_⟩))
           | (with_reducible refine Or.inl ⟨_, diskLoose_fn _ _, ?_⟩)
           | ((with_reducible refine Or.inl ?_); (conv => whnf); (with_reducible refine ⟨_, diskLoose_fn _ _, ?_⟩))
           | (with_reducible refine Br.mk (fun hb => ?_) (fun hb => ?_) <;> (try rw [hb]) <;> (try simp only [List.length_map, decide_eq_true_eq, decide_eq_false_iff_not, Bool.not_eq_true', Bool.not_eq_false', Int.ofNat_lt, Int.ofNat_le, Int.not_lt, Int.not_le, Int.toNat_natCast] at hb))
           | (with_reducible refine ⟨_, (by first | exact ByteRows.map _ | (repeat (first | exact ByteRows.nil | exact ByteRows.map _ | refine ByteRows.cons ?_ | refine ByteRows.app ?_ ?_))), ?_⟩)
           | (refine Exists.intro _ (And.intro (ByteRows.rep _) ?_))
           | ((with_reducible refine And.intro ?_ ?_); (focus (first | with_reducible rfl | exact trivial | (exact ⟨rfl, trivial⟩) | (exact ⟨rfl, rfl, trivial⟩) | omega | (intro r hr; simp only [List.mem_singleton] at hr; subst hr; rfl)  | ((simp only [maxLen, List.length_append] at *; omega)) | ((simp only [in64, maxLen, List.length_append] at *; omega)) | ((have := UInt8.toNat_lt p; simp only [in64]; omega)) | (simp only [in64]; omega) | assumption | (simp; done) | (simp [V.cells]; done) | (simp [in64, maxLen, limK] at *; omega) | ((show confB _ _ = true); kernel_rfl) | rfl)))
           | (intro row hrow; (try simp only [Int.toNat_natCast, List.length_map, toNat_pred, toNat_succ', toNat_zero', toNat_one'] at hrow); (first | (have hsm := same_map (by assumption) hrow; subst hsm; clear hrow) | (obtain ⟨p, hp, rfl⟩ := of_map hrow; clear hrow)))
           | (with_reducible refine AW.seq ?_) | (with_reducible refine AW.region base (by kernel_rfl) ?_) | (with_reducible refine AW.cond ?_) | (with_reducible refine AW.block ?_) | (with_reducible refine AW.ret ?_) | (with_reducible refine AW.exit ?_) | (with_reducible refine AW.skip ?_))))
    all_goals (try first | with_reducible assumption | ((show (_ : Int) ≤ _); (first | omega | (simp only [List.length_append, List.length_nil, maxLen, in64, List.length_take, List.length_drop] at *; omega) | (simp [maxLen]; done))) | ((show (_ : Nat) ≤ _); (first | omega | (simp only [List.length_append, List.length_nil, maxLen, in64, List.length_take, List.length_drop] at *; omega) | (simp [maxLen]; done))) | ((show in64 _); (simp only [in64] at *; (first | omega | (simp only [List.length_append, List.length_nil, maxLen, in64, List.length_take, List.length_drop] at *; omega) | (simp [maxLen]; done)))) | ((show (_ : Int) < _); (first | omega | (simp only [List.length_append, List.length_nil, maxLen, in64, List.length_take, List.length_drop] at *; omega) | (simp [maxLen]; done))) | ((show ¬ (_ : Int) = _); (first | omega | (simp only [List.length_append, List.length_nil, maxLen, in64, List.length_take, List.length_drop] at *; omega) | (simp [maxLen]; done))) | ((with_reducible refine And.intro ?_ ?_) <;> (first | omega | (simp only [List.length_append, List.length_nil, maxLen, in64, List.length_take, List.length_drop] at *; omega) | (simp [maxLen]; done))))
    all_goals (first
      | (with_reducible exact absurd rfl (by assumption))
      | ((conv => whnf); (refine ⟨(k + 1, ?_), ?_⟩); (rotate_left 1); (refine And.intro ?_ (And.intro ?_ ?_)); (focus (refine ⟨⟨[0], ?_⟩⟩; repeat' (first | (with_reducible rfl) | exact trivial | ((conv => whnf); (first | (with_reducible refine And.intro ?_ ?_) | (first | rfl | (refine congrArg V.str ?_; (first | rfl | omega | (simp; done) | exact (crash0 _).trans (crash2 _ _ _ (Int.natCast_nonneg _)))) | (refine congrArg (V.int _) ?_; (first | rfl | omega | (simp; done) | exact (crash0 _).trans (crash2 _ _ _ (Int.natCast_nonneg _)))) | (refine congrArg V.bool ?_; (first | rfl | omega | (simp; done) | exact (crash0 _).trans (crash2 _ _ _ (Int.natCast_nonneg _)))) | (refine congrArg V.sl ?_; (first | rfl | omega | (simp; done) | exact (crash0 _).trans (crash2 _ _ _ (Int.natCast_nonneg _)))) | (first | rfl | omega | (simp; done) | exact (crash0 _).trans (crash2 _ _ _ (Int.natCast_nonneg _))))))))); (focus (refine ⟨?_, hk2, hk3, hk4, ?_, hk6.trans (List.prefix_append _ _)⟩ <;> (simp only [List.length_append, List.length_take, List.length_drop, List.length_nil] at *; omega))); (focus (first | omega | (simp at *; omega))))
      | ((conv => whnf); (try (first | rfl | (exfalso; simp_all; done) | (exfalso; simp at *; omega) | (exfalso; exact hb (crash2 _ _ _ (Int.natCast_nonneg _))) | (exact congrArg V.bool (decide_eq_true (List.prefix_iff_eq_take.1 hk6).symm)) | (exfalso; exact hb hk6.length_le) | (exfalso; exact hb (List.prefix_iff_eq_take.1 hk6).symm))); done))


set_option maxRecDepth 100000 in
set_option maxHeartbeats 400000 in
theorem diskFull_fn0 (n c : Int) (hn : 0 ≤ n ∧ n ≤ 255) (hc : 0 ≤ c ∧ c ≤ 65535) (h3 : n % 3 = 2) (hk : 0 ≤ c) : Fn Tryd.prog 8 [.int .u8 n, .int .u16 c] (.bool true) := by
  refine Fn.mk' base Tryd.func8 rfl rfl rfl ?_
  repeat' (first
      | (with_reducible refine AW.seq ?_) | (with_reducible refine AW.region base (by kernel_rfl) ?_) | (with_reducible refine AW.cond ?_) | (with_reducible refine AW.block ?_) | (with_reducible refine AW.ret ?_) | (with_reducible refine AW.exit ?_) | (with_reducible refine AW.skip ?_)
      | ((conv => whnf); (first
         | (with_reducible refine Br.t ?_)
         | (with_reducible refine Br.f ?_)
         | (refine Br.t ?_)
         | (refine Br.f ?_)
         | (with_reducible refine Br.mk (fun hb => ?_) (fun hb => (by exfalso; simp at hb; omega)))
         | (with_reducible refine Br.mk (fun hb => (by exfalso; simp at hb; omega)) (fun hb => ?_))
         | (with_reducible refine Or.inl ⟨_, known9_fn, ?_⟩)
         | ((with_reducible refine Or.inl ?_); (conv => whnf); (with_reducible refine ⟨_, known9_fn, ?_⟩))
         | (with_reducible refine Or.inr ⟨[], _, _, _, _, diskNew_fn, ?_⟩)
         | (with_reducible refine Or.inr (Or.inr ⟨[], _, _, _, _, diskNew_fn, ?_⟩))
         | ((with_reducible refine Or.inr ⟨[?_], _, _, _, _, diskAppend_ok ?_ ?_ ?_ ?_ ?_, ?_⟩); rotate_right; (repeat ((conv => whnf); (with_reducible refine And.intro ?_ ?_); (focus (first | with_reducible rfl | exact trivial | (exact ⟨rfl, trivial⟩) | (exact ⟨rfl, rfl, trivial⟩) | omega | (intro r hr; simp only [List.mem_singleton] at hr; subst hr; rfl)  | (simp only [in64]; omega) | assumption | (simp; done) | (simp [V.cells]; done) | (simp [in64, maxLen, limK] at *; omega) | ((show confB _ _ = true); kernel_rfl) | rfl)))); rotate_left; (simp only [List.length_replicate, List.length_append, List.length_nil, in64] at *; omega); (simp only [List.length_replicate, List.length_append, List.length_nil, in64] at *; omega))
         | ((with_reducible refine Or.inr (Or.inr ⟨[?_], _, _, _, _, diskAppend_ok ?_ ?_ ?_ ?_ ?_, ?_⟩)); rotate_right; (repeat ((conv => whnf); (with_reducible refine And.intro ?_ ?_); (focus (first | with_reducible rfl | exact trivial | (exact ⟨rfl, trivial⟩) | (exact ⟨rfl, rfl, trivial⟩) | omega | (intro r hr; simp only [List.mem_singleton] at hr; subst hr; rfl)  | (simp only [in64]; omega) | assumption | (simp; done) | (simp [V.cells]; done) | (simp [in64, maxLen, limK] at *; omega) | ((show confB _ _ = true); kernel_rfl) | rfl)))); rotate_left; (simp only [List.length_replicate, List.length_append, List.length_nil, in64] at *; omega); (simp only [List.length_replicate, List.length_append, List.length_nil, in64] at *; omega))
         | ((with_reducible refine Or.inr ⟨[?_], _, _, _, _, diskAppend_err ?_ ?_ ?_ ?_ ?_, ?_⟩); rotate_right; (repeat ((conv => whnf); (with_reducible refine And.intro ?_ ?_); (focus (first | with_reducible rfl | exact trivial | (exact ⟨rfl, trivial⟩) | (exact ⟨rfl, rfl, trivial⟩) | omega | (intro r hr; simp only [List.mem_singleton] at hr; subst hr; rfl)  | (simp only [in64]; omega) | assumption | (simp; done) | (simp [V.cells]; done) | (simp [in64, maxLen, limK] at *; omega) | ((show confB _ _ = true); kernel_rfl) | rfl)))); rotate_left; (simp only [List.length_replicate, List.length_append, List.length_nil, in64] at *; omega); (simp only [List.length_replicate, List.length_append, List.length_nil, in64] at *; omega))
         | ((with_reducible refine Or.inr (Or.inr ⟨[?_], _, _, _, _, diskAppend_err ?_ ?_ ?_ ?_ ?_, ?_⟩)); rotate_right; (repeat ((conv => whnf); (with_reducible refine And.intro ?_ ?_); (focus (first | with_reducible rfl | exact trivial | (exact ⟨rfl, trivial⟩) | (exact ⟨rfl, rfl, trivial⟩) | omega | (intro r hr; simp only [List.mem_singleton] at hr; subst hr; rfl)  | (simp only [in64]; omega) | assumption | (simp; done) | (simp [V.cells]; done) | (simp [in64, maxLen, limK] at *; omega) | ((show confB _ _ = true); kernel_rfl) | rfl)))); rotate_left; (simp only [List.length_replicate, List.length_append, List.length_nil, in64] at *; omega); (simp only [List.length_replicate, List.length_append, List.length_nil, in64] at *; omega))
         | ((with_reducible refine Or.inr ⟨[?_], _, _, _, _, diskReplace_ok ?_ ?_ ?_ ?_, ?_⟩); rotate_right; (repeat ((conv => whnf); (with_reducible refine And.intro ?_ ?_); (focus (first | with_reducible rfl | exact trivial | (exact ⟨rfl, trivial⟩) | (exact ⟨rfl, rfl, trivial⟩) | omega | (intro r hr; simp only [List.mem_singleton] at hr; subst hr; rfl)  | (simp only [in64]; omega) | assumption | (simp; done) | (simp [V.cells]; done) | (simp [in64, maxLen, limK] at *; omega) | ((show confB _ _ = true); kernel_rfl) | rfl)))); rotate_left; (simp only [List.length_replicate, List.length_append, List.length_nil, in64] at *; omega))
         | ((with_reducible refine Or.inr (Or.inr ⟨[?_], _, _, _, _, diskReplace_ok ?_ ?_ ?_ ?_, ?_⟩)); rotate_right; (repeat ((conv => whnf); (with_reducible refine And.intro ?_ ?_); (focus (first | with_reducible rfl | exact trivial | (exact ⟨rfl, trivial⟩) | (exact ⟨rfl, rfl, trivial⟩) | omega | (intro r hr; simp only [List.mem_singleton] at hr; subst hr; rfl)  | (simp only [in64]; omega) | assumption | (simp; done) | (simp [V.cells]; done) | (simp [in64, maxLen, limK] at *; omega) | ((show confB _ _ = true); kernel_rfl) | rfl)))); rotate_left; (simp only [List.length_replicate, List.length_append, List.length_nil, in64] at *; omega))
         | ((with_reducible refine Or.inr ⟨[?_], _, _, _, _, diskReplace_err ?_ ?_ ?_ ?_, ?_⟩); rotate_right; (repeat ((conv => whnf); (with_reducible refine And.intro ?_ ?_); (focus (first | with_reducible rfl | exact trivial | (exact ⟨rfl, trivial⟩) | (exact ⟨rfl, rfl, trivial⟩) | omega | (intro r hr; simp only [List.mem_singleton] at hr; subst hr; rfl)  | (simp only [in64]; omega) | assumption | (simp; done) | (simp [V.cells]; done) | (simp [in64, maxLen, limK] at *; omega) | ((show confB _ _ = true); kernel_rfl) | rfl)))); rotate_left; (simp only [List.length_replicate, List.length_append, List.length_nil, in64] at *; omega))
         | ((with_reducible refine Or.inr (Or.inr ⟨[?_], _, _, _, _, diskReplace_err ?_ ?_ ?_ ?_, ?_⟩)); rotate_right; (repeat ((conv => whnf); (with_reducible refine And.intro ?_ ?_); (focus (first | with_reducible rfl | exact trivial | (exact ⟨rfl, trivial⟩) | (exact ⟨rfl, rfl, trivial⟩) | omega | (intro r hr; simp only [List.mem_singleton] at hr; subst hr; rfl)  | (simp only [in64]; omega) | assumption | (simp; done) | (simp [V.cells]; done) | (simp [in64, maxLen, limK] at *; omega) | ((show confB _ _ = true); kernel_rfl) | rfl)))); rotate_left; (simp only [List.length_replicate, List.length_append, List.length_nil, in64] at *; omega))
         | (refine Or.inl ⟨_, code_fn [[100, 105, 115, 107]] 19, ?_⟩)
         | ((with_reducible refine Or.inl ?_); (conv => whnf); (refine ⟨_, code_fn [[100, 105, 115, 107]] 19, ?_⟩))
         | (with_reducible refine Or.inl ⟨_, code_ok, ?_⟩)
         | ((with_reducible refine Or.inl ?_); (conv => whnf); (with_reducible refine ⟨_, code_ok, ?_⟩))
         | (refine Or.inl ⟨_, fis_fn [[100, 105, 115, 107]] 19 _, ?_⟩)
         | ((with_reducible refine Or.inl ?_); (conv => whnf); (refine ⟨_, fis_fn [[100, 105, 115, 107]] 19 _, ?_⟩))
         | (with_reducible refine Or.inl ⟨_, fis_ok _, ?_⟩)
         | ((with_reducible refine Or.inl ?_); (conv => whnf); (with_reducible refine ⟨_, fis_ok _, ?_⟩))
         | (with_reducible refine Br.mk (fun hb => ?_) (fun hb => ?_) <;> (try rw [hb]) <;> (try simp only [List.length_map, decide_eq_true_eq, decide_eq_false_iff_not, Bool.not_eq_true', Bool.not_eq_false', Int.ofNat_lt, Int.ofNat_le, Int.not_lt, Int.not_le, Int.toNat_natCast] at hb))
         | (with_reducible refine ⟨_, (by first | exact ByteRows.map _ | (repeat (first | exact ByteRows.nil | exact ByteRows.map _ | refine ByteRows.cons ?_ | refine ByteRows.app ?_ ?_))), ?_⟩)
         | (refine Exists.intro _ (And.intro (ByteRows.rep _) ?_))
         | ((with_reducible refine And.intro ?_ ?_); (focus (first | with_reducible rfl | exact trivial | (exact ⟨rfl, trivial⟩) | (exact ⟨rfl, rfl, trivial⟩) | omega | (intro r hr; simp only [List.mem_singleton] at hr; subst hr; rfl)  | ((simp only [maxLen, List.length_replicate] at *; omega)) | ((simp only [in64, maxLen, List.length_replicate] at *; omega)) | ((simp [IntKind.wrap, IntKind.bits, IntKind.signed] at *; omega)) | (simp only [in64]; omega) | assumption | (simp; done) | (simp [V.cells]; done) | (simp [in64, maxLen, limK] at *; omega) | ((show confB _ _ = true); kernel_rfl) | rfl)))
         | (intro row hrow; (try simp only [Int.toNat_natCast, List.length_map, toNat_pred, toNat_succ', toNat_zero', toNat_one'] at hrow); (first | (have hsm := same_map (by assumption) hrow; subst hsm; clear hrow) | (obtain ⟨p, hp, rfl⟩ := of_map hrow; clear hrow)))
         | (with_reducible refine AW.seq ?_) | (with_reducible refine AW.region base (by kernel_rfl) ?_) | (with_reducible refine AW.cond ?_) | (with_reducible refine AW.block ?_) | (with_reducible refine AW.ret ?_) | (with_reducible refine AW.exit ?_) | (with_reducible refine AW.skip ?_))))
  all_goals (conv => whnf)
  all_goals (first | rfl | (simp only [V.bool.injEq, V.tup.injEq, V.agg.injEq, V.str.injEq, V.int.injEq, V.sl.injEq, V.ifc.injEq, List.cons.injEq, and_true, true_and, and_self]; done) | (simp only [V.bool.injEq, V.tup.injEq, V.agg.injEq, V.str.injEq, V.int.injEq, V.sl.injEq, V.ifc.injEq, List.cons.injEq, and_true, true_and, and_self]; grind) | (simp  at *; done) | (simp  at *; grind) | (exfalso; simp at *; omega) | (exfalso; omega))

set_option maxRecDepth 100000 in
set_option maxHeartbeats 400000 in
theorem diskFull_fn1 (n c : Int) (hn : 0 ≤ n ∧ n ≤ 255) (hc : 0 ≤ c ∧ c ≤ 65535) (h3 : n % 3 = 1) (hk : 0 ≤ c) : Fn Tryd.prog 8 [.int .u8 n, .int .u16 c] (.bool true) := by
  refine Fn.mk' base Tryd.func8 rfl rfl rfl ?_
  repeat' (first
      | (with_reducible refine AW.seq ?_) | (with_reducible refine AW.region base (by kernel_rfl) ?_) | (with_reducible refine AW.cond ?_) | (with_reducible refine AW.block ?_) | (with_reducible refine AW.ret ?_) | (with_reducible refine AW.exit ?_) | (with_reducible refine AW.skip ?_)
      | ((conv => whnf); (first
         | (with_reducible refine Br.t ?_)
         | (with_reducible refine Br.f ?_)
         | (refine Br.t ?_)
         | (refine Br.f ?_)
         | (with_reducible refine Br.mk (fun hb => ?_) (fun hb => (by exfalso; simp at hb; omega)))
         | (with_reducible refine Br.mk (fun hb => (by exfalso; simp at hb; omega)) (fun hb => ?_))
         | (with_reducible refine Or.inl ⟨_, known9_fn, ?_⟩)
         | ((with_reducible refine Or.inl ?_); (conv => whnf); (with_reducible refine ⟨_, known9_fn, ?_⟩))
         | (with_reducible refine Or.inr ⟨[], _, _, _, _, diskNew_fn, ?_⟩)
         | (with_reducible refine Or.inr (Or.inr ⟨[], _, _, _, _, diskNew_fn, ?_⟩))
         | ((with_reducible refine Or.inr ⟨[?_], _, _, _, _, diskAppend_ok ?_ ?_ ?_ ?_ ?_, ?_⟩); rotate_right; (repeat ((conv => whnf); (with_reducible refine And.intro ?_ ?_); (focus (first | with_reducible rfl | exact trivial | (exact ⟨rfl, trivial⟩) | (exact ⟨rfl, rfl, trivial⟩) | omega | (intro r hr; simp only [List.mem_singleton] at hr; subst hr; rfl)  | (simp only [in64]; omega) | assumption | (simp; done) | (simp [V.cells]; done) | (simp [in64, maxLen, limK] at *; omega) | ((show confB _ _ = true); kernel_rfl) | rfl)))); rotate_left; (simp only [List.length_replicate, List.length_append, List.length_nil, in64] at *; omega); (simp only [List.length_replicate, List.length_append, List.length_nil, in64] at *; omega))
         | ((with_reducible refine Or.inr (Or.inr ⟨[?_], _, _, _, _, diskAppend_ok ?_ ?_ ?_ ?_ ?_, ?_⟩)); rotate_right; (repeat ((conv => whnf); (with_reducible refine And.intro ?_ ?_); (focus (first | with_reducible rfl | exact trivial | (exact ⟨rfl, trivial⟩) | (exact ⟨rfl, rfl, trivial⟩) | omega | (intro r hr; simp only [List.mem_singleton] at hr; subst hr; rfl)  | (simp only [in64]; omega) | assumption | (simp; done) | (simp [V.cells]; done) | (simp [in64, maxLen, limK] at *; omega) | ((show confB _ _ = true); kernel_rfl) | rfl)))); rotate_left; (simp only [List.length_replicate, List.length_append, List.length_nil, in64] at *; omega); (simp only [List.length_replicate, List.length_append, List.length_nil, in64] at *; omega))
         | ((with_reducible refine Or.inr ⟨[?_], _, _, _, _, diskAppend_err ?_ ?_ ?_ ?_ ?_, ?_⟩); rotate_right; (repeat ((conv => whnf); (with_reducible refine And.intro ?_ ?_); (focus (first | with_reducible rfl | exact trivial | (exact ⟨rfl, trivial⟩) | (exact ⟨rfl, rfl, trivial⟩) | omega | (intro r hr; simp only [List.mem_singleton] at hr; subst hr; rfl)  | (simp only [in64]; omega) | assumption | (simp; done) | (simp [V.cells]; done) | (simp [in64, maxLen, limK] at *; omega) | ((show confB _ _ = true); kernel_rfl) | rfl)))); rotate_left; (simp only [List.length_replicate, List.length_append, List.length_nil, in64] at *; omega); (simp only [List.length_replicate, List.length_append, List.length_nil, in64] at *; omega))
         | ((with_reducible refine Or.inr (Or.inr ⟨[?_], _, _, _, _, diskAppend_err ?_ ?_ ?_ ?_ ?_, ?_⟩)); rotate_right; (repeat ((conv => whnf); (with_reducible refine And.intro ?_ ?_); (focus (first | with_reducible rfl | exact trivial | (exact ⟨rfl, trivial⟩) | (exact ⟨rfl, rfl, trivial⟩) | omega | (intro r hr; simp only [List.mem_singleton] at hr; subst hr; rfl)  | (simp only [in64]; omega) | assumption | (simp; done) | (simp [V.cells]; done) | (simp [in64, maxLen, limK] at *; omega) | ((show confB _ _ = true); kernel_rfl) | rfl)))); rotate_left; (simp only [List.length_replicate, List.length_append, List.length_nil, in64] at *; omega); (simp only [List.length_replicate, List.length_append, List.length_nil, in64] at *; omega))
         | ((with_reducible refine Or.inr ⟨[?_], _, _, _, _, diskReplace_ok ?_ ?_ ?_ ?_, ?_⟩); rotate_right; (repeat ((conv => whnf); (with_reducible refine And.intro ?_ ?_); (focus (first | with_reducible rfl | exact trivial | (exact ⟨rfl, trivial⟩) | (exact ⟨rfl, rfl, trivial⟩) | omega | (intro r hr; simp only [List.mem_singleton] at hr; subst hr; rfl)  | (simp only [in64]; omega) | assumption | (simp; done) | (simp [V.cells]; done) | (simp [in64, maxLen, limK] at *; omega) | ((show confB _ _ = true); kernel_rfl) | rfl)))); rotate_left; (simp only [List.length_replicate, List.length_append, List.length_nil, in64] at *; omega))
         | ((with_reducible refine Or.inr (Or.inr ⟨[?_], _, _, _, _, diskReplace_ok ?_ ?_ ?_ ?_, ?_⟩)); rotate_right; (repeat ((conv => whnf); (with_reducible refine And.intro ?_ ?_); (focus (first | with_reducible rfl | exact trivial | (exact ⟨rfl, trivial⟩) | (exact ⟨rfl, rfl, trivial⟩) | omega | (intro r hr; simp only [List.mem_singleton] at hr; subst hr; rfl)  | (simp only [in64]; omega) | assumption | (simp; done) | (simp [V.cells]; done) | (simp [in64, maxLen, limK] at *; omega) | ((show confB _ _ = true); kernel_rfl) | rfl)))); rotate_left; (simp only [List.length_replicate, List.length_append, List.length_nil, in64] at *; omega))
         | ((with_reducible refine Or.inr ⟨[?_], _, _, _, _, diskReplace_err ?_ ?_ ?_ ?_, ?_⟩); rotate_right; (repeat ((conv => whnf); (with_reducible refine And.intro ?_ ?_); (focus (first | with_reducible rfl | exact trivial | (exact ⟨rfl, trivial⟩) | (exact ⟨rfl, rfl, trivial⟩) | omega | (intro r hr; simp only [List.mem_singleton] at hr; subst hr; rfl)  | (simp only [in64]; omega) | assumption | (simp; done) | (simp [V.cells]; done) | (simp [in64, maxLen, limK] at *; omega) | ((show confB _ _ = true); kernel_rfl) | rfl)))); rotate_left; (simp only [List.length_replicate, List.length_append, List.length_nil, in64] at *; omega))
         | ((with_reducible refine Or.inr (Or.inr ⟨[?_], _, _, _, _, diskReplace_err ?_ ?_ ?_ ?_, ?_⟩)); rotate_right; (repeat ((conv => whnf); (with_reducible refine And.intro ?_ ?_); (focus (first | with_reducible rfl | exact trivial | (exact ⟨rfl, trivial⟩) | (exact ⟨rfl, rfl, trivial⟩) | omega | (intro r hr; simp only [List.mem_singleton] at hr; subst hr; rfl)  | (simp only [in64]; omega) | assumption | (simp; done) | (simp [V.cells]; done) | (simp [in64, maxLen, limK] at *; omega) | ((show confB _ _ = true); kernel_rfl) | rfl)))); rotate_left; (simp only [List.length_replicate, List.length_append, List.length_nil, in64] at *; omega))
         | (refine Or.inl ⟨_, code_fn [[100, 105, 115, 107]] 19, ?_⟩)
         | ((with_reducible refine Or.inl ?_); (conv => whnf); (refine ⟨_, code_fn [[100, 105, 115, 107]] 19, ?_⟩))
         | (with_reducible refine Or.inl ⟨_, code_ok, ?_⟩)
         | ((with_reducible refine Or.inl ?_); (conv => whnf); (with_reducible refine ⟨_, code_ok, ?_⟩))
         | (refine Or.inl ⟨_, fis_fn [[100, 105, 115, 107]] 19 _, ?_⟩)
         | ((with_reducible refine Or.inl ?_); (conv => whnf); (refine ⟨_, fis_fn [[100, 105, 115, 107]] 19 _, ?_⟩))
         | (with_reducible refine Or.inl ⟨_, fis_ok _, ?_⟩)
         | ((with_reducible refine Or.inl ?_); (conv => whnf); (with_reducible refine ⟨_, fis_ok _, ?_⟩))
         | (with_reducible refine Br.mk (fun hb => ?_) (fun hb => ?_) <;> (try rw [hb]) <;> (try simp only [List.length_map, decide_eq_true_eq, decide_eq_false_iff_not, Bool.not_eq_true', Bool.not_eq_false', Int.ofNat_lt, Int.ofNat_le, Int.not_lt, Int.not_le, Int.toNat_natCast] at hb))
         | (with_reducible refine ⟨_, (by first | exact ByteRows.map _ | (repeat (first | exact ByteRows.nil | exact ByteRows.map _ | refine ByteRows.cons ?_ | refine ByteRows.app ?_ ?_))), ?_⟩)
         | (refine Exists.intro _ (And.intro (ByteRows.rep _) ?_))
         | ((with_reducible refine And.intro ?_ ?_); (focus (first | with_reducible rfl | exact trivial | (exact ⟨rfl, trivial⟩) | (exact ⟨rfl, rfl, trivial⟩) | omega | (intro r hr; simp only [List.mem_singleton] at hr; subst hr; rfl)  | ((simp only [maxLen, List.length_replicate] at *; omega)) | ((simp only [in64, maxLen, List.length_replicate] at *; omega)) | ((simp [IntKind.wrap, IntKind.bits, IntKind.signed] at *; omega)) | (simp only [in64]; omega) | assumption | (simp; done) | (simp [V.cells]; done) | (simp [in64, maxLen, limK] at *; omega) | ((show confB _ _ = true); kernel_rfl) | rfl)))
         | (intro row hrow; (try simp only [Int.toNat_natCast, List.length_map, toNat_pred, toNat_succ', toNat_zero', toNat_one'] at hrow); (first | (have hsm := same_map (by assumption) hrow; subst hsm; clear hrow) | (obtain ⟨p, hp, rfl⟩ := of_map hrow; clear hrow)))
         | (with_reducible refine AW.seq ?_) | (with_reducible refine AW.region base (by kernel_rfl) ?_) | (with_reducible refine AW.cond ?_) | (with_reducible refine AW.block ?_) | (with_reducible refine AW.ret ?_) | (with_reducible refine AW.exit ?_) | (with_reducible refine AW.skip ?_))))
  all_goals (conv => whnf)
  all_goals (first | rfl | (simp only [V.bool.injEq, V.tup.injEq, V.agg.injEq, V.str.injEq, V.int.injEq, V.sl.injEq, V.ifc.injEq, List.cons.injEq, and_true, true_and, and_self]; done) | (simp only [V.bool.injEq, V.tup.injEq, V.agg.injEq, V.str.injEq, V.int.injEq, V.sl.injEq, V.ifc.injEq, List.cons.injEq, and_true, true_and, and_self]; grind) | (simp  at *; done) | (simp  at *; grind) | (exfalso; simp at *; omega) | (exfalso; omega))

set_option maxRecDepth 100000 in
set_option maxHeartbeats 400000 in
theorem diskFull_fn2 (n c : Int) (hn : 0 ≤ n ∧ n ≤ 255) (hc : 0 ≤ c ∧ c ≤ 65535) (h3 : n % 3 = 0) (hk : 1 ≤ c) : Fn Tryd.prog 8 [.int .u8 n, .int .u16 c] (.bool true) := by
  refine Fn.mk' base Tryd.func8 rfl rfl rfl ?_
  repeat' (first
      | (with_reducible refine AW.seq ?_) | (with_reducible refine AW.region base (by kernel_rfl) ?_) | (with_reducible refine AW.cond ?_) | (with_reducible refine AW.block ?_) | (with_reducible refine AW.ret ?_) | (with_reducible refine AW.exit ?_) | (with_reducible refine AW.skip ?_)
      | ((conv => whnf); (first
         | (with_reducible refine Br.t ?_)
         | (with_reducible refine Br.f ?_)
         | (refine Br.t ?_)
         | (refine Br.f ?_)
         | (with_reducible refine Br.mk (fun hb => ?_) (fun hb => (by exfalso; simp at hb; omega)))
         | (with_reducible refine Br.mk (fun hb => (by exfalso; simp at hb; omega)) (fun hb => ?_))
         | (with_reducible refine Or.inl ⟨_, known9_fn, ?_⟩)
         | ((with_reducible refine Or.inl ?_); (conv => whnf); (with_reducible refine ⟨_, known9_fn, ?_⟩))
         | (with_reducible refine Or.inr ⟨[], _, _, _, _, diskNew_fn, ?_⟩)
         | (with_reducible refine Or.inr (Or.inr ⟨[], _, _, _, _, diskNew_fn, ?_⟩))
         | ((with_reducible refine Or.inr ⟨[?_], _, _, _, _, diskAppend_ok ?_ ?_ ?_ ?_ ?_, ?_⟩); rotate_right; (repeat ((conv => whnf); (with_reducible refine And.intro ?_ ?_); (focus (first | with_reducible rfl | exact trivial | (exact ⟨rfl, trivial⟩) | (exact ⟨rfl, rfl, trivial⟩) | omega | (intro r hr; simp only [List.mem_singleton] at hr; subst hr; rfl)  | (simp only [in64]; omega) | assumption | (simp; done) | (simp [V.cells]; done) | (simp [in64, maxLen, limK] at *; omega) | ((show confB _ _ = true); kernel_rfl) | rfl)))); rotate_left; (simp only [List.length_replicate, List.length_append, List.length_nil, in64] at *; omega); (simp only [List.length_replicate, List.length_append, List.length_nil, in64] at *; omega))
         | ((with_reducible refine Or.inr (Or.inr ⟨[?_], _, _, _, _, diskAppend_ok ?_ ?_ ?_ ?_ ?_, ?_⟩)); rotate_right; (repeat ((conv => whnf); (with_reducible refine And.intro ?_ ?_); (focus (first | with_reducible rfl | exact trivial | (exact ⟨rfl, trivial⟩) | (exact ⟨rfl, rfl, trivial⟩) | omega | (intro r hr; simp only [List.mem_singleton] at hr; subst hr; rfl)  | (simp only [in64]; omega) | assumption | (simp; done) | (simp [V.cells]; done) | (simp [in64, maxLen, limK] at *; omega) | ((show confB _ _ = true); kernel_rfl) | rfl)))); rotate_left; (simp only [List.length_replicate, List.length_append, List.length_nil, in64] at *; omega); (simp only [List.length_replicate, List.length_append, List.length_nil, in64] at *; omega))
         | ((with_reducible refine Or.inr ⟨[?_], _, _, _, _, diskAppend_err ?_ ?_ ?_ ?_ ?_, ?_⟩); rotate_right; (repeat ((conv => whnf); (with_reducible refine And.intro ?_ ?_); (focus (first | with_reducible rfl | exact trivial | (exact ⟨rfl, trivial⟩) | (exact ⟨rfl, rfl, trivial⟩) | omega | (intro r hr; simp only [List.mem_singleton] at hr; subst hr; rfl)  | (simp only [in64]; omega) | assumption | (simp; done) | (simp [V.cells]; done) | (simp [in64, maxLen, limK] at *; omega) | ((show confB _ _ = true); kernel_rfl) | rfl)))); rotate_left; (simp only [List.length_replicate, List.length_append, List.length_nil, in64] at *; omega); (simp only [List.length_replicate, List.length_append, List.length_nil, in64] at *; omega))
         | ((with_reducible refine Or.inr (Or.inr ⟨[?_], _, _, _, _, diskAppend_err ?_ ?_ ?_ ?_ ?_, ?_⟩)); rotate_right; (repeat ((conv => whnf); (with_reducible refine And.intro ?_ ?_); (focus (first | with_reducible rfl | exact trivial | (exact ⟨rfl, trivial⟩) | (exact ⟨rfl, rfl, trivial⟩) | omega | (intro r hr; simp only [List.mem_singleton] at hr; subst hr; rfl)  | (simp only [in64]; omega) | assumption | (simp; done) | (simp [V.cells]; done) | (simp [in64, maxLen, limK] at *; omega) | ((show confB _ _ = true); kernel_rfl) | rfl)))); rotate_left; (simp only [List.length_replicate, List.length_append, List.length_nil, in64] at *; omega); (simp only [List.length_replicate, List.length_append, List.length_nil, in64] at *; omega))
         | ((with_reducible refine Or.inr ⟨[?_], _, _, _, _, diskReplace_ok ?_ ?_ ?_ ?_, ?_⟩); rotate_right; (repeat ((conv => whnf); (with_reducible refine And.intro ?_ ?_); (focus (first | with_reducible rfl | exact trivial | (exact ⟨rfl, trivial⟩) | (exact ⟨rfl, rfl, trivial⟩) | omega | (intro r hr; simp only [List.mem_singleton] at hr; subst hr; rfl)  | (simp only [in64]; omega) | assumption | (simp; done) | (simp [V.cells]; done) | (simp [in64, maxLen, limK] at *; omega) | ((show confB _ _ = true); kernel_rfl) | rfl)))); rotate_left; (simp only [List.length_replicate, List.length_append, List.length_nil, in64] at *; omega))
         | ((with_reducible refine Or.inr (Or.inr ⟨[?_], _, _, _, _, diskReplace_ok ?_ ?_ ?_ ?_, ?_⟩)); rotate_right; (repeat ((conv => whnf); (with_reducible refine And.intro ?_ ?_); (focus (first | with_reducible rfl | exact trivial | (exact ⟨rfl, trivial⟩) | (exact ⟨rfl, rfl, trivial⟩) | omega | (intro r hr; simp only [List.mem_singleton] at hr; subst hr; rfl)  | (simp only [in64]; omega) | assumption | (simp; done) | (simp [V.cells]; done) | (simp [in64, maxLen, limK] at *; omega) | ((show confB _ _ = true); kernel_rfl) | rfl)))); rotate_left; (simp only [List.length_replicate, List.length_append, List.length_nil, in64] at *; omega))
         | ((with_reducible refine Or.inr ⟨[?_], _, _, _, _, diskReplace_err ?_ ?_ ?_ ?_, ?_⟩); rotate_right; (repeat ((conv => whnf); (with_reducible refine And.intro ?_ ?_); (focus (first | with_reducible rfl | exact trivial | (exact ⟨rfl, trivial⟩) | (exact ⟨rfl, rfl, trivial⟩) | omega | (intro r hr; simp only [List.mem_singleton] at hr; subst hr; rfl)  | (simp only [in64]; omega) | assumption | (simp; done) | (simp [V.cells]; done) | (simp [in64, maxLen, limK] at *; omega) | ((show confB _ _ = true); kernel_rfl) | rfl)))); rotate_left; (simp only [List.length_replicate, List.length_append, List.length_nil, in64] at *; omega))
         | ((with_reducible refine Or.inr (Or.inr ⟨[?_], _, _, _, _, diskReplace_err ?_ ?_ ?_ ?_, ?_⟩)); rotate_right; (repeat ((conv => whnf); (with_reducible refine And.intro ?_ ?_); (focus (first | with_reducible rfl | exact trivial | (exact ⟨rfl, trivial⟩) | (exact ⟨rfl, rfl, trivial⟩) | omega | (intro r hr; simp only [List.mem_singleton] at hr; subst hr; rfl)  | (simp only [in64]; omega) | assumption | (simp; done) | (simp [V.cells]; done) | (simp [in64, maxLen, limK] at *; omega) | ((show confB _ _ = true); kernel_rfl) | rfl)))); rotate_left; (simp only [List.length_replicate, List.length_append, List.length_nil, in64] at *; omega))
         | (refine Or.inl ⟨_, code_fn [[100, 105, 115, 107]] 19, ?_⟩)
         | ((with_reducible refine Or.inl ?_); (conv => whnf); (refine ⟨_, code_fn [[100, 105, 115, 107]] 19, ?_⟩))
         | (with_reducible refine Or.inl ⟨_, code_ok, ?_⟩)
         | ((with_reducible refine Or.inl ?_); (conv => whnf); (with_reducible refine ⟨_, code_ok, ?_⟩))
         | (refine Or.inl ⟨_, fis_fn [[100, 105, 115, 107]] 19 _, ?_⟩)
         | ((with_reducible refine Or.inl ?_); (conv => whnf); (refine ⟨_, fis_fn [[100, 105, 115, 107]] 19 _, ?_⟩))
         | (with_reducible refine Or.inl ⟨_, fis_ok _, ?_⟩)
         | ((with_reducible refine Or.inl ?_); (conv => whnf); (with_reducible refine ⟨_, fis_ok _, ?_⟩))
         | (with_reducible refine Br.mk (fun hb => ?_) (fun hb => ?_) <;> (try rw [hb]) <;> (try simp only [List.length_map, decide_eq_true_eq, decide_eq_false_iff_not, Bool.not_eq_true', Bool.not_eq_false', Int.ofNat_lt, Int.ofNat_le, Int.not_lt, Int.not_le, Int.toNat_natCast] at hb))
         | (with_reducible refine ⟨_, (by first | exact ByteRows.map _ | (repeat (first | exact ByteRows.nil | exact ByteRows.map _ | refine ByteRows.cons ?_ | refine ByteRows.app ?_ ?_))), ?_⟩)
         | (refine Exists.intro _ (And.intro (ByteRows.rep _) ?_))
         | ((with_reducible refine And.intro ?_ ?_); (focus (first | with_reducible rfl | exact trivial | (exact ⟨rfl, trivial⟩) | (exact ⟨rfl, rfl, trivial⟩) | omega | (intro r hr; simp only [List.mem_singleton] at hr; subst hr; rfl)  | ((simp only [maxLen, List.length_replicate] at *; omega)) | ((simp only [in64, maxLen, List.length_replicate] at *; omega)) | ((simp [IntKind.wrap, IntKind.bits, IntKind.signed] at *; omega)) | (simp only [in64]; omega) | assumption | (simp; done) | (simp [V.cells]; done) | (simp [in64, maxLen, limK] at *; omega) | ((show confB _ _ = true); kernel_rfl) | rfl)))
         | (intro row hrow; (try simp only [Int.toNat_natCast, List.length_map, toNat_pred, toNat_succ', toNat_zero', toNat_one'] at hrow); (first | (have hsm := same_map (by assumption) hrow; subst hsm; clear hrow) | (obtain ⟨p, hp, rfl⟩ := of_map hrow; clear hrow)))
         | (with_reducible refine AW.seq ?_) | (with_reducible refine AW.region base (by kernel_rfl) ?_) | (with_reducible refine AW.cond ?_) | (with_reducible refine AW.block ?_) | (with_reducible refine AW.ret ?_) | (with_reducible refine AW.exit ?_) | (with_reducible refine AW.skip ?_))))
  all_goals (conv => whnf)
  all_goals (first | rfl | (simp only [V.bool.injEq, V.tup.injEq, V.agg.injEq, V.str.injEq, V.int.injEq, V.sl.injEq, V.ifc.injEq, List.cons.injEq, and_true, true_and, and_self]; done) | (simp only [V.bool.injEq, V.tup.injEq, V.agg.injEq, V.str.injEq, V.int.injEq, V.sl.injEq, V.ifc.injEq, List.cons.injEq, and_true, true_and, and_self]; grind) | (simp  at *; done) | (simp  at *; grind) | (exfalso; simp at *; omega) | (exfalso; omega))

set_option maxRecDepth 100000 in
set_option maxHeartbeats 400000 in
theorem diskFull_fn3 (n c : Int) (hn : 0 ≤ n ∧ n ≤ 255) (hc : 0 ≤ c ∧ c ≤ 65535) (h3 : n % 3 = 0) (hk : c = 0) : Fn Tryd.prog 8 [.int .u8 n, .int .u16 c] (.bool true) := by
  refine Fn.mk' base Tryd.func8 rfl rfl rfl ?_
  repeat' (first
      | (with_reducible refine AW.seq ?_) | (with_reducible refine AW.region base (by kernel_rfl) ?_) | (with_reducible refine AW.cond ?_) | (with_reducible refine AW.block ?_) | (with_reducible refine AW.ret ?_) | (with_reducible refine AW.exit ?_) | (with_reducible refine AW.skip ?_)
      | ((conv => whnf); (first
         | (with_reducible refine Br.t ?_)
         | (with_reducible refine Br.f ?_)
         | (refine Br.t ?_)
         | (refine Br.f ?_)
         | (with_reducible refine Br.mk (fun hb => ?_) (fun hb => (by exfalso; simp at hb; omega)))
         | (with_reducible refine Br.mk (fun hb => (by exfalso; simp at hb; omega)) (fun hb => ?_))
         | (with_reducible refine Or.inl ⟨_, known9_fn, ?_⟩)
         | ((with_reducible refine Or.inl ?_); (conv => whnf); (with_reducible refine ⟨_, known9_fn, ?_⟩))
         | (with_reducible refine Or.inr ⟨[], _, _, _, _, diskNew_fn, ?_⟩)
         | (with_reducible refine Or.inr (Or.inr ⟨[], _, _, _, _, diskNew_fn, ?_⟩))
         | ((with_reducible refine Or.inr ⟨[?_], _, _, _, _, diskAppend_ok ?_ ?_ ?_ ?_ ?_, ?_⟩); rotate_right; (repeat ((conv => whnf); (with_reducible refine And.intro ?_ ?_); (focus (first | with_reducible rfl | exact trivial | (exact ⟨rfl, trivial⟩) | (exact ⟨rfl, rfl, trivial⟩) | omega | (intro r hr; simp only [List.mem_singleton] at hr; subst hr; rfl)  | (simp only [in64]; omega) | assumption | (simp; done) | (simp [V.cells]; done) | (simp [in64, maxLen, limK] at *; omega) | ((show confB _ _ = true); kernel_rfl) | rfl)))); rotate_left; (simp only [List.length_replicate, List.length_append, List.length_nil, in64] at *; omega); (simp only [List.length_replicate, List.length_append, List.length_nil, in64] at *; omega))
         | ((with_reducible refine Or.inr (Or.inr ⟨[?_], _, _, _, _, diskAppend_ok ?_ ?_ ?_ ?_ ?_, ?_⟩)); rotate_right; (repeat ((conv => whnf); (with_reducible refine And.intro ?_ ?_); (focus (first | with_reducible rfl | exact trivial | (exact ⟨rfl, trivial⟩) | (exact ⟨rfl, rfl, trivial⟩) | omega | (intro r hr; simp only [List.mem_singleton] at hr; subst hr; rfl)  | (simp only [in64]; omega) | assumption | (simp; done) | (simp [V.cells]; done) | (simp [in64, maxLen, limK] at *; omega) | ((show confB _ _ = true); kernel_rfl) | rfl)))); rotate_left; (simp only [List.length_replicate, List.length_append, List.length_nil, in64] at *; omega); (simp only [List.length_replicate, List.length_append, List.length_nil, in64] at *; omega))
         | ((with_reducible refine Or.inr ⟨[?_], _, _, _, _, diskAppend_err ?_ ?_ ?_ ?_ ?_, ?_⟩); rotate_right; (repeat ((conv => whnf); (with_reducible refine And.intro ?_ ?_); (focus (first | with_reducible rfl | exact trivial | (exact ⟨rfl, trivial⟩) | (exact ⟨rfl, rfl, trivial⟩) | omega | (intro r hr; simp only [List.mem_singleton] at hr; subst hr; rfl)  | (simp only [in64]; omega) | assumption | (simp; done) | (simp [V.cells]; done) | (simp [in64, maxLen, limK] at *; omega) | ((show confB _ _ = true); kernel_rfl) | rfl)))); rotate_left; (simp only [List.length_replicate, List.length_append, List.length_nil, in64] at *; omega); (simp only [List.length_replicate, List.length_append, List.length_nil, in64] at *; omega))
         | ((with_reducible refine Or.inr (Or.inr ⟨[?_], _, _, _, _, diskAppend_err ?_ ?_ ?_ ?_ ?_, ?_⟩)); rotate_right; (repeat ((conv => whnf); (with_reducible refine And.intro ?_ ?_); (focus (first | with_reducible rfl | exact trivial | (exact ⟨rfl, trivial⟩) | (exact ⟨rfl, rfl, trivial⟩) | omega | (intro r hr; simp only [List.mem_singleton] at hr; subst hr; rfl)  | (simp only [in64]; omega) | assumption | (simp; done) | (simp [V.cells]; done) | (simp [in64, maxLen, limK] at *; omega) | ((show confB _ _ = true); kernel_rfl) | rfl)))); rotate_left; (simp only [List.length_replicate, List.length_append, List.length_nil, in64] at *; omega); (simp only [List.length_replicate, List.length_append, List.length_nil, in64] at *; omega))
         | ((with_reducible refine Or.inr ⟨[?_], _, _, _, _, diskReplace_ok ?_ ?_ ?_ ?_, ?_⟩); rotate_right; (repeat ((conv => whnf); (with_reducible refine And.intro ?_ ?_); (focus (first | with_reducible rfl | exact trivial | (exact ⟨rfl, trivial⟩) | (exact ⟨rfl, rfl, trivial⟩) | omega | (intro r hr; simp only [List.mem_singleton] at hr; subst hr; rfl)  | (simp only [in64]; omega) | assumption | (simp; done) | (simp [V.cells]; done) | (simp [in64, maxLen, limK] at *; omega) | ((show confB _ _ = true); kernel_rfl) | rfl)))); rotate_left; (simp only [List.length_replicate, List.length_append, List.length_nil, in64] at *; omega))
         | ((with_reducible refine Or.inr (Or.inr ⟨[?_], _, _, _, _, diskReplace_ok ?_ ?_ ?_ ?_, ?_⟩)); rotate_right; (repeat ((conv => whnf); (with_reducible refine And.intro ?_ ?_); (focus (first | with_reducible rfl | exact trivial | (exact ⟨rfl, trivial⟩) | (exact ⟨rfl, rfl, trivial⟩) | omega | (intro r hr; simp only [List.mem_singleton] at hr; subst hr; rfl)  | (simp only [in64]; omega) | assumption | (simp; done) | (simp [V.cells]; done) | (simp [in64, maxLen, limK] at *; omega) | ((show confB _ _ = true); kernel_rfl) | rfl)))); rotate_left; (simp only [List.length_replicate, List.length_append, List.length_nil, in64] at *; omega))
         | ((with_reducible refine Or.inr ⟨[?_], _, _, _, _, diskReplace_err ?_ ?_ ?_ ?_, ?_⟩); rotate_right; (repeat ((conv => whnf); (with_reducible refine And.intro ?_ ?_); (focus (first | with_reducible rfl | exact trivial | (exact ⟨rfl, trivial⟩) | (exact ⟨rfl, rfl, trivial⟩) | omega | (intro r hr; simp only [List.mem_singleton] at hr; subst hr; rfl)  | (simp only [in64]; omega) | assumption | (simp; done) | (simp [V.cells]; done) | (simp [in64, maxLen, limK] at *; omega) | ((show confB _ _ = true); kernel_rfl) | rfl)))); rotate_left; (simp only [List.length_replicate, List.length_append, List.length_nil, in64] at *; omega))
         | ((with_reducible refine Or.inr (Or.inr ⟨[?_], _, _, _, _, diskReplace_err ?_ ?_ ?_ ?_, ?_⟩)); rotate_right; (repeat ((conv => whnf); (with_reducible refine And.intro ?_ ?_); (focus (first | with_reducible rfl | exact trivial | (exact ⟨rfl, trivial⟩) | (exact ⟨rfl, rfl, trivial⟩) | omega | (intro r hr; simp only [List.mem_singleton] at hr; subst hr; rfl)  | (simp only [in64]; omega) | assumption | (simp; done) | (simp [V.cells]; done) | (simp [in64, maxLen, limK] at *; omega) | ((show confB _ _ = true); kernel_rfl) | rfl)))); rotate_left; (simp only [List.length_replicate, List.length_append, List.length_nil, in64] at *; omega))
         | (refine Or.inl ⟨_, code_fn [[100, 105, 115, 107]] 19, ?_⟩)
         | ((with_reducible refine Or.inl ?_); (conv => whnf); (refine ⟨_, code_fn [[100, 105, 115, 107]] 19, ?_⟩))
         | (with_reducible refine Or.inl ⟨_, code_ok, ?_⟩)
         | ((with_reducible refine Or.inl ?_); (conv => whnf); (with_reducible refine ⟨_, code_ok, ?_⟩))
         | (refine Or.inl ⟨_, fis_fn [[100, 105, 115, 107]] 19 _, ?_⟩)
         | ((with_reducible refine Or.inl ?_); (conv => whnf); (refine ⟨_, fis_fn [[100, 105, 115, 107]] 19 _, ?_⟩))
         | (with_reducible refine Or.inl ⟨_, fis_ok _, ?_⟩)
         | ((with_reducible refine Or.inl ?_); (conv => whnf); (with_reducible refine ⟨_, fis_ok _, ?_⟩))
         | (with_reducible refine Br.mk (fun hb => ?_) (fun hb => ?_) <;> (try rw [hb]) <;> (try simp only [List.length_map, decide_eq_true_eq, decide_eq_false_iff_not, Bool.not_eq_true', Bool.not_eq_false', Int.ofNat_lt, Int.ofNat_le, Int.not_lt, Int.not_le, Int.toNat_natCast] at hb))
         | (with_reducible refine ⟨_, (by first | exact ByteRows.map _ | (repeat (first | exact ByteRows.nil | exact ByteRows.map _ | refine ByteRows.cons ?_ | refine ByteRows.app ?_ ?_))), ?_⟩)
         | (refine Exists.intro _ (And.intro (ByteRows.rep _) ?_))
         | ((with_reducible refine And.intro ?_ ?_); (focus (first | with_reducible rfl | exact trivial | (exact ⟨rfl, trivial⟩) | (exact ⟨rfl, rfl, trivial⟩) | omega | (intro r hr; simp only [List.mem_singleton] at hr; subst hr; rfl)  | ((simp only [maxLen, List.length_replicate] at *; omega)) | ((simp only [in64, maxLen, List.length_replicate] at *; omega)) | ((simp [IntKind.wrap, IntKind.bits, IntKind.signed] at *; omega)) | (simp only [in64]; omega) | assumption | (simp; done) | (simp [V.cells]; done) | (simp [in64, maxLen, limK] at *; omega) | ((show confB _ _ = true); kernel_rfl) | rfl)))
         | (intro row hrow; (try simp only [Int.toNat_natCast, List.length_map, toNat_pred, toNat_succ', toNat_zero', toNat_one'] at hrow); (first | (have hsm := same_map (by assumption) hrow; subst hsm; clear hrow) | (obtain ⟨p, hp, rfl⟩ := of_map hrow; clear hrow)))
         | (with_reducible refine AW.seq ?_) | (with_reducible refine AW.region base (by kernel_rfl) ?_) | (with_reducible refine AW.cond ?_) | (with_reducible refine AW.block ?_) | (with_reducible refine AW.ret ?_) | (with_reducible refine AW.exit ?_) | (with_reducible refine AW.skip ?_))))
  all_goals (conv => whnf)
  all_goals (first | rfl | (simp only [V.bool.injEq, V.tup.injEq, V.agg.injEq, V.str.injEq, V.int.injEq, V.sl.injEq, V.ifc.injEq, List.cons.injEq, and_true, true_and, and_self]; done) | (simp only [V.bool.injEq, V.tup.injEq, V.agg.injEq, V.str.injEq, V.int.injEq, V.sl.injEq, V.ifc.injEq, List.cons.injEq, and_true, true_and, and_self]; grind) | (simp  at *; done) | (simp  at *; grind) | (exfalso; simp at *; omega) | (exfalso; omega))

theorem diskFull_fn (n c : Int) (hn : 0 ≤ n ∧ n ≤ 255) (hc : 0 ≤ c ∧ c ≤ 65535) : Fn Tryd.prog 8 [.int .u8 n, .int .u16 c] (.bool true) := by
  rcases (by omega : n % 3 = 2 ∨ n % 3 = 1 ∨ n % 3 = 0) with h | h | h
  · exact diskFull_fn0 n c hn hc h hc.1
  · exact diskFull_fn1 n c hn hc h hc.1
  · rcases (by omega : 1 ≤ c ∨ c = 0) with h' | h'
    · exact diskFull_fn2 n c hn hc h h'
    · exact diskFull_fn3 n c hn hc h h'
end Go.Proofs.YthcbffejjkmmfaaDoor
