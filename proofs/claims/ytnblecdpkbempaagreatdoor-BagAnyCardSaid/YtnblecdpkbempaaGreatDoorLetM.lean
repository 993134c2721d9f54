/-
  Walks of packages frame, letter: what is wrapped at the front of whatever bytes; the letter of bytes. No conditions.
-/
import Derived.Test.YtnblecdpkbempaaGreatDoorLetK
import Derived.Test.YtnblecdpkbempaaGreatDoorLetL
namespace Go.Proofs.YtnblecdpkbempaaGreatDoor
open Go.RowKit
set_option linter.unusedSimpArgs false
set_option linter.unusedVariables false

theorem textF_len {s x r : Bs} {m : Int} (h : textF s m = some (x, r)) : r.length ≤ s.length ∧ x.length ≤ m := by
  obtain ⟨n, r', h1, h2, h3, rfl, rfl⟩ := textF_some h
  have := (takeF_lt h1).2
  rw [List.length_drop, List.length_take]
  omega
theorem drop4' (s : Bs) : List.drop (4 : Int).toNat (List.take s.length s) = s.drop 4 := by rw [List.take_length]; rfl
theorem mid4' (s : Bs) (n : Nat) (h : n ≤ s.length) : List.drop (4 : Int).toNat (List.take ((s.length : Int) - (n : Int)).toNat s) = (s.take (s.length - n)).drop 4 := by
  rw [show ((s.length : Int) - (n : Int)).toNat = s.length - n by omega]; rfl
theorem take4' (s : Bs) : List.drop 0 (List.take (4 : Int).toNat s) = s.take 4 := rfl
theorem text_of (s u x r : Bs) (h : s = u) (hx : textF u 200000 = some (x, r)) : Fn Tryz.prog 87 [.str s, .int .i64 200000] (.tup [.str x, .str r, noErr]) := by
  subst h; exact text_some s x r 200000 hx

set_option maxRecDepth 100000 in
set_option maxHeartbeats 400000 in
theorem openG_ok (s x r : Bs) (hl : s.length ≤ 1000000) (h4 : 4 ≤ s.length) (hT : textF (s.drop 4) 200000 = some (x, r)) (hq : bytes4 (sum ((s.take (s.length - r.length)).drop 4)) = s.take 4) : Fn Tryz.prog 41 [.str s] (.tup [.str x, .str r, noErr]) := by
  refine Fn.mk' base Tryz.func41 rfl rfl rfl ?_
  obtain ⟨hr1, hx1⟩ := textF_len hT
  rw [List.length_drop] at hr1
  have hd := drop4' s
  have hm := mid4' s r.length (by omega)
  have hul : ((s.take (s.length - r.length)).drop 4).length ≤ 1000000 := by rw [List.length_drop, List.length_take]; omega
  have ht4 := take4' s
  repeat' ((conv => whnf); (first
   | (with_reducible first | refine AW.seq ?_ | refine AW.region base (by kernel_rfl) ?_ | refine AW.cond ?_ | refine AW.block ?_ | refine AW.ret ?_ | refine AW.exit ?_ | refine AW.skip ?_ | refine Br.t ?_ | refine Br.f ?_)
   | (with_reducible refine Br.mkT (fun hb => (by (first | omega | (simp at hb; done) | (simp only [decide_eq_true_eq, decide_eq_false_iff_not] at hb; omega) | (simp only [decide_eq_true_eq, decide_eq_false_iff_not, Bool.not_eq_true', Bool.not_eq_false'] at hb; exact absurd (hq.trans ht4.symm) hb) | fail))) (fun hb => ?_))
   | (with_reducible refine Br.mkF (fun hb => (by (first | omega | (simp at hb; done) | (simp only [decide_eq_true_eq, decide_eq_false_iff_not] at hb; omega) | (simp only [decide_eq_true_eq, decide_eq_false_iff_not, Bool.not_eq_true', Bool.not_eq_false'] at hb; exact absurd (hq.trans ht4.symm) hb) | fail))) (fun hb => ?_))
   | ((with_reducible refine Or.inl ?_); (conv => whnf); (with_reducible refine And.intro LitSl.mk ?_))
   | refine Br.t ?_
   | refine Br.f ?_
   | ((with_reducible refine Or.inl ?_); (conv => whnf); (first | (with_reducible first | refine ⟨_, text_of _ _ x r hd hT, ?_⟩ | refine ⟨_, sum_of _ _ hm hul, ?_⟩ | refine ⟨_, bytes_fn _, ?_⟩)))
   | (with_reducible refine Br.mk (fun hb => ?_) (fun hb => ?_) <;> (try rw [hb]) <;> (try simp only [List.length_map, decide_eq_true_eq, decide_eq_false_iff_not, Bool.not_eq_true', Bool.not_eq_false', Int.ofNat_lt, Int.ofNat_le, Int.not_lt, Int.not_le, Int.toNat_natCast] at hb))
   | ((with_reducible first | refine Or.inl (And.intro ?_ ?_) | refine And.intro ?_ ?_); (focus (first | with_reducible rfl | exact trivial | (exact ⟨rfl, trivial⟩) | (exact ⟨rfl, rfl, trivial⟩) | omega | (intro r hr; simp only [List.mem_singleton] at hr; subst hr; rfl)  | ((simp only [in64] at *; omega)) | ((rw [bytes4_len]; simp only [maxLen]; omega)) | ((simp only [maxLen] at *; omega)) | (simp only [in64]; omega) | assumption | (simp; done) | (simp [V.cells]; done) | (simp [in64, maxLen, limK] at *; omega) | ((show confB _ _ = true); kernel_rfl) | rfl)))
   | (intro row hrow; (try simp only [Int.toNat_natCast, List.length_map, toNat_pred, toNat_succ', toNat_zero', toNat_one'] at hrow); (first | (have hsm := same_map (by assumption) hrow; subst hsm; clear hrow) | (obtain ⟨p, hp, rfl⟩ := of_map hrow; clear hrow)))))
  all_goals (conv => whnf)
  all_goals (first | rfl | (simp only [V.bool.injEq, V.tup.injEq, V.agg.injEq, V.str.injEq, V.int.injEq, V.sl.injEq, V.ifc.injEq, List.cons.injEq, and_true, true_and, and_self, errV]; done) | (simp only [V.bool.injEq, V.tup.injEq, V.agg.injEq, V.str.injEq, V.int.injEq, V.sl.injEq, V.ifc.injEq, List.cons.injEq, and_true, true_and, and_self, errV]; grind) | (simp [errV] at *; done) | (simp [errV] at *; grind))

set_option maxRecDepth 100000 in
set_option maxHeartbeats 400000 in
theorem openG_bad (s x r : Bs) (hl : s.length ≤ 1000000) (h4 : 4 ≤ s.length) (hT : textF (s.drop 4) 200000 = some (x, r)) (hq : ¬ bytes4 (sum ((s.take (s.length - r.length)).drop 4)) = s.take 4) : Fn Tryz.prog 41 [.str s] (.tup [.str [], .str s, errV [] 12]) := by
  refine Fn.mk' base Tryz.func41 rfl rfl rfl ?_
  obtain ⟨hr1, hx1⟩ := textF_len hT
  rw [List.length_drop] at hr1
  have hd := drop4' s
  have hm := mid4' s r.length (by omega)
  have hul : ((s.take (s.length - r.length)).drop 4).length ≤ 1000000 := by rw [List.length_drop, List.length_take]; omega
  have ht4 := take4' s
  repeat' ((conv => whnf); (first
   | (with_reducible first | refine AW.seq ?_ | refine AW.region base (by kernel_rfl) ?_ | refine AW.cond ?_ | refine AW.block ?_ | refine AW.ret ?_ | refine AW.exit ?_ | refine AW.skip ?_ | refine Br.t ?_ | refine Br.f ?_)
   | (with_reducible refine Br.mkT (fun hb => (by (first | omega | (simp at hb; done) | (simp only [decide_eq_true_eq, decide_eq_false_iff_not] at hb; omega) | (simp only [decide_eq_true_eq, decide_eq_false_iff_not, Bool.not_eq_true', Bool.not_eq_false'] at hb; exact absurd (hb.trans ht4) hq) | fail))) (fun hb => ?_))
   | (with_reducible refine Br.mkF (fun hb => (by (first | omega | (simp at hb; done) | (simp only [decide_eq_true_eq, decide_eq_false_iff_not] at hb; omega) | (simp only [decide_eq_true_eq, decide_eq_false_iff_not, Bool.not_eq_true', Bool.not_eq_false'] at hb; exact absurd (hb.trans ht4) hq) | fail))) (fun hb => ?_))
   | ((with_reducible refine Or.inl ?_); (conv => whnf); (with_reducible refine And.intro LitSl.mk ?_))
   | refine Br.t ?_
   | refine Br.f ?_
   | ((with_reducible refine Or.inl ?_); (conv => whnf); (first | (with_reducible first | refine ⟨_, text_of _ _ x r hd hT, ?_⟩ | refine ⟨_, sum_of _ _ hm hul, ?_⟩ | refine ⟨_, bytes_fn _, ?_⟩)))
   | (with_reducible refine Br.mk (fun hb => ?_) (fun hb => ?_) <;> (try rw [hb]) <;> (try simp only [List.length_map, decide_eq_true_eq, decide_eq_false_iff_not, Bool.not_eq_true', Bool.not_eq_false', Int.ofNat_lt, Int.ofNat_le, Int.not_lt, Int.not_le, Int.toNat_natCast] at hb))
   | ((with_reducible first | refine Or.inl (And.intro ?_ ?_) | refine And.intro ?_ ?_); (focus (first | with_reducible rfl | exact trivial | (exact ⟨rfl, trivial⟩) | (exact ⟨rfl, rfl, trivial⟩) | omega | (intro r hr; simp only [List.mem_singleton] at hr; subst hr; rfl)  | ((simp only [in64] at *; omega)) | ((rw [bytes4_len]; simp only [maxLen]; omega)) | ((simp only [maxLen] at *; omega)) | (simp only [in64]; omega) | assumption | (simp; done) | (simp [V.cells]; done) | (simp [in64, maxLen, limK] at *; omega) | ((show confB _ _ = true); kernel_rfl) | rfl)))
   | (intro row hrow; (try simp only [Int.toNat_natCast, List.length_map, toNat_pred, toNat_succ', toNat_zero', toNat_one'] at hrow); (first | (have hsm := same_map (by assumption) hrow; subst hsm; clear hrow) | (obtain ⟨p, hp, rfl⟩ := of_map hrow; clear hrow)))))
  all_goals (conv => whnf)
  all_goals (first | rfl | (simp only [V.bool.injEq, V.tup.injEq, V.agg.injEq, V.str.injEq, V.int.injEq, V.sl.injEq, V.ifc.injEq, List.cons.injEq, and_true, true_and, and_self, errV]; done) | (simp only [V.bool.injEq, V.tup.injEq, V.agg.injEq, V.str.injEq, V.int.injEq, V.sl.injEq, V.ifc.injEq, List.cons.injEq, and_true, true_and, and_self, errV]; grind) | (simp [errV] at *; done) | (simp [errV] at *; grind))

theorem open_fn (s : Bs) (hl : s.length ≤ 1000000) : Fn Tryz.prog 41 [.str s] (.tup [.str (openT s).2, .str (openT s).1.s, errT (openT s).1.b (openT s).1.b2 (openT s).1.c (openT s).1.c2]) := by
  by_cases h4 : s.length < 4
  · rw [show openT s = (⟨s, false, false, 0, 11⟩, []) by unfold openT; rw [if_pos h4]]
    exact (open_short s h4).res fun w R x hx => rep_tup3 hx fun y hy => errT_bare _ _ w R rho0 y hy
  · cases hT : textF (s.drop 4) 200000 with
    | none =>
      rw [show openT s = (⟨s, false, true, textC (s.drop 4) 200000, 0⟩, []) by unfold openT; rw [if_neg h4, hT]]
      exact (open_fail s _ (by omega) (by rw [drop4' s]; exact text_none (s.drop 4) 200000 hT)).res fun w R x hx => rep_tup3 hx fun y hy => .altF (.altT hy)
    | some p =>
      obtain ⟨x, r⟩ := p
      by_cases hq : bytes4 (sum ((s.take (s.length - r.length)).drop 4)) = s.take 4
      · rw [show openT s = (⟨r, true, false, 0, 0⟩, x) by unfold openT; rw [if_neg h4, hT]; simp only; rw [if_pos hq]]
        exact (openG_ok s x r hl (by omega) hT hq).res fun w R x hx => rep_tup3 hx fun y hy => .altT hy
      · rw [show openT s = (⟨s, false, false, 0, 12⟩, []) by unfold openT; rw [if_neg h4, hT]; simp only; rw [if_neg hq]]
        exact (openG_bad s x r hl (by omega) hT hq).res fun w R x hx => rep_tup3 hx fun y hy => errT_bare _ _ w R rho0 y hy

set_option maxRecDepth 100000 in
set_option maxHeartbeats 1000000 in
theorem letRead_open (s x r : Bs) (b2 : Bool) (c c2 : Int) (hO : Fn Tryz.prog 41 [.str s] (.tup [.str x, .str r, errT false b2 c c2])) : Fn Tryz.prog 22 [.str s] (.tup [.agg (encL zeroL), errT false b2 c c2]) := by
  refine Fn.mk' base Tryz.func22 rfl rfl rfl ?_
  repeat' ((conv => whnf); (first
   | ((with_reducible show AW _ _ _ Code.ret _ _ _); (refine AW.nilC 1000 13 rfl rfl ?_); (refine AW.nilC 1000 17 rfl rfl ?_); (refine AW.nilC 1000 20 rfl rfl ?_); (refine AW.nilC 1000 21 rfl rfl ?_); (refine AW.nilC 1000 22 rfl rfl ?_); (with_reducible refine AW.ret ?_))
   | (with_reducible first | refine AW.seq ?_ | refine AW.region base (by kernel_rfl) ?_ | refine AW.cond ?_ | refine AW.block ?_ | refine AW.ret ?_ | refine AW.exit ?_ | refine AW.skip ?_ | refine Br.t ?_ | refine Br.f ?_)
   | (with_reducible refine Br.mkT (fun hb => (by (first | (simp at hb; done) | (simp only [decide_eq_true_eq, decide_eq_false_iff_not, Bool.not_eq_true', Bool.not_eq_false'] at hb; fail) | fail))) (fun hb => ?_))
   | (with_reducible refine Br.mkF (fun hb => (by (first | (simp at hb; done) | (simp only [decide_eq_true_eq, decide_eq_false_iff_not, Bool.not_eq_true', Bool.not_eq_false'] at hb; fail) | fail))) (fun hb => ?_))
   | ((with_reducible refine Or.inl ?_); (conv => whnf); (with_reducible refine And.intro LitSl.mk ?_))
   | refine Br.t ?_
   | refine Br.f ?_
   | ((with_reducible refine Or.inl ?_); (conv => whnf); (first | (with_reducible first | refine ⟨_, hO, ?_⟩)))
   | (with_reducible refine Br.mk (fun hb => ?_) (fun hb => ?_) <;> (try rw [hb]) <;> (try simp only [List.length_map, decide_eq_true_eq, decide_eq_false_iff_not, Bool.not_eq_true', Bool.not_eq_false', Int.ofNat_lt, Int.ofNat_le, Int.not_lt, Int.not_le, Int.toNat_natCast] at hb))
   | ((with_reducible first | refine Or.inl (And.intro ?_ ?_) | refine And.intro ?_ ?_); (focus (first | with_reducible rfl | exact trivial | (exact ⟨rfl, trivial⟩) | (exact ⟨rfl, rfl, trivial⟩) | omega | (intro r hr; simp only [List.mem_singleton] at hr; subst hr; rfl)  | ((simp only [in64, maxLen] at *; omega)) | (simp only [in64]; omega) | assumption | (simp; done) | (simp [V.cells]; done) | (simp [in64, maxLen, limK] at *; omega) | ((show confB _ _ = true); kernel_rfl) | rfl)))
   | (intro row hrow; (try simp only [Int.toNat_natCast, List.length_map, toNat_pred, toNat_succ', toNat_zero', toNat_one'] at hrow); (first | (have hsm := same_map (by assumption) hrow; subst hsm; clear hrow) | (obtain ⟨p, hp, rfl⟩ := of_map hrow; clear hrow)))))
  all_goals (conv => whnf)
  all_goals (first | rfl | (simp only [V.bool.injEq, V.tup.injEq, V.agg.injEq, V.str.injEq, V.int.injEq, V.sl.injEq, V.ifc.injEq, List.cons.injEq, and_true, true_and, and_self]; done) | (simp only [V.bool.injEq, V.tup.injEq, V.agg.injEq, V.str.injEq, V.int.injEq, V.sl.injEq, V.ifc.injEq, List.cons.injEq, and_true, true_and, and_self]; grind) | (simp  at *; done) | (simp  at *; grind))

set_option maxRecDepth 100000 in
set_option maxHeartbeats 1000000 in
theorem letRead_rest (s x r : Bs) (b2 : Bool) (c c2 : Int) (hO : Fn Tryz.prog 41 [.str s] (.tup [.str x, .str r, errT true b2 c c2])) (hr : ¬ r = []) : Fn Tryz.prog 22 [.str s] (.tup [.agg (encL zeroL), errT false false 0 10]) := by
  refine Fn.mk' base Tryz.func22 rfl rfl rfl ?_
  repeat' ((conv => whnf); (first
   | ((with_reducible show AW _ _ _ Code.ret _ _ _); (refine AW.nilC 1000 13 rfl rfl ?_); (refine AW.nilC 1000 17 rfl rfl ?_); (refine AW.nilC 1000 20 rfl rfl ?_); (refine AW.nilC 1000 21 rfl rfl ?_); (refine AW.nilC 1000 22 rfl rfl ?_); (refine AW.weakS 3 (v := errV [] 10) (v' := errT false false 0 10) rfl (errT_bare _ _) ?_); (with_reducible refine AW.ret ?_))
   | (with_reducible first | refine AW.seq ?_ | refine AW.region base (by kernel_rfl) ?_ | refine AW.cond ?_ | refine AW.block ?_ | refine AW.ret ?_ | refine AW.exit ?_ | refine AW.skip ?_ | refine Br.t ?_ | refine Br.f ?_)
   | (with_reducible refine Br.mkT (fun hb => (by (first | (simp at hb; done) | (simp only [decide_eq_true_eq, decide_eq_false_iff_not, Bool.not_eq_true', Bool.not_eq_false'] at hb; exact absurd hb hr) | fail))) (fun hb => ?_))
   | (with_reducible refine Br.mkF (fun hb => (by (first | (simp at hb; done) | (simp only [decide_eq_true_eq, decide_eq_false_iff_not, Bool.not_eq_true', Bool.not_eq_false'] at hb; exact absurd hb hr) | fail))) (fun hb => ?_))
   | ((with_reducible refine Or.inl ?_); (conv => whnf); (with_reducible refine And.intro LitSl.mk ?_))
   | refine Br.t ?_
   | refine Br.f ?_
   | ((with_reducible refine Or.inl ?_); (conv => whnf); (first | (with_reducible first | refine ⟨_, hO, ?_⟩)))
   | (with_reducible refine Br.mk (fun hb => ?_) (fun hb => ?_) <;> (try rw [hb]) <;> (try simp only [List.length_map, decide_eq_true_eq, decide_eq_false_iff_not, Bool.not_eq_true', Bool.not_eq_false', Int.ofNat_lt, Int.ofNat_le, Int.not_lt, Int.not_le, Int.toNat_natCast] at hb))
   | ((with_reducible first | refine Or.inl (And.intro ?_ ?_) | refine And.intro ?_ ?_); (focus (first | with_reducible rfl | exact trivial | (exact ⟨rfl, trivial⟩) | (exact ⟨rfl, rfl, trivial⟩) | omega | (intro r hr; simp only [List.mem_singleton] at hr; subst hr; rfl)  | ((simp only [in64, maxLen] at *; omega)) | (simp only [in64]; omega) | assumption | (simp; done) | (simp [V.cells]; done) | (simp [in64, maxLen, limK] at *; omega) | ((show confB _ _ = true); kernel_rfl) | rfl)))
   | (intro row hrow; (try simp only [Int.toNat_natCast, List.length_map, toNat_pred, toNat_succ', toNat_zero', toNat_one'] at hrow); (first | (have hsm := same_map (by assumption) hrow; subst hsm; clear hrow) | (obtain ⟨p, hp, rfl⟩ := of_map hrow; clear hrow)))))
  all_goals (conv => whnf)
  all_goals (first | rfl | (simp only [V.bool.injEq, V.tup.injEq, V.agg.injEq, V.str.injEq, V.int.injEq, V.sl.injEq, V.ifc.injEq, List.cons.injEq, and_true, true_and, and_self]; done) | (simp only [V.bool.injEq, V.tup.injEq, V.agg.injEq, V.str.injEq, V.int.injEq, V.sl.injEq, V.ifc.injEq, List.cons.injEq, and_true, true_and, and_self]; grind) | (simp  at *; done) | (simp  at *; grind))

set_option maxRecDepth 100000 in
set_option maxHeartbeats 1000000 in
theorem letRead_bad1 (s x r : Bs) (b2 : Bool) (c c2 : Int) (s2 : Bs) (d2 : Bool) (e e2 : Int) (l : LetV) (hO : Fn Tryz.prog 41 [.str s] (.tup [.str x, .str r, errT true b2 c c2])) (hr : r = []) (hR : FnM Tryz.prog 64 [.ptr 0 0] [.cells [.str x, errT true true 0 0]] (.agg (encL l)) [.cells [.str s2, errT false d2 e e2]]) : Fn Tryz.prog 22 [.str s] (.tup [.agg (encL zeroL), errT false false 0 10]) := by
  refine Fn.mk' base Tryz.func22 rfl rfl rfl ?_
  repeat' ((conv => whnf); (first
   | ((with_reducible show AW _ _ _ (Code.seq (Code.region 7 _ _) _) _ _ _); (refine AW.weakC 7002 1 (v := noErr) (v' := errT true true 0 0) rfl rfl (errT_nil _ _ _) ?_))
   | ((with_reducible show AW _ _ _ Code.ret _ _ _); (refine AW.nilC 1000 13 rfl rfl ?_); (refine AW.nilC 1000 17 rfl rfl ?_); (refine AW.nilC 1000 20 rfl rfl ?_); (refine AW.nilC 1000 21 rfl rfl ?_); (refine AW.nilC 1000 22 rfl rfl ?_); (refine AW.weakS 3 (v := errV [] 10) (v' := errT false false 0 10) rfl (errT_bare _ _) ?_); (with_reducible refine AW.ret ?_))
   | (with_reducible first | refine AW.seq ?_ | refine AW.region base (by kernel_rfl) ?_ | refine AW.cond ?_ | refine AW.block ?_ | refine AW.ret ?_ | refine AW.exit ?_ | refine AW.skip ?_ | refine Br.t ?_ | refine Br.f ?_)
   | (with_reducible refine Br.mkT (fun hb => (by (first | (simp at hb; done) | (simp only [decide_eq_true_eq, decide_eq_false_iff_not, Bool.not_eq_true', Bool.not_eq_false'] at hb; exact absurd hr hb) | fail))) (fun hb => ?_))
   | (with_reducible refine Br.mkF (fun hb => (by (first | (simp at hb; done) | (simp only [decide_eq_true_eq, decide_eq_false_iff_not, Bool.not_eq_true', Bool.not_eq_false'] at hb; exact absurd hr hb) | fail))) (fun hb => ?_))
   | ((with_reducible refine Or.inl ?_); (conv => whnf); (with_reducible refine And.intro LitSl.mk ?_))
   | refine Br.t ?_
   | refine Br.f ?_
   | ((with_reducible refine Or.inl ?_); (conv => whnf); (first | (with_reducible first | refine ⟨_, hO, ?_⟩ | refine ⟨_, isE_nil _, ?_⟩)))
   | (with_reducible refine Or.inr ⟨[?_], _, _, _, _, hR, ?_⟩)
   | (with_reducible refine Or.inr (Or.inr ⟨[?_], _, _, _, _, hR, ?_⟩))
   | (with_reducible refine Br.mk (fun hb => ?_) (fun hb => ?_) <;> (try rw [hb]) <;> (try simp only [List.length_map, decide_eq_true_eq, decide_eq_false_iff_not, Bool.not_eq_true', Bool.not_eq_false', Int.ofNat_lt, Int.ofNat_le, Int.not_lt, Int.not_le, Int.toNat_natCast] at hb))
   | ((with_reducible first | refine Or.inl (And.intro ?_ ?_) | refine And.intro ?_ ?_); (focus (first | with_reducible rfl | exact trivial | (exact ⟨rfl, trivial⟩) | (exact ⟨rfl, rfl, trivial⟩) | omega | (intro r hr; simp only [List.mem_singleton] at hr; subst hr; rfl)  | ((simp only [in64, maxLen] at *; omega)) | (simp only [in64]; omega) | assumption | (simp; done) | (simp [V.cells]; done) | (simp [in64, maxLen, limK] at *; omega) | ((show confB _ _ = true); kernel_rfl) | rfl)))
   | (intro row hrow; (try simp only [Int.toNat_natCast, List.length_map, toNat_pred, toNat_succ', toNat_zero', toNat_one'] at hrow); (first | (have hsm := same_map (by assumption) hrow; subst hsm; clear hrow) | (obtain ⟨p, hp, rfl⟩ := of_map hrow; clear hrow)))))
  all_goals (conv => whnf)
  all_goals (first | rfl | (simp only [V.bool.injEq, V.tup.injEq, V.agg.injEq, V.str.injEq, V.int.injEq, V.sl.injEq, V.ifc.injEq, List.cons.injEq, and_true, true_and, and_self]; done) | (simp only [V.bool.injEq, V.tup.injEq, V.agg.injEq, V.str.injEq, V.int.injEq, V.sl.injEq, V.ifc.injEq, List.cons.injEq, and_true, true_and, and_self]; grind) | (simp  at *; done) | (simp  at *; grind))

set_option maxRecDepth 100000 in
set_option maxHeartbeats 1000000 in
theorem letRead_bad2 (s x r : Bs) (b2 : Bool) (c c2 : Int) (s2 : Bs) (d2 : Bool) (e e2 : Int) (l : LetV) (hO : Fn Tryz.prog 41 [.str s] (.tup [.str x, .str r, errT true b2 c c2])) (hr : r = []) (hR : FnM Tryz.prog 64 [.ptr 0 0] [.cells [.str x, errT true true 0 0]] (.agg (encL l)) [.cells [.str s2, errT true d2 e e2]]) (hs : ¬ s2 = []) : Fn Tryz.prog 22 [.str s] (.tup [.agg (encL zeroL), errT false false 0 10]) := by
  refine Fn.mk' base Tryz.func22 rfl rfl rfl ?_
  repeat' ((conv => whnf); (first
   | ((with_reducible show AW _ _ _ (Code.seq (Code.seq (Code.region 8 _ _) _) _) _ _ _); (refine AW.weakC 7002 1 (v' := noErr) rfl rfl (fun w R ρ x hx => rep_altT hx) ?_))
   | ((with_reducible show AW _ _ _ (Code.seq (Code.region 7 _ _) _) _ _ _); (refine AW.weakC 7002 1 (v := noErr) (v' := errT true true 0 0) rfl rfl (errT_nil _ _ _) ?_))
   | ((with_reducible show AW _ _ _ Code.ret _ _ _); (refine AW.nilC 1000 13 rfl rfl ?_); (refine AW.nilC 1000 17 rfl rfl ?_); (refine AW.nilC 1000 20 rfl rfl ?_); (refine AW.nilC 1000 21 rfl rfl ?_); (refine AW.nilC 1000 22 rfl rfl ?_); (refine AW.weakS 3 (v := errV [] 10) (v' := errT false false 0 10) rfl (errT_bare _ _) ?_); (with_reducible refine AW.ret ?_))
   | (with_reducible first | refine AW.seq ?_ | refine AW.region base (by kernel_rfl) ?_ | refine AW.cond ?_ | refine AW.block ?_ | refine AW.ret ?_ | refine AW.exit ?_ | refine AW.skip ?_ | refine Br.t ?_ | refine Br.f ?_)
   | (with_reducible refine Br.mkT (fun hb => (by (first | (simp at hb; done) | (simp only [decide_eq_true_eq, decide_eq_false_iff_not, Bool.not_eq_true', Bool.not_eq_false'] at hb; first | exact absurd hr hb | exact absurd hb hs) | fail))) (fun hb => ?_))
   | (with_reducible refine Br.mkF (fun hb => (by (first | (simp at hb; done) | (simp only [decide_eq_true_eq, decide_eq_false_iff_not, Bool.not_eq_true', Bool.not_eq_false'] at hb; first | exact absurd hr hb | exact absurd hb hs) | fail))) (fun hb => ?_))
   | ((with_reducible refine Or.inl ?_); (conv => whnf); (with_reducible refine And.intro LitSl.mk ?_))
   | refine Br.t ?_
   | refine Br.f ?_
   | ((with_reducible refine Or.inl ?_); (conv => whnf); (first | (with_reducible first | refine ⟨_, hO, ?_⟩ | refine ⟨_, isE_nil _, ?_⟩)))
   | (with_reducible refine Or.inr ⟨[?_], _, _, _, _, hR, ?_⟩)
   | (with_reducible refine Or.inr (Or.inr ⟨[?_], _, _, _, _, hR, ?_⟩))
   | (with_reducible refine Br.mk (fun hb => ?_) (fun hb => ?_) <;> (try rw [hb]) <;> (try simp only [List.length_map, decide_eq_true_eq, decide_eq_false_iff_not, Bool.not_eq_true', Bool.not_eq_false', Int.ofNat_lt, Int.ofNat_le, Int.not_lt, Int.not_le, Int.toNat_natCast] at hb))
   | ((with_reducible first | refine Or.inl (And.intro ?_ ?_) | refine And.intro ?_ ?_); (focus (first | with_reducible rfl | exact trivial | (exact ⟨rfl, trivial⟩) | (exact ⟨rfl, rfl, trivial⟩) | omega | (intro r hr; simp only [List.mem_singleton] at hr; subst hr; rfl)  | ((simp only [in64, maxLen] at *; omega)) | (simp only [in64]; omega) | assumption | (simp; done) | (simp [V.cells]; done) | (simp [in64, maxLen, limK] at *; omega) | ((show confB _ _ = true); kernel_rfl) | rfl)))
   | (intro row hrow; (try simp only [Int.toNat_natCast, List.length_map, toNat_pred, toNat_succ', toNat_zero', toNat_one'] at hrow); (first | (have hsm := same_map (by assumption) hrow; subst hsm; clear hrow) | (obtain ⟨p, hp, rfl⟩ := of_map hrow; clear hrow)))))
  all_goals (conv => whnf)
  all_goals (first | rfl | (simp only [V.bool.injEq, V.tup.injEq, V.agg.injEq, V.str.injEq, V.int.injEq, V.sl.injEq, V.ifc.injEq, List.cons.injEq, and_true, true_and, and_self]; done) | (simp only [V.bool.injEq, V.tup.injEq, V.agg.injEq, V.str.injEq, V.int.injEq, V.sl.injEq, V.ifc.injEq, List.cons.injEq, and_true, true_and, and_self]; grind) | (simp  at *; done) | (simp  at *; grind))

set_option maxRecDepth 100000 in
set_option maxHeartbeats 1000000 in
theorem letRead_bad3 (s x r : Bs) (b2 : Bool) (c c2 : Int) (s2 : Bs) (d2 : Bool) (e e2 : Int) (l : LetV) (bs : Bs) (hO : Fn Tryz.prog 41 [.str s] (.tup [.str x, .str r, errT true b2 c c2])) (hr : r = []) (hR : FnM Tryz.prog 64 [.ptr 0 0] [.cells [.str x, errT true true 0 0]] (.agg (encL l)) [.cells [.str s2, errT true d2 e e2]]) (hs : s2 = []) (hB : Fn Tryz.prog 21 [.agg (encL l)] (.str bs)) (hn : ¬ bs = s) : Fn Tryz.prog 22 [.str s] (.tup [.agg (encL zeroL), errT false false 0 10]) := by
  refine Fn.mk' base Tryz.func22 rfl rfl rfl ?_
  repeat' ((conv => whnf); (first
   | ((with_reducible show AW _ _ _ (Code.seq (Code.seq (Code.region 8 _ _) _) _) _ _ _); (refine AW.weakC 7002 1 (v' := noErr) rfl rfl (fun w R ρ x hx => rep_altT hx) ?_))
   | ((with_reducible show AW _ _ _ (Code.seq (Code.region 7 _ _) _) _ _ _); (refine AW.weakC 7002 1 (v := noErr) (v' := errT true true 0 0) rfl rfl (errT_nil _ _ _) ?_))
   | ((with_reducible show AW _ _ _ Code.ret _ _ _); (refine AW.nilC 1000 13 rfl rfl ?_); (refine AW.nilC 1000 17 rfl rfl ?_); (refine AW.nilC 1000 20 rfl rfl ?_); (refine AW.nilC 1000 21 rfl rfl ?_); (refine AW.nilC 1000 22 rfl rfl ?_); (refine AW.weakS 3 (v := errV [] 10) (v' := errT false false 0 10) rfl (errT_bare _ _) ?_); (with_reducible refine AW.ret ?_))
   | (with_reducible first | refine AW.seq ?_ | refine AW.region base (by kernel_rfl) ?_ | refine AW.cond ?_ | refine AW.block ?_ | refine AW.ret ?_ | refine AW.exit ?_ | refine AW.skip ?_ | refine Br.t ?_ | refine Br.f ?_)
   | (with_reducible refine Br.mkT (fun hb => (by (first | (simp at hb; done) | (simp only [decide_eq_true_eq, decide_eq_false_iff_not, Bool.not_eq_true', Bool.not_eq_false'] at hb; first | exact absurd hr hb | exact absurd hs hb | exact absurd hb hn) | fail))) (fun hb => ?_))
   | (with_reducible refine Br.mkF (fun hb => (by (first | (simp at hb; done) | (simp only [decide_eq_true_eq, decide_eq_false_iff_not, Bool.not_eq_true', Bool.not_eq_false'] at hb; first | exact absurd hr hb | exact absurd hs hb | exact absurd hb hn) | fail))) (fun hb => ?_))
   | ((with_reducible refine Or.inl ?_); (conv => whnf); (with_reducible refine And.intro LitSl.mk ?_))
   | refine Br.t ?_
   | refine Br.f ?_
   | ((with_reducible refine Or.inl ?_); (conv => whnf); (first | (with_reducible first | refine ⟨_, hO, ?_⟩ | refine ⟨_, isE_nil _, ?_⟩ | refine ⟨_, hB, ?_⟩)))
   | (with_reducible refine Or.inr ⟨[?_], _, _, _, _, hR, ?_⟩)
   | (with_reducible refine Or.inr (Or.inr ⟨[?_], _, _, _, _, hR, ?_⟩))
   | (with_reducible refine Br.mk (fun hb => ?_) (fun hb => ?_) <;> (try rw [hb]) <;> (try simp only [List.length_map, decide_eq_true_eq, decide_eq_false_iff_not, Bool.not_eq_true', Bool.not_eq_false', Int.ofNat_lt, Int.ofNat_le, Int.not_lt, Int.not_le, Int.toNat_natCast] at hb))
   | ((with_reducible first | refine Or.inl (And.intro ?_ ?_) | refine And.intro ?_ ?_); (focus (first | with_reducible rfl | exact trivial | (exact ⟨rfl, trivial⟩) | (exact ⟨rfl, rfl, trivial⟩) | omega | (intro r hr; simp only [List.mem_singleton] at hr; subst hr; rfl)  | ((simp only [in64, maxLen] at *; omega)) | (simp only [in64]; omega) | assumption | (simp; done) | (simp [V.cells]; done) | (simp [in64, maxLen, limK] at *; omega) | ((show confB _ _ = true); kernel_rfl) | rfl)))
   | (intro row hrow; (try simp only [Int.toNat_natCast, List.length_map, toNat_pred, toNat_succ', toNat_zero', toNat_one'] at hrow); (first | (have hsm := same_map (by assumption) hrow; subst hsm; clear hrow) | (obtain ⟨p, hp, rfl⟩ := of_map hrow; clear hrow)))))
  all_goals (conv => whnf)
  all_goals (first | rfl | (simp only [V.bool.injEq, V.tup.injEq, V.agg.injEq, V.str.injEq, V.int.injEq, V.sl.injEq, V.ifc.injEq, List.cons.injEq, and_true, true_and, and_self]; done) | (simp only [V.bool.injEq, V.tup.injEq, V.agg.injEq, V.str.injEq, V.int.injEq, V.sl.injEq, V.ifc.injEq, List.cons.injEq, and_true, true_and, and_self]; grind) | (simp  at *; done) | (simp  at *; grind))

set_option maxRecDepth 100000 in
set_option maxHeartbeats 1000000 in
theorem letRead_good (s x r : Bs) (b2 : Bool) (c c2 : Int) (s2 : Bs) (d2 : Bool) (e e2 : Int) (l : LetV) (bs : Bs) (hO : Fn Tryz.prog 41 [.str s] (.tup [.str x, .str r, errT true b2 c c2])) (hr : r = []) (hR : FnM Tryz.prog 64 [.ptr 0 0] [.cells [.str x, errT true true 0 0]] (.agg (encL l)) [.cells [.str s2, errT true d2 e e2]]) (hs : s2 = []) (hB : Fn Tryz.prog 21 [.agg (encL l)] (.str bs)) (hn : bs = s) : Fn Tryz.prog 22 [.str s] (.tup [.agg (encL l), errT true false 0 10]) := by
  refine Fn.mk' base Tryz.func22 rfl rfl rfl ?_
  repeat' ((conv => whnf); (first
   | ((with_reducible show AW _ _ _ (Code.seq (Code.seq (Code.region 8 _ _) _) _) _ _ _); (refine AW.weakC 7002 1 (v' := noErr) rfl rfl (fun w R ρ x hx => rep_altT hx) ?_))
   | ((with_reducible show AW _ _ _ (Code.seq (Code.region 7 _ _) _) _ _ _); (refine AW.weakC 7002 1 (v := noErr) (v' := errT true true 0 0) rfl rfl (errT_nil _ _ _) ?_))
   | ((with_reducible show AW _ _ _ Code.ret _ _ _); (refine AW.weakS 3 (v := noErr) (v' := errT true false 0 10) rfl (errT_nil _ _ _) ?_); (with_reducible refine AW.ret ?_))
   | (with_reducible first | refine AW.seq ?_ | refine AW.region base (by kernel_rfl) ?_ | refine AW.cond ?_ | refine AW.block ?_ | refine AW.ret ?_ | refine AW.exit ?_ | refine AW.skip ?_ | refine Br.t ?_ | refine Br.f ?_)
   | (with_reducible refine Br.mkT (fun hb => (by (first | (simp at hb; done) | (simp only [decide_eq_true_eq, decide_eq_false_iff_not, Bool.not_eq_true', Bool.not_eq_false'] at hb; first | exact absurd hr hb | exact absurd hs hb | exact absurd hn hb) | fail))) (fun hb => ?_))
   | (with_reducible refine Br.mkF (fun hb => (by (first | (simp at hb; done) | (simp only [decide_eq_true_eq, decide_eq_false_iff_not, Bool.not_eq_true', Bool.not_eq_false'] at hb; first | exact absurd hr hb | exact absurd hs hb | exact absurd hn hb) | fail))) (fun hb => ?_))
   | ((with_reducible refine Or.inl ?_); (conv => whnf); (with_reducible refine And.intro LitSl.mk ?_))
   | refine Br.t ?_
   | refine Br.f ?_
   | ((with_reducible refine Or.inl ?_); (conv => whnf); (first | (with_reducible first | refine ⟨_, hO, ?_⟩ | refine ⟨_, isE_nil _, ?_⟩ | refine ⟨_, hB, ?_⟩)))
   | (with_reducible refine Or.inr ⟨[?_], _, _, _, _, hR, ?_⟩)
   | (with_reducible refine Or.inr (Or.inr ⟨[?_], _, _, _, _, hR, ?_⟩))
   | (with_reducible refine Br.mk (fun hb => ?_) (fun hb => ?_) <;> (try rw [hb]) <;> (try simp only [List.length_map, decide_eq_true_eq, decide_eq_false_iff_not, Bool.not_eq_true', Bool.not_eq_false', Int.ofNat_lt, Int.ofNat_le, Int.not_lt, Int.not_le, Int.toNat_natCast] at hb))
   | ((with_reducible first | refine Or.inl (And.intro ?_ ?_) | refine And.intro ?_ ?_); (focus (first | with_reducible rfl | exact trivial | (exact ⟨rfl, trivial⟩) | (exact ⟨rfl, rfl, trivial⟩) | omega | (intro r hr; simp only [List.mem_singleton] at hr; subst hr; rfl)  | ((simp only [in64, maxLen] at *; omega)) | (simp only [in64]; omega) | assumption | (simp; done) | (simp [V.cells]; done) | (simp [in64, maxLen, limK] at *; omega) | ((show confB _ _ = true); kernel_rfl) | rfl)))
   | (intro row hrow; (try simp only [Int.toNat_natCast, List.length_map, toNat_pred, toNat_succ', toNat_zero', toNat_one'] at hrow); (first | (have hsm := same_map (by assumption) hrow; subst hsm; clear hrow) | (obtain ⟨p, hp, rfl⟩ := of_map hrow; clear hrow)))))
  all_goals (conv => whnf)
  all_goals (first | rfl | (simp only [V.bool.injEq, V.tup.injEq, V.agg.injEq, V.str.injEq, V.int.injEq, V.sl.injEq, V.ifc.injEq, List.cons.injEq, and_true, true_and, and_self]; done) | (simp only [V.bool.injEq, V.tup.injEq, V.agg.injEq, V.str.injEq, V.int.injEq, V.sl.injEq, V.ifc.injEq, List.cons.injEq, and_true, true_and, and_self]; grind) | (simp  at *; done) | (simp  at *; grind))

theorem openT_ne {s : Bs} (h : (openT s).1.b = true) : ¬ s = [] := by
  intro e; subst e; cases h
theorem letRead_fn (s : Bs) (hl : s.length ≤ 1000000) : Fn Tryz.prog 22 [.str s] (.tup [.agg (encL (readL s).2), errT (readL s).1.b (readL s).1.b2 (readL s).1.c (readL s).1.c2]) := by
  have hO := open_fn s hl
  have hne := @openT_ne s
  unfold readL
  generalize openT s = q at hO hne ⊢
  obtain ⟨⟨r, b, b2, c, c2⟩, x⟩ := q
  cases b
  · exact letRead_open s x r b2 c c2 hO
  · have hne := hne rfl
    simp only [if_true]
    by_cases hr : r = []
    · rw [if_pos hr]
      have hR := tlread_fn x
      skip
      generalize rawL x = q at hR ⊢
      obtain ⟨⟨s2, d, d2, e, e2⟩, l⟩ := q
      cases d
      · rw [if_neg (by simp)]
        exact letRead_bad1 s x r b2 c c2 s2 d2 e e2 l hO hr hR
      · by_cases hs : s2 = []
        · have hB := letBytes_fn l
          cases hlB : letB l
          · rw [hlB] at hB
            rw [if_neg (by simp [hlB])]
            exact letRead_bad3 s x r b2 c c2 s2 d2 e e2 l _ hO hr hR hs hB (fun e => hne e.symm)
          · rw [hlB] at hB
            by_cases hn : bytesL l = s
            · rw [if_pos (by rw [decide_eq_true hs, decide_eq_true hn]; rfl)]
              exact letRead_good s x r b2 c c2 s2 d2 e e2 l _ hO hr hR hs hB hn
            · rw [if_neg (by rw [decide_eq_false hn]; simp)]
              exact letRead_bad3 s x r b2 c c2 s2 d2 e e2 l _ hO hr hR hs hB hn
        · rw [if_neg (by rw [decide_eq_false hs]; simp)]
          exact letRead_bad2 s x r b2 c c2 s2 d2 e e2 l hO hr hR hs
    · rw [if_neg hr]
      exact letRead_rest s x r b2 c c2 hO hr
end Go.Proofs.YtnblecdpkbempaaGreatDoor
