/-
  A law of errors: wrapped once more: its walk. No conditions.
-/
import Derived.Test.YthchmjdgepbjpaaDoorErrW
import Derived.Test.YthchmjdgepbjpaaDoorErrO
namespace Go.Proofs.YthchmjdgepbjpaaDoor
open Go.RowKit
set_option linter.unusedSimpArgs false
set_option linter.unusedVariables false

theorem Br.of_t {b : Bool} {p q : Prop} (hb : b = true) (h : p) : Br b p q := hb ▸ .t h

set_option maxRecDepth 100000 in
set_option maxHeartbeats 400000 in
theorem same_selfW [Inhabited TabT] (a : List Bs) : Fn Tryd.prog 13 [.sl (a.map encW), .sl (a.map encW)] (.bool true) := by
  refine Fn.mk' base Tryd.func13 rfl rfl rfl ?_
  refine AW.len 0 rfl (fun hlen => ?_)
  simp only [List.length_map, maxLen] at hlen
  repeat' ((conv => whnf); (first
   | (with_reducible first | refine AW.seq ?_ | refine AW.region base (by kernel_rfl) ?_ | refine AW.cond ?_ | refine AW.block ?_ | refine AW.ret ?_ | refine AW.exit ?_ | refine AW.skip ?_ | refine Br.t ?_ | refine Br.f ?_)
   | ((with_reducible refine Or.inl ?_); (conv => whnf); (with_reducible refine And.intro LitSl.mk ?_))
   | refine Br.t ?_
   | refine Br.f ?_
   | (with_reducible refine Br.mk (fun hb => ?_) (fun hb => (by exfalso; (first | (simp at hb; done) | omega | (simp only [decide_eq_false_iff_not, decide_eq_true_eq, List.length_map] at hb; omega) | (simp only [List.length_map] at hb; simp at hb; omega) | fail))))
   | (with_reducible refine Br.mk (fun hb => (by exfalso; (first | (simp at hb; done) | omega | (simp only [decide_eq_false_iff_not, decide_eq_true_eq, List.length_map] at hb; omega) | (simp only [List.length_map] at hb; simp at hb; omega) | fail))) (fun hb => ?_))
   | (with_reducible refine Br.mk (fun hb => ?_) (fun hb => ?_) <;> (try rw [hb]) <;> (try simp only [List.length_map, decide_eq_true_eq, decide_eq_false_iff_not, Bool.not_eq_true', Bool.not_eq_false', Int.ofNat_lt, Int.ofNat_le, Int.not_lt, Int.not_le, Int.toNat_natCast] at hb))
   | ((with_reducible first | refine Or.inl (And.intro ?_ ?_) | refine And.intro ?_ ?_); (focus (first | with_reducible rfl | exact trivial | (exact ⟨rfl, trivial⟩) | (exact ⟨rfl, rfl, trivial⟩) | omega | (intro r hr; simp only [List.mem_singleton] at hr; subst hr; rfl)  | ((simp only [List.length_map] at *; omega)) | ((simp only [in64, maxLen] at *; omega)) | (simp only [in64]; omega) | assumption | (simp; done) | (simp [V.cells]; done) | (simp [in64, maxLen, limK] at *; omega) | ((show confB _ _ = true); kernel_rfl) | rfl)))
   | (intro row hrow; (try simp only [Int.toNat_natCast, List.length_map, toNat_pred, toNat_succ', toNat_zero', toNat_one'] at hrow); (first | (have hsm := same_map (by assumption) hrow; subst hsm; clear hrow) | (obtain ⟨p, hp, rfl⟩ := of_map hrow; clear hrow)))))
  refine AW.loop (fun (i : Nat) => i ≤ a.length) (fun (i : Nat) => ⟨[(0, .sl (a.map encW)), (1, .sl (a.map encW)), (5, .int .i64 (i : Int))], []⟩) (fun (i : Nat) => a.length - i) 0 ?_ ?_ ?_
  · omega
  · (refine ⟨⟨[], ?_⟩⟩; repeat' (first | (with_reducible rfl) | exact trivial | ((conv => whnf); (first | (with_reducible refine And.intro ?_ ?_) | (first | with_reducible rfl | ((first | refine congrArg V.str ?_ | refine congrArg (V.int _) ?_ | refine congrArg V.bool ?_ | refine congrArg V.sl ?_); (first | with_reducible rfl | omega | rfl | (simp; done))) | (first | with_reducible rfl | omega | rfl | (simp; done)) | rfl)))))
  · rintro i hk
    repeat' ((conv => whnf); (first
     | (with_reducible first | refine AW.seq ?_ | refine AW.region base (by kernel_rfl) ?_ | refine AW.cond ?_ | refine AW.block ?_ | refine AW.ret ?_ | refine AW.exit ?_ | refine AW.skip ?_ | refine Br.t ?_ | refine Br.f ?_)
     | ((with_reducible refine Or.inl ?_); (conv => whnf); (with_reducible refine And.intro LitSl.mk ?_))
     | refine Br.t ?_
     | refine Br.f ?_
     | (with_reducible refine Br.mk (fun hb => ?_) (fun hb => (by exfalso; (first | (simp at hb; done) | omega | (simp only [decide_eq_false_iff_not, decide_eq_true_eq, List.length_map] at hb; omega) | (simp only [List.length_map] at hb; simp at hb; omega) | fail))))
     | (with_reducible refine Br.mk (fun hb => (by exfalso; (first | (simp at hb; done) | omega | (simp only [decide_eq_false_iff_not, decide_eq_true_eq, List.length_map] at hb; omega) | (simp only [List.length_map] at hb; simp at hb; omega) | fail))) (fun hb => ?_))
     | (with_reducible refine Br.mk (fun hb => ?_) (fun hb => ?_) <;> (try rw [hb]) <;> (try simp only [List.length_map, decide_eq_true_eq, decide_eq_false_iff_not, Bool.not_eq_true', Bool.not_eq_false', Int.ofNat_lt, Int.ofNat_le, Int.not_lt, Int.not_le, Int.toNat_natCast] at hb))
     | ((with_reducible first | refine Or.inl (And.intro ?_ ?_) | refine And.intro ?_ ?_); (focus (first | with_reducible rfl | exact trivial | (exact ⟨rfl, trivial⟩) | (exact ⟨rfl, rfl, trivial⟩) | omega | (intro r hr; simp only [List.mem_singleton] at hr; subst hr; rfl)  | ((simp only [List.length_map] at *; omega)) | ((simp only [in64, maxLen] at *; omega)) | (simp only [in64]; omega) | assumption | (simp; done) | (simp [V.cells]; done) | (simp [in64, maxLen, limK] at *; omega) | ((show confB _ _ = true); kernel_rfl) | rfl)))
     | (intro row hrow; (try simp only [Int.toNat_natCast, List.length_map, toNat_pred, toNat_succ', toNat_zero', toNat_one'] at hrow); (first | (have hsm := same_map (by assumption) hrow; subst hsm; clear hrow) | (obtain ⟨p, hp, rfl⟩ := of_map hrow; clear hrow)))))
    all_goals (try first | with_reducible assumption | ((first | show (_ : Int) ≤ _ | show (_ : Nat) ≤ _ | show (_ : Int) < _ | show ¬ (_ : Int) = _); (first | omega | (simp at *; omega))) | ((show in64 _); (simp only [in64] at *; (first | omega | (simp at *; omega)))) | ((with_reducible refine And.intro ?_ ?_) <;> (first | omega | (simp at *; omega))))
    all_goals (first
      | (with_reducible exact absurd rfl (by assumption))
      | ((conv => whnf); (refine ⟨(i + 1), ?_⟩); (refine And.intro ?_ (And.intro ?_ ?_)); (focus (refine ⟨⟨[], ?_⟩⟩; repeat' (first | (with_reducible rfl) | exact trivial | ((conv => whnf); (first | (with_reducible refine And.intro ?_ ?_) | (first | with_reducible rfl | ((first | refine congrArg V.str ?_ | refine congrArg (V.int _) ?_ | refine congrArg V.bool ?_ | refine congrArg V.sl ?_); (first | with_reducible rfl | omega | rfl | (simp; done))) | (first | with_reducible rfl | omega | rfl | (simp; done)) | rfl)))))); (focus omega); (focus (first | omega | (dsimp only; omega) | (simp; done) | (simp; omega) | (simp at *; omega))))
      | ((conv => whnf); (try (first | rfl | (exfalso; simp_all; done) | (exfalso; simp at *; omega))); done))


theorem same_ofW [Inhabited TabT] (x y : List (List V)) (a : List Bs) (hx : x = a.map encW) (hy : y = a.map encW) : Fn Tryd.prog 13 [.sl x, .sl y] (.bool true) := by
  subst hx; subst hy; exact same_selfW a
theorem itoa14 [Inhabited TabT] : itoaT 14 = [49, 52] := by
  rw [itoaT, if_pos (by omega), Lib.itoa, if_neg (by omega), show (14 : Int).toNat = 14 from rfl, Lib.decDigits, dif_neg (by omega), Lib.decDigits, dif_pos (by omega)]; rfl
theorem says14 [Inhabited TabT] : says [[97], [98]] 14 = [97, 58, 32, 98, 58, 32, 101, 114, 114, 111, 114, 32, 49, 52] := by
  simp only [says, itoa14, errPre]; rfl
theorem says_short [Inhabited TabT] (ws : List Bs) (c : Int) (hc : 0 ≤ c ∧ c < 256) (h : ws.length ≤ 2) (hw : ∀ w ∈ ws, w.length ≤ 30) : (says ws c).length ≤ 100 := by
  have h9 := itoaT_len c hc.1 hc.2
  rcases ws with _ | ⟨w1, _ | ⟨w2, _ | ⟨w3, ws⟩⟩⟩
  · simp only [says, errPre, List.length_append, List.length_cons, List.length_nil]; omega
  · have := hw w1 (by simp)
    simp only [says, errPre, List.length_append, List.length_cons, List.length_nil]; omega
  · have := hw w1 (by simp)
    have := hw w2 (by simp)
    simp only [says, errPre, List.length_append, List.length_cons, List.length_nil]; omega
  · simp only [List.length_cons] at h; omega

set_option maxRecDepth 100000 in
set_option maxHeartbeats 1000000 in
theorem known3_fn [Inhabited TabT]  : Fn Tryd.prog 5 [] (.bool true) := by
  refine Fn.mk' base Tryd.func5 rfl rfl rfl ?_
  repeat' ((conv => whnf); (first
   | (with_reducible first | refine AW.seq ?_ | refine AW.region base (by kernel_rfl) ?_ | refine AW.cond ?_ | refine AW.block ?_ | refine AW.ret ?_ | refine AW.exit ?_ | refine AW.skip ?_ | refine Br.t ?_ | refine Br.f ?_)
   | (with_reducible refine Br.of_t (by first | exact decide_eq_true says14 | fail) ?_)
   | ((with_reducible refine Or.inl ?_); (conv => whnf); (with_reducible refine And.intro LitSl.mk ?_))
   | refine Br.t ?_
   | refine Br.f ?_
   | (with_reducible refine Br.mk (fun hb => ?_) (fun hb => (by exfalso; (first | (simp at hb; done) | (exact hb says14) | omega | fail))))
   | ((with_reducible refine Or.inl ?_); (conv => whnf); (first | (with_reducible first | refine ⟨_, new_fn _ _ (by decide), ?_⟩ | refine ⟨_, new_ok _, ?_⟩ | refine ⟨_, wrap_ok _, ?_⟩ | refine ⟨_, code_ok, ?_⟩ | refine ⟨_, where_nil, ?_⟩ | refine ⟨_, same_ofW _ _ [[97], [98]] rfl rfl, ?_⟩ | refine ⟨_, fis_ok _, ?_⟩) | refine ⟨_, wrap_fn [[98]] 14 _, ?_⟩ | refine ⟨_, code_fn [[97], [98]] 14, ?_⟩ | refine ⟨_, isE_fn [[97], [98]] 14 _, ?_⟩ | refine ⟨_, where_fn [[97], [98]] 14 (by decide), ?_⟩ | refine ⟨_, fis_fn [[97], [98]] 14 _, ?_⟩ | refine ⟨_, faultError_fn [[98]] [97] 14 ⟨by omega, by omega⟩ (by rw [says14]; simp [maxLen]), ?_⟩))
   | (with_reducible refine Br.mk (fun hb => ?_) (fun hb => ?_) <;> (try rw [hb]) <;> (try simp only [List.length_map, decide_eq_true_eq, decide_eq_false_iff_not, Bool.not_eq_true', Bool.not_eq_false', Int.ofNat_lt, Int.ofNat_le, Int.not_lt, Int.not_le, Int.toNat_natCast] at hb))
   | ((with_reducible first | refine Or.inl (And.intro ?_ ?_) | refine And.intro ?_ ?_); (focus (first | with_reducible rfl | exact trivial | (exact ⟨rfl, trivial⟩) | (exact ⟨rfl, rfl, trivial⟩) | omega | (intro r hr; simp only [List.mem_singleton] at hr; subst hr; rfl)  | (simp only [in64]; omega) | assumption | (simp; done) | (simp [V.cells]; done) | (simp [in64, maxLen, limK] at *; omega) | ((show confB _ _ = true); kernel_rfl) | rfl)))
   | (intro row hrow; (try simp only [Int.toNat_natCast, List.length_map, toNat_pred, toNat_succ', toNat_zero', toNat_one'] at hrow); (first | (have hsm := same_map (by assumption) hrow; subst hsm; clear hrow) | (obtain ⟨p, hp, rfl⟩ := of_map hrow; clear hrow)))))
  all_goals (conv => whnf)
  all_goals (first | rfl | (simp only [V.bool.injEq, V.tup.injEq, V.agg.injEq, V.str.injEq, V.int.injEq, V.sl.injEq, V.ifc.injEq, List.cons.injEq, and_true, true_and, and_self]; done) | (simp only [V.bool.injEq, V.tup.injEq, V.agg.injEq, V.str.injEq, V.int.injEq, V.sl.injEq, V.ifc.injEq, List.cons.injEq, and_true, true_and, and_self]; grind) | (simp  at *; done) | (simp  at *; grind) | (exact congrArg V.bool (decide_eq_true says14)))

set_option maxRecDepth 100000 in
set_option maxHeartbeats 400000 in
theorem faultOnce_skip [Inhabited TabT] (c : Int) (hc : 0 ≤ c ∧ c < 256) (a b : Bs) (h0 : c = 0 ∨ ¬ a.length ≤ 30 ∨ ¬ b.length ≤ 30) : Fn Tryd.prog 4 [.int .u8 c, .str a, .str b] (.bool true) := by
  refine Fn.mk' base Tryd.func4 rfl rfl rfl ?_
  repeat' ((conv => whnf); (first
   | (with_reducible first | refine AW.seq ?_ | refine AW.region base (by kernel_rfl) ?_ | refine AW.cond ?_ | refine AW.block ?_ | refine AW.ret ?_ | refine AW.exit ?_ | refine AW.skip ?_ | refine Br.t ?_ | refine Br.f ?_)
   | (with_reducible refine Br.of_t (by first | exact decide_eq_true rfl | fail) ?_)
   | ((with_reducible refine Or.inl ?_); (conv => whnf); (with_reducible refine And.intro LitSl.mk ?_))
   | refine Br.t ?_
   | refine Br.f ?_
   | (with_reducible refine Br.mk (fun hb => ?_) (fun hb => (by exfalso; (first | (simp at hb; done) | omega | (exact hb rfl) | (simp at hb; omega) | fail))))
   | (with_reducible refine Br.mk (fun hb => (by exfalso; (first | (simp at hb; done) | omega | (exact hb rfl) | (simp at hb; omega) | fail))) (fun hb => ?_))
   | ((with_reducible refine Or.inl ?_); (conv => whnf); (first | (with_reducible first | refine ⟨_, known3_fn, ?_⟩)))
   | (with_reducible refine Br.mk (fun hb => ?_) (fun hb => ?_) <;> (try rw [hb]) <;> (try simp only [List.length_map, decide_eq_true_eq, decide_eq_false_iff_not, Bool.not_eq_true', Bool.not_eq_false', Int.ofNat_lt, Int.ofNat_le, Int.not_lt, Int.not_le, Int.toNat_natCast] at hb))
   | ((with_reducible first | refine Or.inl (And.intro ?_ ?_) | refine And.intro ?_ ?_); (focus (first | with_reducible rfl | exact trivial | (exact ⟨rfl, trivial⟩) | (exact ⟨rfl, rfl, trivial⟩) | omega | (intro r hr; simp only [List.mem_singleton] at hr; subst hr; rfl)  | ((simp only [in64, maxLen] at *; omega)) | ((simp only [maxLen, List.length_append, List.length_cons, List.length_nil] at *; omega)) | (simp only [in64]; omega) | assumption | (simp; done) | (simp [V.cells]; done) | (simp [in64, maxLen, limK] at *; omega) | ((show confB _ _ = true); kernel_rfl) | rfl)))
   | (intro row hrow; (try simp only [Int.toNat_natCast, List.length_map, toNat_pred, toNat_succ', toNat_zero', toNat_one'] at hrow); (first | (have hsm := same_map (by assumption) hrow; subst hsm; clear hrow) | (obtain ⟨p, hp, rfl⟩ := of_map hrow; clear hrow)))))
  all_goals (conv => whnf)
  all_goals (first | rfl | (simp only [V.bool.injEq, V.tup.injEq, V.agg.injEq, V.str.injEq, V.int.injEq, V.sl.injEq, V.ifc.injEq, List.cons.injEq, and_true, true_and, and_self]; done) | (simp only [V.bool.injEq, V.tup.injEq, V.agg.injEq, V.str.injEq, V.int.injEq, V.sl.injEq, V.ifc.injEq, List.cons.injEq, and_true, true_and, and_self]; grind) | (simp  at *; done) | (simp  at *; grind))

set_option maxRecDepth 100000 in
set_option maxHeartbeats 1000000 in
theorem faultOnce_go [Inhabited TabT] (c : Int) (hc : 0 ≤ c ∧ c < 256) (a b : Bs) (h0 : c ≠ 0) (ha : a.length ≤ 30) (hb0 : b.length ≤ 30) : Fn Tryd.prog 4 [.int .u8 c, .str a, .str b] (.bool true) := by
  refine Fn.mk' base Tryd.func4 rfl rfl rfl ?_
  have hw2 := where_fn [b, a] c (by simp)
  have hw1 := where_fn [a] c (by simp)
  have hl2 : (says [b, a] c).length ≤ maxLen := Nat.le_trans (says_short [b, a] c hc (by simp) (by simp; omega)) (by simp [maxLen])
  have hl1 : (says [a] c).length ≤ maxLen := Nat.le_trans (says_short [a] c hc (by simp) (by simp; omega)) (by simp [maxLen])
  have hf2 := faultError_fn [a] b c hc hl2
  have hf1 := faultError_fn [] a c hc hl1
  have hs1 := says_short [a] c hc (by simp) (by simp; omega)
  repeat' ((conv => whnf); (first
   | (with_reducible first | refine AW.seq ?_ | refine AW.region base (by kernel_rfl) ?_ | refine AW.cond ?_ | refine AW.block ?_ | refine AW.ret ?_ | refine AW.exit ?_ | refine AW.skip ?_ | refine Br.t ?_ | refine Br.f ?_)
   | (with_reducible refine Br.of_t (by first | exact decide_eq_true rfl | fail) ?_)
   | ((with_reducible refine Or.inl ?_); (conv => whnf); (with_reducible refine And.intro LitSl.mk ?_))
   | refine Br.t ?_
   | refine Br.f ?_
   | (with_reducible refine Br.mk (fun hb => ?_) (fun hb => (by exfalso; (first | (simp at hb; done) | omega | (exact hb rfl) | (simp at hb; omega) | fail))))
   | (with_reducible refine Br.mk (fun hb => (by exfalso; (first | (simp at hb; done) | omega | (exact hb rfl) | (simp at hb; omega) | fail))) (fun hb => ?_))
   | ((with_reducible refine Or.inl ?_); (conv => whnf); (first | (with_reducible first | refine ⟨_, known3_fn, ?_⟩) | refine ⟨_, code_fn [b, a] c, ?_⟩ | refine ⟨_, code_fn [a] c, ?_⟩ | refine ⟨_, hw2, ?_⟩ | refine ⟨_, hw1, ?_⟩ | refine ⟨_, hf2, ?_⟩ | refine ⟨_, hf1, ?_⟩))
   | (with_reducible refine Or.inr ⟨[], _, _, _, _, newO c a h0, ?_⟩)
   | (with_reducible refine Or.inr (Or.inr ⟨[], _, _, _, _, newO c a h0, ?_⟩))
   | (with_reducible refine Or.inr ⟨[?_], _, _, _, _, wrapO c a b, ?_⟩)
   | (with_reducible refine Or.inr (Or.inr ⟨[?_], _, _, _, _, wrapO c a b, ?_⟩))
   | (with_reducible refine Or.inr ⟨[?_, ?_], _, _, _, _, isO c a b, ?_⟩)
   | (with_reducible refine Or.inr (Or.inr ⟨[?_, ?_], _, _, _, _, isO c a b, ?_⟩))
   | (with_reducible refine Br.mk (fun hb => ?_) (fun hb => ?_) <;> (try rw [hb]) <;> (try simp only [List.length_map, decide_eq_true_eq, decide_eq_false_iff_not, Bool.not_eq_true', Bool.not_eq_false', Int.ofNat_lt, Int.ofNat_le, Int.not_lt, Int.not_le, Int.toNat_natCast] at hb))
   | ((with_reducible first | refine Or.inl (And.intro ?_ ?_) | refine And.intro ?_ ?_); (focus (first | with_reducible rfl | exact trivial | (exact ⟨rfl, trivial⟩) | (exact ⟨rfl, rfl, trivial⟩) | omega | (intro r hr; simp only [List.mem_singleton] at hr; subst hr; rfl)  | ((simp only [in64, maxLen] at *; omega)) | ((simp only [maxLen, List.length_append, List.length_cons, List.length_nil] at *; omega)) | (simp only [in64]; omega) | assumption | (simp; done) | (simp [V.cells]; done) | (simp [in64, maxLen, limK] at *; omega) | ((show confB _ _ = true); kernel_rfl) | rfl)))
   | (intro row hrow; (try simp only [Int.toNat_natCast, List.length_map, toNat_pred, toNat_succ', toNat_zero', toNat_one'] at hrow); (first | (have hsm := same_map (by assumption) hrow; subst hsm; clear hrow) | (obtain ⟨p, hp, rfl⟩ := of_map hrow; clear hrow)))))
  all_goals (conv => whnf)
  all_goals (first | rfl | (simp only [V.bool.injEq, V.tup.injEq, V.agg.injEq, V.str.injEq, V.int.injEq, V.sl.injEq, V.ifc.injEq, List.cons.injEq, and_true, true_and, and_self]; done) | (simp only [V.bool.injEq, V.tup.injEq, V.agg.injEq, V.str.injEq, V.int.injEq, V.sl.injEq, V.ifc.injEq, List.cons.injEq, and_true, true_and, and_self]; grind) | (simp  at *; done) | (simp  at *; grind) | exact congrArg V.bool (decide_eq_true (show says [b, a] c = b ++ [58, 32] ++ says [a] c from rfl)) | (trace_state; fail))

theorem faultOnce_fn [Inhabited TabT] (c : Int) (hc : 0 ≤ c ∧ c < 256) (a b : Bs) : Fn Tryd.prog 4 [.int .u8 c, .str a, .str b] (.bool true) := by
  by_cases h0 : c = 0 ∨ ¬ a.length ≤ 30 ∨ ¬ b.length ≤ 30
  · exact faultOnce_skip c hc a b h0
  · exact faultOnce_go c hc a b (by omega) (by omega) (by omega)
end Go.Proofs.YthchmjdgepbjpaaDoor

-- tabvar