/-
  A law of letters under way: where as many are as may be: its walk. No conditions.
-/
import Derived.Test.YtnblecdpkbempaaGreatDoorLaw8k
namespace Go.Proofs.YtnblecdpkbempaaGreatDoor
open Go.RowKit
set_option linter.unusedSimpArgs false
set_option linter.unusedVariables false

/-- letters by their first number -/
def lm (i : Int) : LetV := ⟨5, 200, 100, i, 0, 0, 0, 0, zeroO, zeroA, [], [], [], [], [], []⟩
theorem lm_ok {i : Int} (h : 0 ≤ i) (h2 : i ≤ 1000000000000) : letB (lm i) = true := by
  have e : badI i = false := by simp [badI]; omega
  have e2 : (numsL (lm i)).any badI = false := by
    show (badI i || (badI 0 || (badI 0 || (badI 0 || (badI 0 || false))))) = false
    rw [e]; rfl
  unfold letB
  rw [e2]
  rfl
def bagL (a n : Nat) : List Bs := (List.range' a n).map fun (j : Nat) => bytesL (lm (j : Int))
theorem bagL_len (a n : Nat) : (bagL a n).length = n := by simp [bagL]
theorem bagL_snoc (a n : Nat) : bagL a n ++ [bytesL (lm ((a + n : Nat) : Int))] = bagL a (n + 1) := by
  unfold bagL; rw [List.range'_concat, List.map_append]; simp
theorem bagL_step (a n : Nat) : (bagL a (n + 1)).drop 1 ++ [bytesL (lm ((a + (n + 1) : Nat) : Int))] = bagL (a + 1) (n + 1) := by
  have e : (bagL a (n + 1)).drop 1 = bagL (a + 1) n := by unfold bagL; rw [List.range'_succ]; rfl
  rw [e, ← bagL_snoc (a + 1) n, show a + (n + 1) = a + 1 + n by omega]
theorem bagL_first (a n : Nat) (h : 0 < n) : (bagL a n)[(0 : Int).toNat]? = some (bytesL (lm (a : Int))) := by
  obtain ⟨m, rfl⟩ : ∃ m, n = m + 1 := ⟨n - 1, by omega⟩
  unfold bagL; rw [List.range'_succ]; rfl
def bagAt (i : Nat) : List Bs := bagL (i - 300) (min i 300)
theorem bagAt_low {i : Nat} (h : i < 300) : (bagAt i).length < 300 ∧ bagAt i ++ [bytesL (lm (i : Int))] = bagAt (i + 1) := by
  unfold bagAt
  rw [show i - 300 = 0 by omega, show i + 1 - 300 = 0 by omega, Nat.min_eq_left (by omega), Nat.min_eq_left (by omega)]
  refine ⟨by rw [bagL_len]; omega, ?_⟩
  have := bagL_snoc 0 i
  rw [Nat.zero_add] at this; exact this
theorem bagAt_high {i : Nat} (h : 300 ≤ i) : (bagAt i).length = 300 ∧ (bagAt i).drop 1 ++ [bytesL (lm (i : Int))] = bagAt (i + 1) := by
  unfold bagAt
  rw [Nat.min_eq_right (by omega), Nat.min_eq_right (by omega)]
  refine ⟨bagL_len _ _, ?_⟩
  have := bagL_step (i - 300) 299
  rw [show i - 300 + (299 + 1) = i by omega, show i - 300 + 1 = i + 1 - 300 by omega] at this
  exact this

theorem take_zero (bs : List Bs) (h : 0 < bs.length) (hbl : bs.length ≤ 1000) (l : LetV) (hl : letB l = true) (hp : bs[(0 : Int).toNat]? = some (bytesL l)) : FnM Tryz.prog 28 [.ptr 0 0, .int .i64 0] [.cells [.own 1], .rows 9 (bs.map encT)] (.tup [.agg (encL l), noErr]) [.cells [.own 2], .dead, .rows 9 ((bs.drop 1).map encT)] := bagTake_ok 0 bs (by omega) (by omega) hbl l hl hp

theorem putn_ok (i : Nat) (h : letB (lm (i : Int)) = true) (bs : List Bs) (hb : bs.length < 300) : FnM Tryz.prog 26 [.ptr 0 0, .agg [.int .i64 5, .int .i64 200, .int .i64 100, .int .i64 (i : Int), .int .i64 0, .int .i64 0, .int .i64 0, .int .i64 0, .int .i64 0, .str [], .str [], .str [], .int .i64 0, .nils, .int .i64 0, .str [], .int .i64 0, .nils, .str [], .str [], .nils, .nils, .nils, .str []]] [.cells [.own 1], .rows 9 (bs.map encT)] (noErr) [.cells [.own 2], .dead, .rows 9 ((bs ++ [bytesL (lm (i : Int))]).map encT)] := FnM.unnil (put_ok (lm (i : Int)) h bs hb)
theorem putn_full (i : Nat) (h : letB (lm (i : Int)) = true) (bs : List Bs) (hb : bs.length = 300) : FnM Tryz.prog 26 [.ptr 0 0, .agg [.int .i64 5, .int .i64 200, .int .i64 100, .int .i64 (i : Int), .int .i64 0, .int .i64 0, .int .i64 0, .int .i64 0, .int .i64 0, .str [], .str [], .str [], .int .i64 0, .nils, .int .i64 0, .str [], .int .i64 0, .nils, .str [], .str [], .nils, .nils, .nils, .str []]] [.cells [.own 1], .rows 9 (bs.map encT)] (noErr) [.cells [.own 2], .dead, .rows 9 ((bs.drop 1 ++ [bytesL (lm (i : Int))]).map encT)] := FnM.unnil (put_full (lm (i : Int)) h bs hb)

set_option maxRecDepth 100000 in
set_option maxHeartbeats 2000000 in
theorem bagFull_fn (n0 : Int) (g0 : 0 ≤ n0 ∧ n0 ≤ 255) : Fn Tryz.prog 8 [.int .u8 n0] (.bool true) := by
  refine Fn.mk' base Tryz.func8 rfl rfl rfl ?_
  repeat' ((conv => whnf); (first
   | ((with_reducible show AW _ _ _ (Code.seq (Code.region 4 _ _) _) _ _ _); (refine AW.adoptC 1004000 0 999999999 (el := 9) rfl rfl rfl (rows_of 37 rfl) ?_))
   | (with_reducible first | refine AW.seq ?_ | refine AW.region base (by kernel_rfl) ?_ | refine AW.cond ?_ | refine AW.block ?_ | refine AW.ret ?_ | refine AW.exit ?_ | refine AW.skip ?_ | refine Br.t ?_ | refine Br.f ?_)
   | (with_reducible refine Br.mkT (fun hb => (by (first | (simp at hb; done) | omega | (simp only [List.length_map, decide_eq_true_eq, decide_eq_false_iff_not] at hb; omega) | fail))) (fun hb => ?_))
   | (with_reducible refine Br.mkF (fun hb => (by (first | (simp at hb; done) | omega | (simp only [List.length_map, decide_eq_true_eq, decide_eq_false_iff_not] at hb; omega) | fail))) (fun hb => ?_))
   | ((with_reducible refine Or.inl ?_); (conv => whnf); (with_reducible refine And.intro LitSl.mk ?_))
   | refine Br.t ?_
   | refine Br.f ?_
   | ((with_reducible refine Or.inl ?_); (conv => whnf); (first | (with_reducible first | refine ⟨_, known8_fn, ?_⟩)))
   | (with_reducible refine Or.inr ⟨[], _, _, _, _, bagNew_fn, ?_⟩)
   | (with_reducible refine Or.inr (Or.inr ⟨[], _, _, _, _, bagNew_fn, ?_⟩))
   | (with_reducible refine Br.mk (fun hb => ?_) (fun hb => ?_) <;> (try rw [hb]) <;> (try simp only [List.length_map, decide_eq_true_eq, decide_eq_false_iff_not, Bool.not_eq_true', Bool.not_eq_false', Int.ofNat_lt, Int.ofNat_le, Int.not_lt, Int.not_le, Int.toNat_natCast] at hb))
   | ((with_reducible first | refine Or.inl (And.intro ?_ ?_) | refine And.intro ?_ ?_); (focus (first | with_reducible rfl | exact trivial | (exact ⟨rfl, trivial⟩) | (exact ⟨rfl, rfl, trivial⟩) | omega | (intro r hr; simp only [List.mem_singleton] at hr; subst hr; rfl)  | ((simp only [in64, maxLen] at *; omega)) | ((exact ⟨by omega, by omega, by decide⟩)) | ((exact ⟨by omega, by decide⟩)) | (simp only [in64]; omega) | assumption | (simp; done) | (simp [V.cells]; done) | (simp [in64, maxLen, limK] at *; omega) | ((show confB _ _ = true); kernel_rfl) | rfl)))
   | (intro row hrow; (try simp only [Int.toNat_natCast, List.length_map, toNat_pred, toNat_succ', toNat_zero', toNat_one'] at hrow); (first | (have hsm := same_map (by assumption) hrow; subst hsm; clear hrow) | (obtain ⟨p, hp, rfl⟩ := of_map hrow; clear hrow)))))
  refine AW.loop (fun (i : Nat) => i ≤ 305 ∧ (i : Int) ≤ 300 + n0 % 5) (fun (i : Nat) => ⟨[(0, .int .u8 n0), (3, .ptr 0 0), (4, .int .i64 (300 + n0 % 5)), (5, .int .i64 (i : Int))], [.cells [.own 1], .rows 9 ((bagAt i).map encT)]⟩) (fun i => 305 - i) 0 ?_ ?_ ?_
  · omega
  · (refine ⟨⟨[1004000, 999999999], ?_⟩⟩; repeat' (first | (with_reducible rfl) | exact trivial | ((conv => whnf); (first | (with_reducible refine And.intro ?_ ?_) | (first | with_reducible rfl | ((first | refine congrArg V.str ?_ | refine congrArg (V.int _) ?_ | refine congrArg V.bool ?_ | refine congrArg V.sl ?_); (first | with_reducible rfl | omega | (simp [bagAt, bagL]; done) | rfl | (simp; done))) | (first | with_reducible rfl | omega | (simp [bagAt, bagL]; done) | rfl | (simp; done)) | rfl)))))
  · rintro i hk
    obtain ⟨hk1, hk2⟩ := hk
    rcases (by omega : (i : Int) = 300 + n0 % 5 ∨ (i : Int) < 300 + n0 % 5) with hi | hi
    · obtain ⟨q, hq⟩ : ∃ q : Nat, (q : Int) = n0 % 5 := ⟨(n0 % 5).toNat, by omega⟩
      obtain ⟨hl1, hl2⟩ := bagAt_high (show 300 ≤ i by omega)
      have hb1 : bagAt i = bagL q 300 := by unfold bagAt; rw [show i - 300 = q by omega, Nat.min_eq_right (by omega)]
      have hp1 : (bagAt i)[(0 : Int).toNat]? = some (bytesL (lm (q : Int))) := by rw [hb1]; exact bagL_first _ _ (by omega)
      have hlm := lm_ok (i := (q : Int)) (by omega) (by omega)
      have hdl : ((bagAt i).drop 1).length = 299 := by rw [List.length_drop]; omega
      obtain ⟨p2, hp2⟩ : ∃ p, ((bagAt i).drop 1)[(0 : Int).toNat]? = some p := ⟨_, List.getElem?_eq_getElem (by show 0 < _; omega)⟩
      have hfl : ((bagAt i).drop 1 ++ [p2]).length = 300 := by rw [List.length_append, hdl]; rfl
      have hn0 : (lm (q : Int)).n0 = n0 % 5 := hq
      repeat' ((conv => whnf); (first
       | (with_reducible first | refine AW.seq ?_ | refine AW.region base (by kernel_rfl) ?_ | refine AW.cond ?_ | refine AW.block ?_ | refine AW.ret ?_ | refine AW.exit ?_ | refine AW.skip ?_ | refine Br.t ?_ | refine Br.f ?_)
       | (with_reducible refine Br.mkT (fun hb => (by (first | (simp at hb; done) | omega | (simp only [List.length_map, decide_eq_true_eq, decide_eq_false_iff_not] at hb; omega) | (simp only [decide_eq_true_eq, decide_eq_false_iff_not, hn0] at hb; omega) | fail))) (fun hb => ?_))
       | (with_reducible refine Br.mkF (fun hb => (by (first | (simp at hb; done) | omega | (simp only [List.length_map, decide_eq_true_eq, decide_eq_false_iff_not] at hb; omega) | (simp only [decide_eq_true_eq, decide_eq_false_iff_not, hn0] at hb; omega) | fail))) (fun hb => ?_))
       | ((with_reducible refine Or.inl ?_); (conv => whnf); (with_reducible refine And.intro LitSl.mk ?_))
       | refine Br.t ?_
       | refine Br.f ?_
       | ((refine Or.inr (Or.inr ⟨[?_, ?_], _, _, _, _, twice_full 0 (bagAt i) (by omega) (by omega) (by omega), ?_⟩)); rotate_right; (repeat ((conv => whnf); (with_reducible refine And.intro ?_ ?_); (focus (first | with_reducible rfl | exact trivial | (exact ⟨rfl, trivial⟩) | (exact ⟨rfl, rfl, trivial⟩) | omega | (intro r hr; simp only [List.mem_singleton] at hr; subst hr; rfl)  | ((simp only [in64, maxLen] at *; omega)) | ((exact ⟨by omega, by omega, by decide⟩)) | ((exact ⟨by omega, by decide⟩)) | (simp only [in64]; omega) | assumption | (simp; done) | (simp [V.cells]; done) | (simp [in64, maxLen, limK] at *; omega) | ((show confB _ _ = true); kernel_rfl) | rfl)))); (conv => whnf); (fail_if_success (with_reducible refine And.intro ?_ ?_)))
       | ((refine Or.inr ⟨[?_, ?_], _, _, _, _, twice_full 0 (bagAt i) (by omega) (by omega) (by omega), ?_⟩); rotate_right; (repeat ((conv => whnf); (with_reducible refine And.intro ?_ ?_); (focus (first | with_reducible rfl | exact trivial | (exact ⟨rfl, trivial⟩) | (exact ⟨rfl, rfl, trivial⟩) | omega | (intro r hr; simp only [List.mem_singleton] at hr; subst hr; rfl)  | ((simp only [in64, maxLen] at *; omega)) | ((exact ⟨by omega, by omega, by decide⟩)) | ((exact ⟨by omega, by decide⟩)) | (simp only [in64]; omega) | assumption | (simp; done) | (simp [V.cells]; done) | (simp [in64, maxLen, limK] at *; omega) | ((show confB _ _ = true); kernel_rfl) | rfl)))); (conv => whnf); (fail_if_success (with_reducible refine And.intro ?_ ?_)))
       | ((refine Or.inr (Or.inr ⟨[?_, ?_], _, _, _, _, twice_ok 0 ((bagAt i).drop 1) (by omega) (by omega) p2 hp2 (by omega), ?_⟩)); rotate_right; (repeat ((conv => whnf); (with_reducible refine And.intro ?_ ?_); (focus (first | with_reducible rfl | exact trivial | (exact ⟨rfl, trivial⟩) | (exact ⟨rfl, rfl, trivial⟩) | omega | (intro r hr; simp only [List.mem_singleton] at hr; subst hr; rfl)  | ((simp only [in64, maxLen] at *; omega)) | ((exact ⟨by omega, by omega, by decide⟩)) | ((exact ⟨by omega, by decide⟩)) | (simp only [in64]; omega) | assumption | (simp; done) | (simp [V.cells]; done) | (simp [in64, maxLen, limK] at *; omega) | ((show confB _ _ = true); kernel_rfl) | rfl)))); (conv => whnf); (fail_if_success (with_reducible refine And.intro ?_ ?_)))
       | ((refine Or.inr ⟨[?_, ?_], _, _, _, _, twice_ok 0 ((bagAt i).drop 1) (by omega) (by omega) p2 hp2 (by omega), ?_⟩); rotate_right; (repeat ((conv => whnf); (with_reducible refine And.intro ?_ ?_); (focus (first | with_reducible rfl | exact trivial | (exact ⟨rfl, trivial⟩) | (exact ⟨rfl, rfl, trivial⟩) | omega | (intro r hr; simp only [List.mem_singleton] at hr; subst hr; rfl)  | ((simp only [in64, maxLen] at *; omega)) | ((exact ⟨by omega, by omega, by decide⟩)) | ((exact ⟨by omega, by decide⟩)) | (simp only [in64]; omega) | assumption | (simp; done) | (simp [V.cells]; done) | (simp [in64, maxLen, limK] at *; omega) | ((show confB _ _ = true); kernel_rfl) | rfl)))); (conv => whnf); (fail_if_success (with_reducible refine And.intro ?_ ?_)))
       | ((with_reducible refine Or.inl ?_); (conv => whnf); (first | refine ⟨_, fis_fn [] 19 _, ?_⟩))
       | (with_reducible refine Or.inr ⟨[?_, ?_], _, _, _, _, take_zero (bagAt i) (by omega) (by omega) (lm (q : Int)) hlm hp1, ?_⟩)
       | (with_reducible refine Or.inr (Or.inr ⟨[?_, ?_], _, _, _, _, take_zero (bagAt i) (by omega) (by omega) (lm (q : Int)) hlm hp1, ?_⟩))
       | (with_reducible refine Or.inr ⟨[?_, ?_], _, _, _, _, bagLen_fn ?_, ?_⟩)
       | (with_reducible refine Or.inr (Or.inr ⟨[?_, ?_], _, _, _, _, bagLen_fn ?_, ?_⟩))
       | (with_reducible refine Br.mk (fun hb => ?_) (fun hb => ?_) <;> (try rw [hb]) <;> (try simp only [List.length_map, decide_eq_true_eq, decide_eq_false_iff_not, Bool.not_eq_true', Bool.not_eq_false', Int.ofNat_lt, Int.ofNat_le, Int.not_lt, Int.not_le, Int.toNat_natCast] at hb))
       | ((with_reducible first | refine Or.inl (And.intro ?_ ?_) | refine And.intro ?_ ?_); (focus (first | with_reducible rfl | exact trivial | (exact ⟨rfl, trivial⟩) | (exact ⟨rfl, rfl, trivial⟩) | omega | (intro r hr; simp only [List.mem_singleton] at hr; subst hr; rfl)  | ((simp only [in64, maxLen] at *; omega)) | ((exact ⟨by omega, by omega, by decide⟩)) | ((exact ⟨by omega, by decide⟩)) | (simp only [in64]; omega) | assumption | (simp; done) | (simp [V.cells]; done) | (simp [in64, maxLen, limK] at *; omega) | ((show confB _ _ = true); kernel_rfl) | rfl)))
       | (intro row hrow; (try simp only [Int.toNat_natCast, List.length_map, toNat_pred, toNat_succ', toNat_zero', toNat_one'] at hrow); (first | (have hsm := same_map (by assumption) hrow; subst hsm; clear hrow) | (obtain ⟨p, hp, rfl⟩ := of_map hrow; clear hrow)))))
      all_goals ((conv => whnf); first | done | rfl | (refine congrArg V.bool ?_; refine decide_eq_true ?_; rw [List.length_map]; omega))
    have hlm := lm_ok (i := (i : Int)) (by omega) (by omega)
    rcases Nat.lt_or_ge i 300 with h3 | h3
    · obtain ⟨hl1, hl2⟩ := bagAt_low h3
      repeat' ((conv => whnf); (first
       | (with_reducible first | refine AW.seq ?_ | refine AW.region base (by kernel_rfl) ?_ | refine AW.cond ?_ | refine AW.block ?_ | refine AW.ret ?_ | refine AW.exit ?_ | refine AW.skip ?_ | refine Br.t ?_ | refine Br.f ?_)
       | (with_reducible refine Br.mkT (fun hb => (by (first | (simp at hb; done) | omega | (simp only [List.length_map, decide_eq_true_eq, decide_eq_false_iff_not] at hb; omega) | fail))) (fun hb => ?_))
       | (with_reducible refine Br.mkF (fun hb => (by (first | (simp at hb; done) | omega | (simp only [List.length_map, decide_eq_true_eq, decide_eq_false_iff_not] at hb; omega) | fail))) (fun hb => ?_))
       | ((with_reducible refine Or.inl ?_); (conv => whnf); (with_reducible refine And.intro LitSl.mk ?_))
       | refine Br.t ?_
       | refine Br.f ?_
       | (with_reducible refine Or.inr ⟨[?_, ?_], _, _, _, _, putn_ok i hlm (bagAt i) hl1, ?_⟩)
       | (with_reducible refine Or.inr (Or.inr ⟨[?_, ?_], _, _, _, _, putn_ok i hlm (bagAt i) hl1, ?_⟩))
       | (with_reducible refine Br.mk (fun hb => ?_) (fun hb => ?_) <;> (try rw [hb]) <;> (try simp only [List.length_map, decide_eq_true_eq, decide_eq_false_iff_not, Bool.not_eq_true', Bool.not_eq_false', Int.ofNat_lt, Int.ofNat_le, Int.not_lt, Int.not_le, Int.toNat_natCast] at hb))
       | ((with_reducible first | refine Or.inl (And.intro ?_ ?_) | refine And.intro ?_ ?_); (focus (first | with_reducible rfl | exact trivial | (exact ⟨rfl, trivial⟩) | (exact ⟨rfl, rfl, trivial⟩) | omega | (intro r hr; simp only [List.mem_singleton] at hr; subst hr; rfl)  | ((simp only [in64, maxLen] at *; omega)) | ((exact ⟨by omega, by omega, by decide⟩)) | ((exact ⟨by omega, by decide⟩)) | (simp only [in64]; omega) | assumption | (simp; done) | (simp [V.cells]; done) | (simp [in64, maxLen, limK] at *; omega) | ((show confB _ _ = true); kernel_rfl) | rfl)))
       | (intro row hrow; (try simp only [Int.toNat_natCast, List.length_map, toNat_pred, toNat_succ', toNat_zero', toNat_one'] at hrow); (first | (have hsm := same_map (by assumption) hrow; subst hsm; clear hrow) | (obtain ⟨p, hp, rfl⟩ := of_map hrow; clear hrow)))))
      all_goals (try first | with_reducible assumption | ((first | show (_ : Int) ≤ _ | show (_ : Nat) ≤ _ | show (_ : Int) < _ | show ¬ (_ : Int) = _); (first | omega | (simp at *; omega) | (simp; done) | (simp [maxLen]; done))) | ((show in64 _); (simp only [in64] at *; (first | omega | (simp at *; omega) | (simp; done) | (simp [maxLen]; done)))) | ((with_reducible refine And.intro ?_ ?_) <;> (first | omega | (simp at *; omega) | (simp; done) | (simp [maxLen]; done))))
      all_goals (first
        | (with_reducible exact absurd rfl (by assumption))
        | ((conv => whnf); (refine ⟨(i + 1), ?_⟩); (refine And.intro ?_ (And.intro ?_ ?_)); (focus (refine ⟨⟨[0, ?_], ?_⟩⟩; rotate_left 1; repeat' (first | (with_reducible rfl) | exact trivial | ((conv => whnf); (first | (with_reducible refine And.intro ?_ ?_) | (first | with_reducible rfl | ((first | refine congrArg V.str ?_ | refine congrArg (V.int _) ?_ | refine congrArg V.bool ?_ | refine congrArg V.sl ?_); (first | with_reducible rfl | omega | (rw [← hl2]; done) | (exact congrArg (List.map encT) hl2) | rfl | (simp; done))) | (first | with_reducible rfl | omega | (rw [← hl2]; done) | (exact congrArg (List.map encT) hl2) | rfl | (simp; done)) | rfl)))))); (focus (show i + 1 ≤ 305 ∧ ((i + 1 : Nat) : Int) ≤ 300 + n0 % 5; omega)); (focus (first | omega | (dsimp only; omega) | (simp; done) | (simp; omega) | (simp at *; omega))))
        | ((conv => whnf); (try (first | rfl | (exfalso; simp_all; done) | (exfalso; simp at *; omega))); done))

    · obtain ⟨hl1, hl2⟩ := bagAt_high h3
      repeat' ((conv => whnf); (first
       | (with_reducible first | refine AW.seq ?_ | refine AW.region base (by kernel_rfl) ?_ | refine AW.cond ?_ | refine AW.block ?_ | refine AW.ret ?_ | refine AW.exit ?_ | refine AW.skip ?_ | refine Br.t ?_ | refine Br.f ?_)
       | (with_reducible refine Br.mkT (fun hb => (by (first | (simp at hb; done) | omega | (simp only [List.length_map, decide_eq_true_eq, decide_eq_false_iff_not] at hb; omega) | fail))) (fun hb => ?_))
       | (with_reducible refine Br.mkF (fun hb => (by (first | (simp at hb; done) | omega | (simp only [List.length_map, decide_eq_true_eq, decide_eq_false_iff_not] at hb; omega) | fail))) (fun hb => ?_))
       | ((with_reducible refine Or.inl ?_); (conv => whnf); (with_reducible refine And.intro LitSl.mk ?_))
       | refine Br.t ?_
       | refine Br.f ?_
       | (with_reducible refine Or.inr ⟨[?_, ?_], _, _, _, _, putn_full i hlm (bagAt i) hl1, ?_⟩)
       | (with_reducible refine Or.inr (Or.inr ⟨[?_, ?_], _, _, _, _, putn_full i hlm (bagAt i) hl1, ?_⟩))
       | (with_reducible refine Br.mk (fun hb => ?_) (fun hb => ?_) <;> (try rw [hb]) <;> (try simp only [List.length_map, decide_eq_true_eq, decide_eq_false_iff_not, Bool.not_eq_true', Bool.not_eq_false', Int.ofNat_lt, Int.ofNat_le, Int.not_lt, Int.not_le, Int.toNat_natCast] at hb))
       | ((with_reducible first | refine Or.inl (And.intro ?_ ?_) | refine And.intro ?_ ?_); (focus (first | with_reducible rfl | exact trivial | (exact ⟨rfl, trivial⟩) | (exact ⟨rfl, rfl, trivial⟩) | omega | (intro r hr; simp only [List.mem_singleton] at hr; subst hr; rfl)  | ((simp only [in64, maxLen] at *; omega)) | ((exact ⟨by omega, by omega, by decide⟩)) | ((exact ⟨by omega, by decide⟩)) | (simp only [in64]; omega) | assumption | (simp; done) | (simp [V.cells]; done) | (simp [in64, maxLen, limK] at *; omega) | ((show confB _ _ = true); kernel_rfl) | rfl)))
       | (intro row hrow; (try simp only [Int.toNat_natCast, List.length_map, toNat_pred, toNat_succ', toNat_zero', toNat_one'] at hrow); (first | (have hsm := same_map (by assumption) hrow; subst hsm; clear hrow) | (obtain ⟨p, hp, rfl⟩ := of_map hrow; clear hrow)))))
      all_goals (try first | with_reducible assumption | ((first | show (_ : Int) ≤ _ | show (_ : Nat) ≤ _ | show (_ : Int) < _ | show ¬ (_ : Int) = _); (first | omega | (simp at *; omega) | (simp; done) | (simp [maxLen]; done))) | ((show in64 _); (simp only [in64] at *; (first | omega | (simp at *; omega) | (simp; done) | (simp [maxLen]; done)))) | ((with_reducible refine And.intro ?_ ?_) <;> (first | omega | (simp at *; omega) | (simp; done) | (simp [maxLen]; done))))
      all_goals (first
        | (with_reducible exact absurd rfl (by assumption))
        | ((conv => whnf); (refine ⟨(i + 1), ?_⟩); (refine And.intro ?_ (And.intro ?_ ?_)); (focus (refine ⟨⟨[0, ?_], ?_⟩⟩; rotate_left 1; repeat' (first | (with_reducible rfl) | exact trivial | ((conv => whnf); (first | (with_reducible refine And.intro ?_ ?_) | (first | with_reducible rfl | ((first | refine congrArg V.str ?_ | refine congrArg (V.int _) ?_ | refine congrArg V.bool ?_ | refine congrArg V.sl ?_); (first | with_reducible rfl | omega | (rw [← hl2]; done) | (exact congrArg (List.map encT) hl2) | rfl | (simp; done))) | (first | with_reducible rfl | omega | (rw [← hl2]; done) | (exact congrArg (List.map encT) hl2) | rfl | (simp; done)) | rfl)))))); (focus (show i + 1 ≤ 305 ∧ ((i + 1 : Nat) : Int) ≤ 300 + n0 % 5; omega)); (focus (first | omega | (dsimp only; omega) | (simp; done) | (simp; omega) | (simp at *; omega))))
        | ((conv => whnf); (try (first | rfl | (exfalso; simp_all; done) | (exfalso; simp at *; omega))); done))

end Go.Proofs.YtnblecdpkbempaaGreatDoor
