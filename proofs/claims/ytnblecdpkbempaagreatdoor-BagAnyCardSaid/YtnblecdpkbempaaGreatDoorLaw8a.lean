/-
  A law of letters under way: in whatever order they are taken each comes as often as it was doubled: its walk. No conditions.
-/
import Derived.Test.YtnblecdpkbempaaGreatDoorLaw8f
namespace Go.Proofs.YtnblecdpkbempaaGreatDoor
open Go.RowKit
set_option linter.unusedSimpArgs false
set_option linter.unusedVariables false

def bagN (ns : List Nat) : List Bs := ns.map fun (j : Nat) => bytesL (lm (j : Int))
abbrev cntR (ns : List Nat) (c : Nat) : List V := [.int .i64 ((ns.count c : Nat) : Int)]
theorem bagN_len (ns : List Nat) : (bagN ns).length = ns.length := by simp [bagN]
theorem bagN_snoc (ns : List Nat) (j : Nat) : bagN ns ++ [bytesL (lm (j : Int))] = bagN (ns ++ [j]) := by simp [bagN]
theorem bagN_range (i : Nat) : bagN (List.range i) ++ [bytesL (lm (i : Int))] = bagN (List.range (i + 1)) := by rw [bagN_snoc, List.range_succ]
theorem bagN_get {ns : List Nat} {a c : Nat} (h : ns[a]? = some c) : (bagN ns)[a]? = some (bytesL (lm (c : Int))) := by simp [bagN, h]
theorem bagN_del (ns : List Nat) (a : Nat) : (bagN ns).take a ++ (bagN ns).drop (a + 1) = bagN (ns.take a ++ ns.drop (a + 1)) := by simp [bagN]
theorem set_rng {f g : Nat → List V} {K i : Nat} {row : List V} (h : i < K) (h1 : row = g i) (h2 : ∀ j, j < K → j ≠ i → f j = g j) : ((List.range K).map f).set i row = (List.range K).map g := by
  apply List.ext_getElem?
  intro j
  rw [List.getElem?_set, List.getElem?_map, List.getElem?_map]
  by_cases hj : i = j
  · subst hj; simp [h, h1]
  · rw [if_neg hj]
    by_cases hk : j < K
    · simp [List.getElem?_range hk, h2 j hk (Ne.symm hj)]
    · rw [List.getElem?_eq_none (by simp; omega)]; rfl
theorem want_nil (K : Nat) : (List.range K).map (cntR []) = List.replicate K [V.int .i64 0] := by
  apply List.ext_getElem?
  intro j
  by_cases h : j < K
  · simp [h, List.getElem?_range h]
  · rw [List.getElem?_eq_none (by simp; omega), List.getElem?_eq_none (by simp; omega)]
theorem want_inc (ns : List Nat) {K J : Nat} (h : J < K) : ((List.range K).map (cntR ns)).set J [V.int .i64 (((ns.count J : Nat) : Int) + 1)] = (List.range K).map (cntR (ns ++ [J])) := by
  refine set_rng h ?_ fun j _ hj => ?_
  · simp [cntR, List.count_append]
  · simp [cntR, List.count_append, List.count_cons, Ne.symm hj]
theorem want_one {K i : Nat} (h : i < K) : ((List.range K).map (cntR (List.range i))).set i [V.int .i64 1] = (List.range K).map (cntR (List.range (i + 1))) := by
  have hc : (List.range i).count i = 0 := List.count_eq_zero.2 (by simp)
  have := want_inc (List.range i) h
  rw [hc] at this
  rw [List.range_succ]; exact this
theorem split_at {ns : List Nat} {a c : Nat} (h : ns[a]? = some c) : ns = ns.take a ++ c :: ns.drop (a + 1) := by
  obtain ⟨h1, rfl⟩ := List.getElem?_eq_some_iff.1 h
  rw [← List.drop_eq_getElem_cons h1, List.take_append_drop]
theorem want_dec {ns : List Nat} {K a c : Nat} (h : ns[a]? = some c) (hc : c < K) : ((List.range K).map (cntR ns)).set c [V.int .i64 (((ns.count c : Nat) : Int) - 1)] = (List.range K).map (cntR (ns.take a ++ ns.drop (a + 1))) := by
  have hs := split_at h
  refine set_rng hc ?_ fun j _ hj => ?_
  · have : ns.count c = (ns.take a ++ ns.drop (a + 1)).count c + 1 := by
      conv => lhs; rw [hs]
      simp [List.count_append, List.count_cons]; omega
    rw [this]; simp [cntR]
  · have : ns.count j = (ns.take a ++ ns.drop (a + 1)).count j := by
      conv => lhs; rw [hs]
      simp [List.count_append, List.count_cons, Ne.symm hj]
    simp only [cntR, this]
theorem del_mem {ns : List Nat} {a K : Nat} (h : ∀ c ∈ ns, c < K) : ∀ c ∈ ns.take a ++ ns.drop (a + 1), c < K := fun c hc => by
  rcases List.mem_append.1 hc with hc | hc
  · exact h c (List.mem_of_mem_take hc)
  · exact h c (List.mem_of_mem_drop hc)

set_option maxRecDepth 100000 in
set_option maxHeartbeats 2000000 in
theorem bagAny_fn (n0 : Int) (tw ord : List UInt8) (g0 : 0 ≤ n0 ∧ n0 ≤ 255) : Fn Tryz.prog 9 [.int .u8 n0, .sl (tw.map encB), .sl (ord.map encB)] (.bool true) := by
  refine Fn.mk' base Tryz.func9 rfl rfl rfl ?_
  obtain ⟨K, hK⟩ : ∃ K : Nat, (K : Int) = n0 % 20 + 1 := ⟨(n0 % 20 + 1).toNat, by omega⟩
  have hKn : (n0 % 20 + 1).toNat = K := by omega
  have hK1 : 1 ≤ K ∧ K ≤ 20 := by omega
  repeat' ((conv => whnf); (first
   | ((with_reducible show AW _ _ _ (Code.seq (Code.region 6 _ _) _) _ _ _); (refine AW.adoptC 1006000 0 999999999 (el := 9) rfl rfl rfl (rows_of 37 rfl) ?_))
   | ((with_reducible show AW _ _ _ (Code.seq (Code.seq (Code.region 8 _ _) _) _) _ _ _); (refine AW.join (fun (_ : Unit) => True) (fun (_ : Unit) => ⟨[(1, .sl (tw.map encB)), (2, .sl (ord.map encB)), (7, .ptr 0 0), (8, .int .i64 (K : Int)), (9, .own 2)], [.cells [.own 1], .rows 9 ((bagN (List.range K)).map encT), .rows 3 ((List.range K).map (cntR (List.range K)))]⟩) ?_ (fun _ _ => ?_)))
   | ((with_reducible show AW _ _ _ (Code.seq (Code.seq (Code.region 14 _ _) _) _) _ _ _); (refine AW.join (fun (ms : List Nat) => ms.length = tw.length ∧ ∀ c ∈ ms, c < K) (fun (ms : List Nat) => ⟨[(2, .sl (ord.map encB)), (7, .ptr 0 0), (8, .int .i64 (K : Int)), (9, .own 2)], [.cells [.own 1], .rows 9 ((bagN (List.range K ++ ms)).map encT), .rows 3 ((List.range K).map (cntR (List.range K ++ ms)))]⟩) ?_ (fun ms ⟨hm1, hm2⟩ => ?_)))
   | ((with_reducible show AW _ _ _ (Code.seq (Code.seq (Code.region 22 _ _) _) _) _ _ _); (refine AW.join (fun (_ : Unit) => True) (fun (_ : Unit) => ⟨[(7, .ptr 0 0), (8, .int .i64 (K : Int)), (9, .own 2)], [.cells [.own 1], .rows 9 ((bagN ([])).map encT), .rows 3 ((List.range K).map (cntR ([])))]⟩) ?_ (fun _ _ => ?_)))
   | (with_reducible first | refine AW.seq ?_ | refine AW.region base (by kernel_rfl) ?_ | refine AW.cond ?_ | refine AW.block ?_ | refine AW.ret ?_ | refine AW.exit ?_ | refine AW.skip ?_ | refine Br.t ?_ | refine Br.f ?_)
   | (with_reducible refine Br.mkT (fun hb => (by (first | (simp at hb; done) | omega | (simp only [List.length_map, decide_eq_true_eq, decide_eq_false_iff_not] at hb; omega) | fail))) (fun hb => ?_))
   | (with_reducible refine Br.mkF (fun hb => (by (first | (simp at hb; done) | omega | (simp only [List.length_map, decide_eq_true_eq, decide_eq_false_iff_not] at hb; omega) | fail))) (fun hb => ?_))
   | ((with_reducible refine Or.inl ?_); (conv => whnf); (with_reducible refine And.intro LitSl.mk ?_))
   | refine Br.t ?_
   | refine Br.f ?_
   | ((with_reducible refine Or.inl ?_); (conv => whnf); (first | (with_reducible first | refine ⟨_, known8_fn, ?_⟩)))
   | (with_reducible refine Or.inr ⟨[], _, _, _, _, bagNew_fn, ?_⟩)
   | (with_reducible refine Or.inr (Or.inr ⟨[], _, _, _, _, bagNew_fn, ?_⟩))
   | (with_reducible refine Or.inr ⟨[?_, ?_], _, _, _, _, bagLen_fn ?_, ?_⟩)
   | (with_reducible refine Or.inr (Or.inr ⟨[?_, ?_], _, _, _, _, bagLen_fn ?_, ?_⟩))
   | (with_reducible refine Br.mk (fun hb => ?_) (fun hb => ?_) <;> (try rw [hb]) <;> (try simp only [List.length_map, decide_eq_true_eq, decide_eq_false_iff_not, Bool.not_eq_true', Bool.not_eq_false', Int.ofNat_lt, Int.ofNat_le, Int.not_lt, Int.not_le, Int.toNat_natCast] at hb))
   | ((with_reducible first | refine Or.inl (And.intro ?_ ?_) | refine And.intro ?_ ?_); (focus (first | with_reducible rfl | exact trivial | (exact ⟨rfl, trivial⟩) | (exact ⟨rfl, rfl, trivial⟩) | omega | (intro r hr; simp only [List.mem_singleton] at hr; subst hr; rfl)  | ((simp only [in64, maxLen] at *; omega)) | ((simp only [List.length_map, List.length_range]; omega)) | ((exact ⟨by omega, by omega, by decide⟩)) | ((exact ⟨by omega, by decide⟩)) | ((simp only [List.length_map] at *; omega)) | ((exact ⟨by omega, by omega⟩)) | ((simp only [List.length_map, bagN_len, List.length_append, List.length_range, in64] at *; omega)) | (simp only [in64]; omega) | assumption | (simp; done) | (simp [V.cells]; done) | (simp [in64, maxLen, limK] at *; omega) | ((show confB _ _ = true); kernel_rfl) | rfl)))
   | (intro row hrow; (try simp only [Int.toNat_natCast, List.length_map, toNat_pred, toNat_succ', toNat_zero', toNat_one'] at hrow); (first | (have hsm := same_map (by assumption) hrow; subst hsm; clear hrow) | (obtain ⟨p, hp, rfl⟩ := of_map hrow; clear hrow)))))
  all_goals try ((conv => whnf); first | rfl | done)
  · refine AW.loop (fun (i : Nat) => i ≤ K) (fun (i : Nat) => ⟨[(1, .sl (tw.map encB)), (2, .sl (ord.map encB)), (7, .ptr 0 0), (8, .int .i64 (K : Int)), (9, .own 2), (10, .int .i64 (i : Int))], [.cells [.own 1], .rows 9 ((bagN (List.range i)).map encT), .rows 3 ((List.range K).map (cntR (List.range i)))]⟩) (fun i => K - i) 0 ?_ ?_ ?_
    · exact Nat.zero_le _
    · (refine ⟨⟨[1006000, 999999999, 8001], ?_⟩⟩; repeat' (first | (with_reducible rfl) | exact trivial | ((conv => whnf); (first | (with_reducible refine And.intro ?_ ?_) | (first | with_reducible rfl | ((first | refine congrArg V.str ?_ | refine congrArg (V.int _) ?_ | refine congrArg V.bool ?_ | refine congrArg V.sl ?_); (first | with_reducible rfl | omega | (rw [hKn]; exact (want_nil K).symm) | (simp [bagN]; done) | rfl | (simp; done))) | (first | with_reducible rfl | omega | (rw [hKn]; exact (want_nil K).symm) | (simp [bagN]; done) | rfl | (simp; done)) | rfl)))))
    · rintro i hk
      rcases (by omega : i = K ∨ i < K) with hi | hi
      · subst hi
        repeat' ((conv => whnf); (first
         | (with_reducible first | refine AW.seq ?_ | refine AW.region base (by kernel_rfl) ?_ | refine AW.cond ?_ | refine AW.block ?_ | refine AW.ret ?_ | refine AW.exit ?_ | refine AW.skip ?_ | refine Br.t ?_ | refine Br.f ?_)
         | (with_reducible refine Br.mkT (fun hb => (by (first | (simp at hb; done) | omega | (simp only [List.length_map, decide_eq_true_eq, decide_eq_false_iff_not] at hb; omega) | fail))) (fun hb => ?_))
         | (with_reducible refine Br.mkF (fun hb => (by (first | (simp at hb; done) | omega | (simp only [List.length_map, decide_eq_true_eq, decide_eq_false_iff_not] at hb; omega) | fail))) (fun hb => ?_))
         | ((with_reducible refine Or.inl ?_); (conv => whnf); (with_reducible refine And.intro LitSl.mk ?_))
         | refine Br.t ?_
         | refine Br.f ?_
         | ((with_reducible refine Or.inl ?_); (conv => whnf); (first | (with_reducible first | refine ⟨_, known8_fn, ?_⟩)))
         | (with_reducible refine Or.inr ⟨[], _, _, _, _, bagNew_fn, ?_⟩)
         | (with_reducible refine Or.inr (Or.inr ⟨[], _, _, _, _, bagNew_fn, ?_⟩))
         | (with_reducible refine Or.inr ⟨[?_, ?_], _, _, _, _, bagLen_fn ?_, ?_⟩)
         | (with_reducible refine Or.inr (Or.inr ⟨[?_, ?_], _, _, _, _, bagLen_fn ?_, ?_⟩))
         | (with_reducible refine Br.mk (fun hb => ?_) (fun hb => ?_) <;> (try rw [hb]) <;> (try simp only [List.length_map, decide_eq_true_eq, decide_eq_false_iff_not, Bool.not_eq_true', Bool.not_eq_false', Int.ofNat_lt, Int.ofNat_le, Int.not_lt, Int.not_le, Int.toNat_natCast] at hb))
         | ((with_reducible first | refine Or.inl (And.intro ?_ ?_) | refine And.intro ?_ ?_); (focus (first | with_reducible rfl | exact trivial | (exact ⟨rfl, trivial⟩) | (exact ⟨rfl, rfl, trivial⟩) | omega | (intro r hr; simp only [List.mem_singleton] at hr; subst hr; rfl)  | ((simp only [in64, maxLen] at *; omega)) | ((simp only [List.length_map, List.length_range]; omega)) | ((exact ⟨by omega, by omega, by decide⟩)) | ((exact ⟨by omega, by decide⟩)) | ((simp only [List.length_map] at *; omega)) | ((exact ⟨by omega, by omega⟩)) | ((simp only [List.length_map, bagN_len, List.length_append, List.length_range, in64] at *; omega)) | (simp only [in64]; omega) | assumption | (simp; done) | (simp [V.cells]; done) | (simp [in64, maxLen, limK] at *; omega) | ((show confB _ _ = true); kernel_rfl) | rfl)))
         | (intro row hrow; (try simp only [Int.toNat_natCast, List.length_map, toNat_pred, toNat_succ', toNat_zero', toNat_one'] at hrow); (first | (have hsm := same_map (by assumption) hrow; subst hsm; clear hrow) | (obtain ⟨p, hp, rfl⟩ := of_map hrow; clear hrow)))))
        all_goals ((conv => whnf); (refine ⟨(), ?_, trivial⟩; (refine ⟨⟨[0, 1, 2], ?_⟩⟩; repeat' (first | (with_reducible rfl) | exact trivial | ((conv => whnf); (first | (with_reducible refine And.intro ?_ ?_) | (first | with_reducible rfl | ((first | refine congrArg V.str ?_ | refine congrArg (V.int _) ?_ | refine congrArg V.bool ?_ | refine congrArg V.sl ?_); (first | with_reducible rfl | omega | rfl | (simp; done))) | (first | with_reducible rfl | omega | rfl | (simp; done)) | rfl)))))))
      have hlm := lm_ok (i := (i : Int)) (by omega) (by omega)
      have hl : (bagN (List.range i)).length < 300 := by rw [bagN_len, List.length_range]; omega
      have hr : (List.range K)[(i : Int).toNat]? = some i := by rw [Int.toNat_natCast, List.getElem?_range hi]
      repeat' ((conv => whnf); (first
       | (with_reducible first | refine AW.seq ?_ | refine AW.region base (by kernel_rfl) ?_ | refine AW.cond ?_ | refine AW.block ?_ | refine AW.ret ?_ | refine AW.exit ?_ | refine AW.skip ?_ | refine Br.t ?_ | refine Br.f ?_)
       | (with_reducible refine Br.mkT (fun hb => (by (first | (simp at hb; done) | omega | (simp only [List.length_map, decide_eq_true_eq, decide_eq_false_iff_not] at hb; omega) | fail))) (fun hb => ?_))
       | (with_reducible refine Br.mkF (fun hb => (by (first | (simp at hb; done) | omega | (simp only [List.length_map, decide_eq_true_eq, decide_eq_false_iff_not] at hb; omega) | fail))) (fun hb => ?_))
       | ((with_reducible refine Or.inl ?_); (conv => whnf); (with_reducible refine And.intro LitSl.mk ?_))
       | refine Br.t ?_
       | refine Br.f ?_
       | (with_reducible refine Or.inr ⟨[?_, ?_], _, _, _, _, putn_ok i hlm (bagN (List.range i)) hl, ?_⟩)
       | (with_reducible refine Or.inr (Or.inr ⟨[?_, ?_], _, _, _, _, putn_ok i hlm (bagN (List.range i)) hl, ?_⟩))
       | (with_reducible refine Br.mk (fun hb => ?_) (fun hb => ?_) <;> (try rw [hb]) <;> (try simp only [List.length_map, decide_eq_true_eq, decide_eq_false_iff_not, Bool.not_eq_true', Bool.not_eq_false', Int.ofNat_lt, Int.ofNat_le, Int.not_lt, Int.not_le, Int.toNat_natCast] at hb))
       | ((with_reducible first | refine Or.inl (And.intro ?_ ?_) | refine And.intro ?_ ?_); (focus (first | with_reducible rfl | exact trivial | (exact ⟨rfl, trivial⟩) | (exact ⟨rfl, rfl, trivial⟩) | omega | (intro r hr; simp only [List.mem_singleton] at hr; subst hr; rfl)  | ((simp only [in64, maxLen] at *; omega)) | ((simp only [List.length_map, List.length_range]; omega)) | ((exact ⟨by omega, by omega, by decide⟩)) | ((exact ⟨by omega, by decide⟩)) | ((simp only [List.length_map] at *; omega)) | ((exact ⟨by omega, by omega⟩)) | ((simp only [List.length_map, bagN_len, List.length_append, List.length_range, in64] at *; omega)) | (simp only [in64]; omega) | assumption | (simp; done) | (simp [V.cells]; done) | (simp [in64, maxLen, limK] at *; omega) | ((show confB _ _ = true); kernel_rfl) | rfl)))
       | (intro row hrow; (try simp only [Int.toNat_natCast, List.length_map, toNat_pred, toNat_succ', toNat_zero', toNat_one'] at hrow); (first | (have hsm := same_map (by assumption) hrow; subst hsm; clear hrow) | (obtain ⟨p, hp, rfl⟩ := of_map hrow; clear hrow)))))
      all_goals (try first | with_reducible assumption | ((first | show (_ : Int) ≤ _ | show (_ : Nat) ≤ _ | show (_ : Int) < _ | show ¬ (_ : Int) = _); (first | omega | (simp at *; omega) | (simp; done) | (simp [maxLen]; done))) | ((show in64 _); (simp only [in64] at *; (first | omega | (simp at *; omega) | (simp; done) | (simp [maxLen]; done)))) | ((with_reducible refine And.intro ?_ ?_) <;> (first | omega | (simp at *; omega) | (simp; done) | (simp [maxLen]; done))))
      all_goals (first
        | (with_reducible exact absurd rfl (by assumption))
        | ((conv => whnf); (refine ⟨(i + 1), ?_⟩); (refine And.intro ?_ (And.intro ?_ ?_)); (focus (refine ⟨⟨[0, ?_, 2], ?_⟩⟩; rotate_left 1; repeat' (first | (with_reducible rfl) | exact trivial | ((conv => whnf); (first | (with_reducible refine And.intro ?_ ?_) | (first | with_reducible rfl | ((first | refine congrArg V.str ?_ | refine congrArg (V.int _) ?_ | refine congrArg V.bool ?_ | refine congrArg V.sl ?_); (first | with_reducible rfl | omega | (exact congrArg (List.map encT) (bagN_range i)) | (exact want_one hi) | rfl | (simp; done))) | (first | with_reducible rfl | omega | (exact congrArg (List.map encT) (bagN_range i)) | (exact want_one hi) | rfl | (simp; done)) | rfl)))))); (focus (show i + 1 ≤ K; omega)); (focus (first | omega | (dsimp only; omega) | (simp; done) | (simp; omega) | (simp at *; omega))))
        | ((conv => whnf); (try (first | rfl | (exfalso; simp_all; done) | (exfalso; simp at *; omega))); done))

  · refine AW.loop (fun (⟨i, ms⟩ : Nat × List Nat) => i ≤ tw.length ∧ ms.length = i ∧ ∀ c ∈ ms, c < K) (fun (⟨i, ms⟩ : Nat × List Nat) => ⟨[(1, .sl (tw.map encB)), (2, .sl (ord.map encB)), (7, .ptr 0 0), (8, .int .i64 (K : Int)), (9, .own 2), (11, .int .i64 (i : Int))], [.cells [.own 1], .rows 9 ((bagN (List.range K ++ ms)).map encT), .rows 3 ((List.range K).map (cntR (List.range K ++ ms)))]⟩) (fun (⟨i, ms⟩ : Nat × List Nat) => tw.length - i) (0, []) ?_ ?_ ?_
    · exact ⟨Nat.zero_le _, rfl, by simp⟩
    · (refine ⟨⟨[0, 1, 2], ?_⟩⟩; repeat' (first | (with_reducible rfl) | exact trivial | ((conv => whnf); (first | (with_reducible refine And.intro ?_ ?_) | (first | with_reducible rfl | ((first | refine congrArg V.str ?_ | refine congrArg (V.int _) ?_ | refine congrArg V.bool ?_ | refine congrArg V.sl ?_); (first | with_reducible rfl | omega | (rw [List.append_nil]; done) | rfl | (simp; done))) | (first | with_reducible rfl | omega | (rw [List.append_nil]; done) | rfl | (simp; done)) | rfl)))))
    · rintro ⟨i, ms⟩ hk
      obtain ⟨hk1, hk2, hk3⟩ := hk
      rcases (by omega : i = tw.length ∨ i < tw.length) with hi | hi
      · subst hi
        repeat' ((conv => whnf); (first
         | (with_reducible first | refine AW.seq ?_ | refine AW.region base (by kernel_rfl) ?_ | refine AW.cond ?_ | refine AW.block ?_ | refine AW.ret ?_ | refine AW.exit ?_ | refine AW.skip ?_ | refine Br.t ?_ | refine Br.f ?_)
         | (with_reducible refine Br.mkT (fun hb => (by (first | (simp at hb; done) | omega | (simp only [List.length_map, decide_eq_true_eq, decide_eq_false_iff_not] at hb; omega) | fail))) (fun hb => ?_))
         | (with_reducible refine Br.mkF (fun hb => (by (first | (simp at hb; done) | omega | (simp only [List.length_map, decide_eq_true_eq, decide_eq_false_iff_not] at hb; omega) | fail))) (fun hb => ?_))
         | ((with_reducible refine Or.inl ?_); (conv => whnf); (with_reducible refine And.intro LitSl.mk ?_))
         | refine Br.t ?_
         | refine Br.f ?_
         | ((with_reducible refine Or.inl ?_); (conv => whnf); (first | (with_reducible first | refine ⟨_, known8_fn, ?_⟩)))
         | (with_reducible refine Or.inr ⟨[], _, _, _, _, bagNew_fn, ?_⟩)
         | (with_reducible refine Or.inr (Or.inr ⟨[], _, _, _, _, bagNew_fn, ?_⟩))
         | (with_reducible refine Or.inr ⟨[?_, ?_], _, _, _, _, bagLen_fn ?_, ?_⟩)
         | (with_reducible refine Or.inr (Or.inr ⟨[?_, ?_], _, _, _, _, bagLen_fn ?_, ?_⟩))
         | (with_reducible refine Br.mk (fun hb => ?_) (fun hb => ?_) <;> (try rw [hb]) <;> (try simp only [List.length_map, decide_eq_true_eq, decide_eq_false_iff_not, Bool.not_eq_true', Bool.not_eq_false', Int.ofNat_lt, Int.ofNat_le, Int.not_lt, Int.not_le, Int.toNat_natCast] at hb))
         | ((with_reducible first | refine Or.inl (And.intro ?_ ?_) | refine And.intro ?_ ?_); (focus (first | with_reducible rfl | exact trivial | (exact ⟨rfl, trivial⟩) | (exact ⟨rfl, rfl, trivial⟩) | omega | (intro r hr; simp only [List.mem_singleton] at hr; subst hr; rfl)  | ((simp only [in64, maxLen] at *; omega)) | ((simp only [List.length_map, List.length_range]; omega)) | ((exact ⟨by omega, by omega, by decide⟩)) | ((exact ⟨by omega, by decide⟩)) | ((simp only [List.length_map] at *; omega)) | ((exact ⟨by omega, by omega⟩)) | ((simp only [List.length_map, bagN_len, List.length_append, List.length_range, in64] at *; omega)) | (simp only [in64]; omega) | assumption | (simp; done) | (simp [V.cells]; done) | (simp [in64, maxLen, limK] at *; omega) | ((show confB _ _ = true); kernel_rfl) | rfl)))
         | (intro row hrow; (try simp only [Int.toNat_natCast, List.length_map, toNat_pred, toNat_succ', toNat_zero', toNat_one'] at hrow); (first | (have hsm := same_map (by assumption) hrow; subst hsm; clear hrow) | (obtain ⟨p, hp, rfl⟩ := of_map hrow; clear hrow)))))
        all_goals ((conv => whnf); (refine ⟨ms, ?_, ⟨hk2, hk3⟩⟩; (refine ⟨⟨[0, 1, 2], ?_⟩⟩; repeat' (first | (with_reducible rfl) | exact trivial | ((conv => whnf); (first | (with_reducible refine And.intro ?_ ?_) | (first | with_reducible rfl | ((first | refine congrArg V.str ?_ | refine congrArg (V.int _) ?_ | refine congrArg V.bool ?_ | refine congrArg V.sl ?_); (first | with_reducible rfl | omega | rfl | (simp; done))) | (first | with_reducible rfl | omega | rfl | (simp; done)) | rfl)))))))
      obtain ⟨p, hp⟩ : ∃ p, tw[i]? = some p := ⟨_, List.getElem?_eq_getElem hi⟩
      obtain ⟨J, hJ⟩ : ∃ J, J = p.toNat % K := ⟨_, rfl⟩
      have hJK : J < K := by rw [hJ]; exact Nat.mod_lt _ (by omega)
      have hJI : (p.toNat : Int) % (K : Int) = (J : Int) := by rw [hJ]; omega
      have hJn : ((p.toNat : Int) % (K : Int)).toNat = J := by rw [hJI]; omega
      have hlen : (bagN (List.range K ++ ms)).length = K + i := by rw [bagN_len, List.length_append, List.length_range, hk2]
      have hns : (List.range K ++ ms)[J]? = some J := by rw [List.getElem?_append_left (by simpa using hJK), List.getElem?_range hJK]
      have hpJ : (bagN (List.range K ++ ms))[((p.toNat : Int) % (K : Int)).toNat]? = some (bytesL (lm (J : Int))) := by rw [hJn]; exact bagN_get hns
      have hr : (List.range K)[((p.toNat : Int) % (K : Int)).toNat]? = some J := by rw [hJn, List.getElem?_range hJK]
      have hcl : (List.range K ++ ms).count J ≤ (List.range K ++ ms).length := List.count_le_length
      rw [List.length_append, List.length_range] at hcl
      have hp8 := UInt8.toNat_lt p
      repeat' ((conv => whnf); (first
       | (with_reducible first | refine AW.seq ?_ | refine AW.region base (by kernel_rfl) ?_ | refine AW.cond ?_ | refine AW.block ?_ | refine AW.ret ?_ | refine AW.exit ?_ | refine AW.skip ?_ | refine Br.t ?_ | refine Br.f ?_)
       | (with_reducible refine Br.mkT (fun hb => (by (first | (simp at hb; done) | omega | (simp only [List.length_map, decide_eq_true_eq, decide_eq_false_iff_not] at hb; omega) | fail))) (fun hb => ?_))
       | (with_reducible refine Br.mkF (fun hb => (by (first | (simp at hb; done) | omega | (simp only [List.length_map, decide_eq_true_eq, decide_eq_false_iff_not] at hb; omega) | fail))) (fun hb => ?_))
       | ((with_reducible refine Or.inl ?_); (conv => whnf); (with_reducible refine And.intro LitSl.mk ?_))
       | refine Br.t ?_
       | refine Br.f ?_
       | (with_reducible refine Or.inr ⟨[?_, ?_], _, _, _, _, twice_ok ((p.toNat : Int) % (K : Int)) (bagN (List.range K ++ ms)) (by omega) (by omega) (bytesL (lm (J : Int))) hpJ (by omega), ?_⟩)
       | (with_reducible refine Or.inr (Or.inr ⟨[?_, ?_], _, _, _, _, twice_ok ((p.toNat : Int) % (K : Int)) (bagN (List.range K ++ ms)) (by omega) (by omega) (bytesL (lm (J : Int))) hpJ (by omega), ?_⟩))
       | (with_reducible refine Br.mk (fun hb => ?_) (fun hb => ?_) <;> (try rw [hb]) <;> (try simp only [List.length_map, decide_eq_true_eq, decide_eq_false_iff_not, Bool.not_eq_true', Bool.not_eq_false', Int.ofNat_lt, Int.ofNat_le, Int.not_lt, Int.not_le, Int.toNat_natCast] at hb))
       | ((with_reducible first | refine Or.inl (And.intro ?_ ?_) | refine And.intro ?_ ?_); (focus (first | with_reducible rfl | exact trivial | (exact ⟨rfl, trivial⟩) | (exact ⟨rfl, rfl, trivial⟩) | omega | (intro r hr; simp only [List.mem_singleton] at hr; subst hr; rfl)  | ((simp only [in64, maxLen] at *; omega)) | ((simp only [List.length_map, List.length_range]; omega)) | ((exact ⟨by omega, by omega, by decide⟩)) | ((exact ⟨by omega, by decide⟩)) | ((simp only [List.length_map] at *; omega)) | ((exact ⟨by omega, by omega⟩)) | ((simp only [List.length_map, bagN_len, List.length_append, List.length_range, in64] at *; omega)) | (simp only [in64]; omega) | assumption | (simp; done) | (simp [V.cells]; done) | (simp [in64, maxLen, limK] at *; omega) | ((show confB _ _ = true); kernel_rfl) | rfl)))
       | (intro row hrow; (try simp only [Int.toNat_natCast, List.length_map, toNat_pred, toNat_succ', toNat_zero', toNat_one'] at hrow); (first | (have hsm := same_map (by assumption) hrow; subst hsm; clear hrow) | (obtain ⟨p, hp, rfl⟩ := of_map hrow; clear hrow)))))
      all_goals (try first | with_reducible assumption | ((first | show (_ : Int) ≤ _ | show (_ : Nat) ≤ _ | show (_ : Int) < _ | show ¬ (_ : Int) = _); (first | omega | (simp at *; omega) | (simp; done) | (simp [maxLen]; done))) | ((show in64 _); (simp only [in64] at *; (first | omega | (simp at *; omega) | (simp; done) | (simp [maxLen]; done)))) | ((with_reducible refine And.intro ?_ ?_) <;> (first | omega | (simp at *; omega) | (simp; done) | (simp [maxLen]; done))))
      all_goals (first
        | (with_reducible exact absurd rfl (by assumption))
        | ((conv => whnf); (refine ⟨(i + 1, ms ++ [J]), ?_⟩); (refine And.intro ?_ (And.intro ?_ ?_)); (focus (refine ⟨⟨[0, ?_, 2], ?_⟩⟩; rotate_left 1; repeat' (first | (with_reducible rfl) | exact trivial | ((conv => whnf); (first | (with_reducible refine And.intro ?_ ?_) | (first | with_reducible rfl | ((first | refine congrArg V.str ?_ | refine congrArg (V.int _) ?_ | refine congrArg V.bool ?_ | refine congrArg V.sl ?_); (first | with_reducible rfl | omega | (rw [bagN_snoc, List.append_assoc]; done) | (rw [hJn, want_inc _ hJK, List.append_assoc]; done) | rfl | (simp; done))) | (first | with_reducible rfl | omega | (rw [bagN_snoc, List.append_assoc]; done) | (rw [hJn, want_inc _ hJK, List.append_assoc]; done) | rfl | (simp; done)) | rfl)))))); (focus (exact ⟨by omega, by simp; omega, fun c hc => by rcases List.mem_append.1 hc with hc | hc; exact hk3 c hc; simp at hc; omega⟩)); (focus (first | omega | (dsimp only; omega) | (simp; done) | (simp; omega) | (simp at *; omega))))
        | ((conv => whnf); (try (first | rfl | (exfalso; simp_all; done) | (exfalso; simp at *; omega))); done))

  · obtain ⟨A, hA⟩ : ∃ A, A = K + ms.length := ⟨_, rfl⟩
    refine AW.loop (fun (⟨i, ns⟩ : Nat × List Nat) => ns.length + i = A ∧ ∀ c ∈ ns, c < K) (fun (⟨i, ns⟩ : Nat × List Nat) => ⟨[(2, .sl (ord.map encB)), (7, .ptr 0 0), (8, .int .i64 (K : Int)), (9, .own 2), (13, .int .i64 (A : Int)), (14, .int .i64 (i : Int))], [.cells [.own 1], .rows 9 ((bagN (ns)).map encT), .rows 3 ((List.range K).map (cntR (ns)))]⟩) (fun (⟨i, ns⟩ : Nat × List Nat) => A - i) (0, List.range K ++ ms) ?_ ?_ ?_
    · refine ⟨by rw [List.length_append, List.length_range]; omega, fun c hc => ?_⟩
      rcases List.mem_append.1 hc with hc | hc
      · simpa using hc
      · exact hm2 c hc
    · (refine ⟨⟨[0, 1, 2], ?_⟩⟩; repeat' (first | (with_reducible rfl) | exact trivial | ((conv => whnf); (first | (with_reducible refine And.intro ?_ ?_) | (first | with_reducible rfl | ((first | refine congrArg V.str ?_ | refine congrArg (V.int _) ?_ | refine congrArg V.bool ?_ | refine congrArg V.sl ?_); (first | with_reducible rfl | omega | (simp only [List.length_map, bagN_len, List.length_append, List.length_range]; omega) | rfl | (simp; done))) | (first | with_reducible rfl | omega | (simp only [List.length_map, bagN_len, List.length_append, List.length_range]; omega) | rfl | (simp; done)) | rfl)))))
    · rintro ⟨i, ns⟩ hk
      obtain ⟨hk1, hk3⟩ := hk
      rcases (by omega : i = A ∨ i < A) with hi | hi
      · have hns : ns = [] := List.length_eq_zero_iff.1 (by omega)
        subst hns
        repeat' ((conv => whnf); (first
         | (with_reducible first | refine AW.seq ?_ | refine AW.region base (by kernel_rfl) ?_ | refine AW.cond ?_ | refine AW.block ?_ | refine AW.ret ?_ | refine AW.exit ?_ | refine AW.skip ?_ | refine Br.t ?_ | refine Br.f ?_)
         | (with_reducible refine Br.mkT (fun hb => (by (first | (simp at hb; done) | omega | (simp only [List.length_map, decide_eq_true_eq, decide_eq_false_iff_not] at hb; omega) | fail))) (fun hb => ?_))
         | (with_reducible refine Br.mkF (fun hb => (by (first | (simp at hb; done) | omega | (simp only [List.length_map, decide_eq_true_eq, decide_eq_false_iff_not] at hb; omega) | fail))) (fun hb => ?_))
         | ((with_reducible refine Or.inl ?_); (conv => whnf); (with_reducible refine And.intro LitSl.mk ?_))
         | refine Br.t ?_
         | refine Br.f ?_
         | ((with_reducible refine Or.inl ?_); (conv => whnf); (first | (with_reducible first | refine ⟨_, known8_fn, ?_⟩)))
         | (with_reducible refine Or.inr ⟨[], _, _, _, _, bagNew_fn, ?_⟩)
         | (with_reducible refine Or.inr (Or.inr ⟨[], _, _, _, _, bagNew_fn, ?_⟩))
         | (with_reducible refine Or.inr ⟨[?_, ?_], _, _, _, _, bagLen_fn ?_, ?_⟩)
         | (with_reducible refine Or.inr (Or.inr ⟨[?_, ?_], _, _, _, _, bagLen_fn ?_, ?_⟩))
         | (with_reducible refine Br.mk (fun hb => ?_) (fun hb => ?_) <;> (try rw [hb]) <;> (try simp only [List.length_map, decide_eq_true_eq, decide_eq_false_iff_not, Bool.not_eq_true', Bool.not_eq_false', Int.ofNat_lt, Int.ofNat_le, Int.not_lt, Int.not_le, Int.toNat_natCast] at hb))
         | ((with_reducible first | refine Or.inl (And.intro ?_ ?_) | refine And.intro ?_ ?_); (focus (first | with_reducible rfl | exact trivial | (exact ⟨rfl, trivial⟩) | (exact ⟨rfl, rfl, trivial⟩) | omega | (intro r hr; simp only [List.mem_singleton] at hr; subst hr; rfl)  | ((simp only [in64, maxLen] at *; omega)) | ((simp only [List.length_map, List.length_range]; omega)) | ((exact ⟨by omega, by omega, by decide⟩)) | ((exact ⟨by omega, by decide⟩)) | ((simp only [List.length_map] at *; omega)) | ((exact ⟨by omega, by omega⟩)) | ((simp only [List.length_map, bagN_len, List.length_append, List.length_range, in64] at *; omega)) | (simp only [in64]; omega) | assumption | (simp; done) | (simp [V.cells]; done) | (simp [in64, maxLen, limK] at *; omega) | ((show confB _ _ = true); kernel_rfl) | rfl)))
         | (intro row hrow; (try simp only [Int.toNat_natCast, List.length_map, toNat_pred, toNat_succ', toNat_zero', toNat_one'] at hrow); (first | (have hsm := same_map (by assumption) hrow; subst hsm; clear hrow) | (obtain ⟨p, hp, rfl⟩ := of_map hrow; clear hrow)))))
        all_goals ((conv => whnf); (refine ⟨(), ?_, trivial⟩; (refine ⟨⟨[0, 1, 2], ?_⟩⟩; repeat' (first | (with_reducible rfl) | exact trivial | ((conv => whnf); (first | (with_reducible refine And.intro ?_ ?_) | (first | with_reducible rfl | ((first | refine congrArg V.str ?_ | refine congrArg (V.int _) ?_ | refine congrArg V.bool ?_ | refine congrArg V.sl ?_); (first | with_reducible rfl | omega | rfl | (simp; done))) | (first | with_reducible rfl | omega | rfl | (simp; done)) | rfl)))))))
      by_cases ho : i < ord.length
      · obtain ⟨p, hp⟩ : ∃ p, ord[i]? = some p := ⟨_, List.getElem?_eq_getElem ho⟩
        have hp8 := UInt8.toNat_lt p
        have hat : 0 ≤ (p.toNat : Int) % ((A : Int) - (i : Int)) ∧ (p.toNat : Int) % ((A : Int) - (i : Int)) < (ns.length : Int) := by first | (exact ⟨Int.emod_nonneg _ (by omega), by have := Int.emod_lt_of_pos ((p.toNat : Nat) : Int) (show (0 : Int) < (A : Int) - (i : Int) by omega); omega⟩) | omega
        obtain ⟨c, hc⟩ : ∃ c, ns[((p.toNat : Int) % ((A : Int) - (i : Int))).toNat]? = some c := ⟨_, List.getElem?_eq_getElem (by omega)⟩
        have hcK := hk3 c (List.mem_of_getElem? hc)
        have hlen : (bagN ns).length = ns.length := bagN_len ns
        have hpc := bagN_get hc
        have hn0 : (lm (c : Int)).n0 = (c : Int) := rfl
        have hr : (List.range K)[((lm (c : Int)).n0).toNat]? = some c := by rw [hn0, Int.toNat_natCast, List.getElem?_range hcK]
        have hcl : ns.count c ≤ ns.length := List.count_le_length
        repeat' ((conv => whnf); (first
         | (with_reducible first | refine AW.seq ?_ | refine AW.region base (by kernel_rfl) ?_ | refine AW.cond ?_ | refine AW.block ?_ | refine AW.ret ?_ | refine AW.exit ?_ | refine AW.skip ?_ | refine Br.t ?_ | refine Br.f ?_)
         | (with_reducible refine Br.mkT (fun hb => (by (first | (simp at hb; done) | omega | (simp only [List.length_map, decide_eq_true_eq, decide_eq_false_iff_not] at hb; omega) | fail))) (fun hb => ?_))
         | (with_reducible refine Br.mkF (fun hb => (by (first | (simp at hb; done) | omega | (simp only [List.length_map, decide_eq_true_eq, decide_eq_false_iff_not] at hb; omega) | fail))) (fun hb => ?_))
         | ((with_reducible refine Or.inl ?_); (conv => whnf); (with_reducible refine And.intro LitSl.mk ?_))
         | refine Br.t ?_
         | refine Br.f ?_
         | (with_reducible refine Or.inr ⟨[?_, ?_], _, _, _, _, bagTake_ok ((p.toNat : Int) % ((A : Int) - (i : Int))) (bagN ns) (by omega) (by omega) (by omega) (lm (c : Int)) (lm_ok (by omega) (by omega)) hpc, ?_⟩)
         | (with_reducible refine Or.inr (Or.inr ⟨[?_, ?_], _, _, _, _, bagTake_ok ((p.toNat : Int) % ((A : Int) - (i : Int))) (bagN ns) (by omega) (by omega) (by omega) (lm (c : Int)) (lm_ok (by omega) (by omega)) hpc, ?_⟩))
         | (with_reducible refine Br.mk (fun hb => ?_) (fun hb => ?_) <;> (try rw [hb]) <;> (try simp only [List.length_map, decide_eq_true_eq, decide_eq_false_iff_not, Bool.not_eq_true', Bool.not_eq_false', Int.ofNat_lt, Int.ofNat_le, Int.not_lt, Int.not_le, Int.toNat_natCast] at hb))
         | ((with_reducible first | refine Or.inl (And.intro ?_ ?_) | refine And.intro ?_ ?_); (focus (first | with_reducible rfl | exact trivial | (exact ⟨rfl, trivial⟩) | (exact ⟨rfl, rfl, trivial⟩) | omega | (intro r hr; simp only [List.mem_singleton] at hr; subst hr; rfl)  | ((simp only [in64, maxLen] at *; omega)) | ((simp only [List.length_map, List.length_range]; omega)) | ((exact ⟨by omega, by omega, by decide⟩)) | ((exact ⟨by omega, by decide⟩)) | ((simp only [List.length_map] at *; omega)) | ((exact ⟨by omega, by omega⟩)) | ((simp only [List.length_map, bagN_len, List.length_append, List.length_range, in64] at *; omega)) | (simp only [in64]; omega) | assumption | (simp; done) | (simp [V.cells]; done) | (simp [in64, maxLen, limK] at *; omega) | ((show confB _ _ = true); kernel_rfl) | rfl)))
         | (intro row hrow; (try simp only [Int.toNat_natCast, List.length_map, toNat_pred, toNat_succ', toNat_zero', toNat_one'] at hrow); (first | (have hsm := same_map (by assumption) hrow; subst hsm; clear hrow) | (obtain ⟨p, hp, rfl⟩ := of_map hrow; clear hrow)))))
        all_goals (try first | with_reducible assumption | ((first | show (_ : Int) ≤ _ | show (_ : Nat) ≤ _ | show (_ : Int) < _ | show ¬ (_ : Int) = _); (first | omega | (simp at *; omega) | (simp; done) | (simp [maxLen]; done))) | ((show in64 _); (simp only [in64] at *; (first | omega | (simp at *; omega) | (simp; done) | (simp [maxLen]; done)))) | ((with_reducible refine And.intro ?_ ?_) <;> (first | omega | (simp at *; omega) | (simp; done) | (simp [maxLen]; done))))
        all_goals (first
          | (with_reducible exact absurd rfl (by assumption))
          | ((conv => whnf); (refine ⟨(i + 1, ns.take ((p.toNat : Int) % ((A : Int) - (i : Int))).toNat ++ ns.drop (((p.toNat : Int) % ((A : Int) - (i : Int))).toNat + 1)), ?_⟩); (refine And.intro ?_ (And.intro ?_ ?_)); (focus (refine ⟨⟨[0, ?_, 2], ?_⟩⟩; rotate_left 1; repeat' (first | (with_reducible rfl) | exact trivial | ((conv => whnf); (first | (with_reducible refine And.intro ?_ ?_) | (first | with_reducible rfl | ((first | refine congrArg V.str ?_ | refine congrArg (V.int _) ?_ | refine congrArg V.bool ?_ | refine congrArg V.sl ?_); (first | with_reducible rfl | omega | (exact congrArg (List.map encT) (bagN_del ns _)) | (exact want_dec hc hcK) | rfl | (simp; done))) | (first | with_reducible rfl | omega | (exact congrArg (List.map encT) (bagN_del ns _)) | (exact want_dec hc hcK) | rfl | (simp; done)) | rfl)))))); (focus (exact ⟨by simp; omega, del_mem hk3⟩)); (focus (first | omega | (dsimp only; omega) | (simp; done) | (simp; omega) | (simp at *; omega))))
          | ((conv => whnf); (try (first | rfl | (exfalso; simp_all; done) | (exfalso; simp at *; omega))); done))

      · skip
        have hat : 0 ≤ (0 : Int) ∧ (0 : Int) < (ns.length : Int) := by first | (exact ⟨Int.emod_nonneg _ (by omega), by have := Int.emod_lt_of_pos ((p.toNat : Nat) : Int) (show (0 : Int) < (A : Int) - (i : Int) by omega); omega⟩) | omega
        obtain ⟨c, hc⟩ : ∃ c, ns[((0 : Int)).toNat]? = some c := ⟨_, List.getElem?_eq_getElem (by omega)⟩
        have hcK := hk3 c (List.mem_of_getElem? hc)
        have hlen : (bagN ns).length = ns.length := bagN_len ns
        have hpc := bagN_get hc
        have hn0 : (lm (c : Int)).n0 = (c : Int) := rfl
        have hr : (List.range K)[((lm (c : Int)).n0).toNat]? = some c := by rw [hn0, Int.toNat_natCast, List.getElem?_range hcK]
        have hcl : ns.count c ≤ ns.length := List.count_le_length
        repeat' ((conv => whnf); (first
         | (with_reducible first | refine AW.seq ?_ | refine AW.region base (by kernel_rfl) ?_ | refine AW.cond ?_ | refine AW.block ?_ | refine AW.ret ?_ | refine AW.exit ?_ | refine AW.skip ?_ | refine Br.t ?_ | refine Br.f ?_)
         | (with_reducible refine Br.mkT (fun hb => (by (first | (simp at hb; done) | omega | (simp only [List.length_map, decide_eq_true_eq, decide_eq_false_iff_not] at hb; omega) | fail))) (fun hb => ?_))
         | (with_reducible refine Br.mkF (fun hb => (by (first | (simp at hb; done) | omega | (simp only [List.length_map, decide_eq_true_eq, decide_eq_false_iff_not] at hb; omega) | fail))) (fun hb => ?_))
         | ((with_reducible refine Or.inl ?_); (conv => whnf); (with_reducible refine And.intro LitSl.mk ?_))
         | refine Br.t ?_
         | refine Br.f ?_
         | (with_reducible refine Or.inr ⟨[?_, ?_], _, _, _, _, bagTake_ok ((0 : Int)) (bagN ns) (by omega) (by omega) (by omega) (lm (c : Int)) (lm_ok (by omega) (by omega)) hpc, ?_⟩)
         | (with_reducible refine Or.inr (Or.inr ⟨[?_, ?_], _, _, _, _, bagTake_ok ((0 : Int)) (bagN ns) (by omega) (by omega) (by omega) (lm (c : Int)) (lm_ok (by omega) (by omega)) hpc, ?_⟩))
         | (with_reducible refine Br.mk (fun hb => ?_) (fun hb => ?_) <;> (try rw [hb]) <;> (try simp only [List.length_map, decide_eq_true_eq, decide_eq_false_iff_not, Bool.not_eq_true', Bool.not_eq_false', Int.ofNat_lt, Int.ofNat_le, Int.not_lt, Int.not_le, Int.toNat_natCast] at hb))
         | ((with_reducible first | refine Or.inl (And.intro ?_ ?_) | refine And.intro ?_ ?_); (focus (first | with_reducible rfl | exact trivial | (exact ⟨rfl, trivial⟩) | (exact ⟨rfl, rfl, trivial⟩) | omega | (intro r hr; simp only [List.mem_singleton] at hr; subst hr; rfl)  | ((simp only [in64, maxLen] at *; omega)) | ((simp only [List.length_map, List.length_range]; omega)) | ((exact ⟨by omega, by omega, by decide⟩)) | ((exact ⟨by omega, by decide⟩)) | ((simp only [List.length_map] at *; omega)) | ((exact ⟨by omega, by omega⟩)) | ((simp only [List.length_map, bagN_len, List.length_append, List.length_range, in64] at *; omega)) | (simp only [in64]; omega) | assumption | (simp; done) | (simp [V.cells]; done) | (simp [in64, maxLen, limK] at *; omega) | ((show confB _ _ = true); kernel_rfl) | rfl)))
         | (intro row hrow; (try simp only [Int.toNat_natCast, List.length_map, toNat_pred, toNat_succ', toNat_zero', toNat_one'] at hrow); (first | (have hsm := same_map (by assumption) hrow; subst hsm; clear hrow) | (obtain ⟨p, hp, rfl⟩ := of_map hrow; clear hrow)))))
        all_goals (try first | with_reducible assumption | ((first | show (_ : Int) ≤ _ | show (_ : Nat) ≤ _ | show (_ : Int) < _ | show ¬ (_ : Int) = _); (first | omega | (simp at *; omega) | (simp; done) | (simp [maxLen]; done))) | ((show in64 _); (simp only [in64] at *; (first | omega | (simp at *; omega) | (simp; done) | (simp [maxLen]; done)))) | ((with_reducible refine And.intro ?_ ?_) <;> (first | omega | (simp at *; omega) | (simp; done) | (simp [maxLen]; done))))
        all_goals (first
          | (with_reducible exact absurd rfl (by assumption))
          | ((conv => whnf); (refine ⟨(i + 1, ns.take ((0 : Int)).toNat ++ ns.drop (((0 : Int)).toNat + 1)), ?_⟩); (refine And.intro ?_ (And.intro ?_ ?_)); (focus (refine ⟨⟨[0, ?_, 2], ?_⟩⟩; rotate_left 1; repeat' (first | (with_reducible rfl) | exact trivial | ((conv => whnf); (first | (with_reducible refine And.intro ?_ ?_) | (first | with_reducible rfl | ((first | refine congrArg V.str ?_ | refine congrArg (V.int _) ?_ | refine congrArg V.bool ?_ | refine congrArg V.sl ?_); (first | with_reducible rfl | omega | (exact congrArg (List.map encT) (bagN_del ns _)) | (exact want_dec hc hcK) | rfl | (simp; done))) | (first | with_reducible rfl | omega | (exact congrArg (List.map encT) (bagN_del ns _)) | (exact want_dec hc hcK) | rfl | (simp; done)) | rfl)))))); (focus (exact ⟨by simp; omega, del_mem hk3⟩)); (focus (first | omega | (dsimp only; omega) | (simp; done) | (simp; omega) | (simp at *; omega))))
          | ((conv => whnf); (try (first | rfl | (exfalso; simp_all; done) | (exfalso; simp at *; omega))); done))

  · refine AW.loop (fun (i : Nat) => i ≤ K) (fun (i : Nat) => ⟨[(7, .ptr 0 0), (8, .int .i64 (K : Int)), (9, .own 2), (18, .int .i64 (i : Int))], [.cells [.own 1], .rows 9 ((bagN ([])).map encT), .rows 3 ((List.range K).map (cntR ([])))]⟩) (fun i => K - i) 0 ?_ ?_ ?_
    · exact Nat.zero_le _
    · (refine ⟨⟨[0, 1, 2], ?_⟩⟩; repeat' (first | (with_reducible rfl) | exact trivial | ((conv => whnf); (first | (with_reducible refine And.intro ?_ ?_) | (first | with_reducible rfl | ((first | refine congrArg V.str ?_ | refine congrArg (V.int _) ?_ | refine congrArg V.bool ?_ | refine congrArg V.sl ?_); (first | with_reducible rfl | omega | rfl | (simp; done))) | (first | with_reducible rfl | omega | rfl | (simp; done)) | rfl)))))
    · rintro i hk
      rcases (by omega : i = K ∨ i < K) with hi | hi
      · subst hi
        repeat' ((conv => whnf); (first
         | (with_reducible first | refine AW.seq ?_ | refine AW.region base (by kernel_rfl) ?_ | refine AW.cond ?_ | refine AW.block ?_ | refine AW.ret ?_ | refine AW.exit ?_ | refine AW.skip ?_ | refine Br.t ?_ | refine Br.f ?_)
         | (with_reducible refine Br.mkT (fun hb => (by (first | (simp at hb; done) | omega | (simp only [List.length_map, decide_eq_true_eq, decide_eq_false_iff_not] at hb; omega) | fail))) (fun hb => ?_))
         | (with_reducible refine Br.mkF (fun hb => (by (first | (simp at hb; done) | omega | (simp only [List.length_map, decide_eq_true_eq, decide_eq_false_iff_not] at hb; omega) | fail))) (fun hb => ?_))
         | ((with_reducible refine Or.inl ?_); (conv => whnf); (with_reducible refine And.intro LitSl.mk ?_))
         | refine Br.t ?_
         | refine Br.f ?_
         | ((with_reducible refine Or.inl ?_); (conv => whnf); (first | (with_reducible first | refine ⟨_, known8_fn, ?_⟩)))
         | (with_reducible refine Or.inr ⟨[], _, _, _, _, bagNew_fn, ?_⟩)
         | (with_reducible refine Or.inr (Or.inr ⟨[], _, _, _, _, bagNew_fn, ?_⟩))
         | (with_reducible refine Or.inr ⟨[?_, ?_], _, _, _, _, bagLen_fn ?_, ?_⟩)
         | (with_reducible refine Or.inr (Or.inr ⟨[?_, ?_], _, _, _, _, bagLen_fn ?_, ?_⟩))
         | (with_reducible refine Br.mk (fun hb => ?_) (fun hb => ?_) <;> (try rw [hb]) <;> (try simp only [List.length_map, decide_eq_true_eq, decide_eq_false_iff_not, Bool.not_eq_true', Bool.not_eq_false', Int.ofNat_lt, Int.ofNat_le, Int.not_lt, Int.not_le, Int.toNat_natCast] at hb))
         | ((with_reducible first | refine Or.inl (And.intro ?_ ?_) | refine And.intro ?_ ?_); (focus (first | with_reducible rfl | exact trivial | (exact ⟨rfl, trivial⟩) | (exact ⟨rfl, rfl, trivial⟩) | omega | (intro r hr; simp only [List.mem_singleton] at hr; subst hr; rfl)  | ((simp only [in64, maxLen] at *; omega)) | ((simp only [List.length_map, List.length_range]; omega)) | ((exact ⟨by omega, by omega, by decide⟩)) | ((exact ⟨by omega, by decide⟩)) | ((simp only [List.length_map] at *; omega)) | ((exact ⟨by omega, by omega⟩)) | ((simp only [List.length_map, bagN_len, List.length_append, List.length_range, in64] at *; omega)) | (simp only [in64]; omega) | assumption | (simp; done) | (simp [V.cells]; done) | (simp [in64, maxLen, limK] at *; omega) | ((show confB _ _ = true); kernel_rfl) | rfl)))
         | (intro row hrow; (try simp only [Int.toNat_natCast, List.length_map, toNat_pred, toNat_succ', toNat_zero', toNat_one'] at hrow); (first | (have hsm := same_map (by assumption) hrow; subst hsm; clear hrow) | (obtain ⟨p, hp, rfl⟩ := of_map hrow; clear hrow)))))
        all_goals ((conv => whnf); first | done | rfl | (refine congrArg V.bool ?_; exact decide_eq_true rfl))
      have hr : (List.range K)[(i : Int).toNat]? = some i := by rw [Int.toNat_natCast, List.getElem?_range hi]
      have hz : ((([] : List Nat).count i : Nat) : Int) = 0 := rfl
      repeat' ((conv => whnf); (first
       | (with_reducible first | refine AW.seq ?_ | refine AW.region base (by kernel_rfl) ?_ | refine AW.cond ?_ | refine AW.block ?_ | refine AW.ret ?_ | refine AW.exit ?_ | refine AW.skip ?_ | refine Br.t ?_ | refine Br.f ?_)
       | (with_reducible refine Br.mkT (fun hb => (by (first | (simp at hb; done) | omega | (simp only [List.length_map, decide_eq_true_eq, decide_eq_false_iff_not] at hb; omega) | fail))) (fun hb => ?_))
       | (with_reducible refine Br.mkF (fun hb => (by (first | (simp at hb; done) | omega | (simp only [List.length_map, decide_eq_true_eq, decide_eq_false_iff_not] at hb; omega) | fail))) (fun hb => ?_))
       | ((with_reducible refine Or.inl ?_); (conv => whnf); (with_reducible refine And.intro LitSl.mk ?_))
       | refine Br.t ?_
       | refine Br.f ?_
       | ((with_reducible refine Or.inl ?_); (conv => whnf); (first | (with_reducible first | refine ⟨_, known8_fn, ?_⟩)))
       | (with_reducible refine Or.inr ⟨[], _, _, _, _, bagNew_fn, ?_⟩)
       | (with_reducible refine Or.inr (Or.inr ⟨[], _, _, _, _, bagNew_fn, ?_⟩))
       | (with_reducible refine Or.inr ⟨[?_, ?_], _, _, _, _, bagLen_fn ?_, ?_⟩)
       | (with_reducible refine Or.inr (Or.inr ⟨[?_, ?_], _, _, _, _, bagLen_fn ?_, ?_⟩))
       | (with_reducible refine Br.mk (fun hb => ?_) (fun hb => ?_) <;> (try rw [hb]) <;> (try simp only [List.length_map, decide_eq_true_eq, decide_eq_false_iff_not, Bool.not_eq_true', Bool.not_eq_false', Int.ofNat_lt, Int.ofNat_le, Int.not_lt, Int.not_le, Int.toNat_natCast] at hb))
       | ((with_reducible first | refine Or.inl (And.intro ?_ ?_) | refine And.intro ?_ ?_); (focus (first | with_reducible rfl | exact trivial | (exact ⟨rfl, trivial⟩) | (exact ⟨rfl, rfl, trivial⟩) | omega | (intro r hr; simp only [List.mem_singleton] at hr; subst hr; rfl)  | ((simp only [in64, maxLen] at *; omega)) | ((simp only [List.length_map, List.length_range]; omega)) | ((exact ⟨by omega, by omega, by decide⟩)) | ((exact ⟨by omega, by decide⟩)) | ((simp only [List.length_map] at *; omega)) | ((exact ⟨by omega, by omega⟩)) | ((simp only [List.length_map, bagN_len, List.length_append, List.length_range, in64] at *; omega)) | (simp only [in64]; omega) | assumption | (simp; done) | (simp [V.cells]; done) | (simp [in64, maxLen, limK] at *; omega) | ((show confB _ _ = true); kernel_rfl) | rfl)))
       | (intro row hrow; (try simp only [Int.toNat_natCast, List.length_map, toNat_pred, toNat_succ', toNat_zero', toNat_one'] at hrow); (first | (have hsm := same_map (by assumption) hrow; subst hsm; clear hrow) | (obtain ⟨p, hp, rfl⟩ := of_map hrow; clear hrow)))))
      all_goals (try first | with_reducible assumption | ((first | show (_ : Int) ≤ _ | show (_ : Nat) ≤ _ | show (_ : Int) < _ | show ¬ (_ : Int) = _); (first | omega | (simp at *; omega) | (simp; done) | (simp [maxLen]; done))) | ((show in64 _); (simp only [in64] at *; (first | omega | (simp at *; omega) | (simp; done) | (simp [maxLen]; done)))) | ((with_reducible refine And.intro ?_ ?_) <;> (first | omega | (simp at *; omega) | (simp; done) | (simp [maxLen]; done))))
      all_goals (first
        | (with_reducible exact absurd rfl (by assumption))
        | ((conv => whnf); (refine ⟨(i + 1), ?_⟩); (refine And.intro ?_ (And.intro ?_ ?_)); (focus (refine ⟨⟨[0, 1, 2], ?_⟩⟩; repeat' (first | (with_reducible rfl) | exact trivial | ((conv => whnf); (first | (with_reducible refine And.intro ?_ ?_) | (first | with_reducible rfl | ((first | refine congrArg V.str ?_ | refine congrArg (V.int _) ?_ | refine congrArg V.bool ?_ | refine congrArg V.sl ?_); (first | with_reducible rfl | omega | rfl | (simp; done))) | (first | with_reducible rfl | omega | rfl | (simp; done)) | rfl)))))); (focus (show i + 1 ≤ K; omega)); (focus (first | omega | (dsimp only; omega) | (simp; done) | (simp; omega) | (simp at *; omega))))
        | ((conv => whnf); (try (first | rfl | (exfalso; simp_all; done) | (exfalso; simp at *; omega))); done))

end Go.Proofs.YtnblecdpkbempaaGreatDoor
