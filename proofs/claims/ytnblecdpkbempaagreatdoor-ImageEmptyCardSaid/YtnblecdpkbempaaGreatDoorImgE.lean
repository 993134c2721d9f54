/-
  Walks of package image: the shard of bytes; pieces. No conditions.
-/
import Derived.Test.YtnblecdpkbempaaGreatDoorImgD
namespace Go.Proofs.YtnblecdpkbempaaGreatDoor
open Go.RowKit
set_option linter.unusedSimpArgs false
set_option linter.unusedVariables false

set_option maxRecDepth 100000 in
set_option maxHeartbeats 400000 in
theorem imgRead_ok0 (s : ShV) (z : Bs) (d2 : Bool) (e e2 : Int) (hO : Fn Tryz.prog 41 [.str z] (.tup [.str (bodyS s), .str [], noErr])) (hT : FnM Tryz.prog 42 [.ptr 0 0] [.cells [.str (bodyS s), errT true true 0 0]] (.agg (encS s)) [.cells [.str [], errT true d2 e e2]]) (hB : Fn Tryz.prog 13 [.agg (encS s)] (.str z)) : Fn Tryz.prog 14 [.str z] (.tup [.agg (encS s), noErr]) := by
  refine Fn.mk' base Tryz.func14 rfl rfl rfl ?_
  repeat' ((conv => whnf); (first
   | ((with_reducible show AW _ _ _ (Code.seq (Code.region 7 _ _) _) _ _ _); (refine AW.weakC 7002 1 (v := noErr) (v' := errT true true 0 0) rfl rfl (errT_nil _ _ _) ?_))
   | ((with_reducible show AW _ _ _ (Code.seq (Code.seq (Code.region 8 _ _) _) _) _ _ _); (refine AW.weakC 7002 1 (v' := noErr) rfl rfl (fun w R ρ x hx => rep_altT hx) ?_))
   | (with_reducible first | refine AW.seq ?_ | refine AW.region base (by kernel_rfl) ?_ | refine AW.cond ?_ | refine AW.block ?_ | refine AW.ret ?_ | refine AW.exit ?_ | refine AW.skip ?_ | refine Br.t ?_ | refine Br.f ?_)
   | (with_reducible refine Br.mkT (fun hb => (by (first | (simp at hb; done) | omega | (simp only [List.length_map, decide_eq_true_eq, decide_eq_false_iff_not, Bool.not_eq_true', Bool.not_eq_false'] at hb; first | omega | exact absurd rfl hb | exact absurd hb hx | fail) | fail))) (fun hb => ?_))
   | (with_reducible refine Br.mkF (fun hb => (by (first | (simp at hb; done) | omega | (simp only [List.length_map, decide_eq_true_eq, decide_eq_false_iff_not, Bool.not_eq_true', Bool.not_eq_false'] at hb; first | omega | exact absurd rfl hb | exact absurd hb hx | fail) | fail))) (fun hb => ?_))
   | ((with_reducible refine Or.inl ?_); (conv => whnf); (with_reducible refine And.intro LitSl.mk ?_))
   | refine Br.t ?_
   | refine Br.f ?_
   | ((with_reducible refine Or.inl ?_); (conv => whnf); (first | (with_reducible first | refine ⟨_, hO, ?_⟩ | refine ⟨_, isE_nil _, ?_⟩ | refine ⟨_, hB, ?_⟩)))
   | (with_reducible refine Or.inr ⟨[?_], _, _, _, _, hT, ?_⟩)
   | (with_reducible refine Or.inr (Or.inr ⟨[?_], _, _, _, _, hT, ?_⟩))
   | (with_reducible refine Br.mk (fun hb => ?_) (fun hb => ?_) <;> (try rw [hb]) <;> (try simp only [List.length_map, decide_eq_true_eq, decide_eq_false_iff_not, Bool.not_eq_true', Bool.not_eq_false', Int.ofNat_lt, Int.ofNat_le, Int.not_lt, Int.not_le, Int.toNat_natCast] at hb))
   | ((with_reducible first | refine Or.inl (And.intro ?_ ?_) | refine And.intro ?_ ?_); (focus (first | with_reducible rfl | exact trivial | (exact ⟨rfl, trivial⟩) | (exact ⟨rfl, rfl, trivial⟩) | omega | (intro r hr; simp only [List.mem_singleton] at hr; subst hr; rfl)  | ((simp only [in64, maxLen] at *; omega)) | (simp only [in64]; omega) | assumption | (simp; done) | (simp [V.cells]; done) | (simp [in64, maxLen, limK] at *; omega) | ((show confB _ _ = true); kernel_rfl) | rfl)))
   | (intro row hrow; (try simp only [Int.toNat_natCast, List.length_map, toNat_pred, toNat_succ', toNat_zero', toNat_one'] at hrow); (first | (have hsm := same_map (by assumption) hrow; subst hsm; clear hrow) | (obtain ⟨p, hp, rfl⟩ := of_map hrow; clear hrow)))))
  all_goals (conv => whnf)
  all_goals (first | rfl | (simp only [V.bool.injEq, V.tup.injEq, V.agg.injEq, V.str.injEq, V.int.injEq, V.sl.injEq, V.ifc.injEq, List.cons.injEq, and_true, true_and, and_self]; done) | (simp only [V.bool.injEq, V.tup.injEq, V.agg.injEq, V.str.injEq, V.int.injEq, V.sl.injEq, V.ifc.injEq, List.cons.injEq, and_true, true_and, and_self]; grind) | (simp  at *; done) | (simp  at *; grind))

set_option maxRecDepth 100000 in
set_option maxHeartbeats 400000 in
theorem imgRead_more0 (s : ShV) (z x : Bs) (hx : ¬ x = []) (hO : Fn Tryz.prog 41 [.str z] (.tup [.str (bodyS s), .str x, noErr])) : Fn Tryz.prog 14 [.str z] (.tup [.agg [.int .i64 0, .int .i64 0, .str [], .str [], .bool false, .nils, .nils, .nils], errV [] 10]) := by
  refine Fn.mk' base Tryz.func14 rfl rfl rfl ?_
  repeat' ((conv => whnf); (first
   | (with_reducible first | refine AW.seq ?_ | refine AW.region base (by kernel_rfl) ?_ | refine AW.cond ?_ | refine AW.block ?_ | refine AW.ret ?_ | refine AW.exit ?_ | refine AW.skip ?_ | refine Br.t ?_ | refine Br.f ?_)
   | (with_reducible refine Br.mkT (fun hb => (by (first | (simp at hb; done) | omega | (simp only [List.length_map, decide_eq_true_eq, decide_eq_false_iff_not, Bool.not_eq_true', Bool.not_eq_false'] at hb; first | omega | exact absurd rfl hb | exact absurd hb hx | fail) | fail))) (fun hb => ?_))
   | (with_reducible refine Br.mkF (fun hb => (by (first | (simp at hb; done) | omega | (simp only [List.length_map, decide_eq_true_eq, decide_eq_false_iff_not, Bool.not_eq_true', Bool.not_eq_false'] at hb; first | omega | exact absurd rfl hb | exact absurd hb hx | fail) | fail))) (fun hb => ?_))
   | ((with_reducible refine Or.inl ?_); (conv => whnf); (with_reducible refine And.intro LitSl.mk ?_))
   | refine Br.t ?_
   | refine Br.f ?_
   | ((with_reducible refine Or.inl ?_); (conv => whnf); (first | (with_reducible first | refine ⟨_, hO, ?_⟩)))
   | (with_reducible refine Br.mk (fun hb => ?_) (fun hb => ?_) <;> (try rw [hb]) <;> (try simp only [List.length_map, decide_eq_true_eq, decide_eq_false_iff_not, Bool.not_eq_true', Bool.not_eq_false', Int.ofNat_lt, Int.ofNat_le, Int.not_lt, Int.not_le, Int.toNat_natCast] at hb))
   | ((with_reducible first | refine Or.inl (And.intro ?_ ?_) | refine And.intro ?_ ?_); (focus (first | with_reducible rfl | exact trivial | (exact ⟨rfl, trivial⟩) | (exact ⟨rfl, rfl, trivial⟩) | omega | (intro r hr; simp only [List.mem_singleton] at hr; subst hr; rfl)  | ((simp only [in64, maxLen] at *; omega)) | (simp only [in64]; omega) | assumption | (simp; done) | (simp [V.cells]; done) | (simp [in64, maxLen, limK] at *; omega) | ((show confB _ _ = true); kernel_rfl) | rfl)))
   | (intro row hrow; (try simp only [Int.toNat_natCast, List.length_map, toNat_pred, toNat_succ', toNat_zero', toNat_one'] at hrow); (first | (have hsm := same_map (by assumption) hrow; subst hsm; clear hrow) | (obtain ⟨p, hp, rfl⟩ := of_map hrow; clear hrow)))))
  all_goals (conv => whnf)
  all_goals (first | rfl | (simp only [V.bool.injEq, V.tup.injEq, V.agg.injEq, V.str.injEq, V.int.injEq, V.sl.injEq, V.ifc.injEq, List.cons.injEq, and_true, true_and, and_self, errV]; done) | (simp only [V.bool.injEq, V.tup.injEq, V.agg.injEq, V.str.injEq, V.int.injEq, V.sl.injEq, V.ifc.injEq, List.cons.injEq, and_true, true_and, and_self, errV]; grind) | (simp [errV] at *; done) | (simp [errV] at *; grind))

theorem open_wrapped (t x : Bs) (h : t.length ≤ 200000) (hx : x.length ≤ 500000) : Fn Tryz.prog 41 [.str (wrap t ++ x)] (.tup [.str t, .str x, noErr]) := by
  have h1 := open_fn (wrap t ++ x) (by rw [List.length_append, wrap_len]; have := text_len8 t (by omega); omega)
  rw [openT_wrap t x h] at h1
  exact h1.res fun w R x hx => rep_tup3 hx fun y hy => rep_altT hy
theorem imgRead_of (s : ShV) (h : shB s = true) (hc : s.cs.length ≤ 30) : Fn Tryz.prog 14 [.str (bytesS s)] (.tup [.agg (encS s), noErr]) := by
  have hl := bodyS_len (shOk h) hc
  have hO := open_wrapped (bodyS s) [] (by omega) (by simp)
  rw [List.append_nil] at hO
  obtain ⟨⟨ts, tb, d2, e, e2⟩, h1, h2, _, hT⟩ := imgTake_fn s h hc
  cases h1
  cases h2
  exact imgRead_ok0 s (bytesS s) d2 e e2 hO hT (imgBytes_ok s h hc)
theorem imgRead_more (s : ShV) (h : shB s = true) (hc : s.cs.length ≤ 30) (x : Bs) (hx : ¬ x = []) (hl : x.length ≤ 500000) : Fn Tryz.prog 14 [.str (bytesS s ++ x)] (.tup [.agg [.int .i64 0, .int .i64 0, .str [], .str [], .bool false, .nils, .nils, .nils], errV [] 10]) :=
  imgRead_more0 s (bytesS s ++ x) x hx (open_wrapped (bodyS s) x (by have := bodyS_len (shOk h) hc; omega) hl)
theorem bytesS_inj {s t : ShV} (hs : shB s = true) (ht : shB t = true) (hc : s.cs.length ≤ 30) (hd : t.cs.length ≤ 30) (h : bytesS s = bytesS t) : s = t := by
  have h1 := openT_wrap (bodyS s) [] (by have := bodyS_len (shOk hs) hc; omega)
  have h2 := openT_wrap (bodyS t) [] (by have := bodyS_len (shOk ht) hd; omega)
  have e : wrap (bodyS s) = wrap (bodyS t) := h
  rw [e, h2] at h1
  have hb : bodyS t = bodyS s := (Prod.mk.inj h1).2
  obtain ⟨_, _, _, r1, _⟩ := imgTake_fn s hs hc
  obtain ⟨_, _, _, r2, _⟩ := imgTake_fn t ht hd
  rw [← r1, ← r2, hb]
def piecesF : Nat → Bs → List Bs
  | 0, _ => []
  | n + 1, b => if b = [] then [] else b.take 64 :: piecesF n (b.drop 64)
def pieces (b : Bs) : List Bs := piecesF b.length b
theorem piecesF_any : ∀ (n m : Nat) (b : Bs), b.length ≤ n → b.length ≤ m → piecesF n b = piecesF m b
  | 0, m, b, h, _ => by
    have : b = [] := List.length_eq_zero_iff.1 (by omega)
    subst this; cases m <;> simp [piecesF]
  | n + 1, 0, b, _, h => by
    have : b = [] := List.length_eq_zero_iff.1 (by omega)
    subst this; simp [piecesF]
  | n + 1, m + 1, b, h, k => by
    rw [piecesF, piecesF]
    by_cases hb : b = []
    · rw [if_pos hb, if_pos hb]
    · have : 0 < b.length := List.length_pos_iff.2 hb
      rw [if_neg hb, if_neg hb, piecesF_any n m (b.drop 64) (by rw [List.length_drop]; omega) (by rw [List.length_drop]; omega)]
theorem pieces_nil : pieces [] = [] := rfl
theorem pieces_step {b : Bs} (hb : ¬ b = []) : pieces b = b.take 64 :: pieces (b.drop 64) := by
  have : 0 < b.length := List.length_pos_iff.2 hb
  unfold pieces
  obtain ⟨n, hn⟩ : ∃ n, b.length = n + 1 := ⟨b.length - 1, by omega⟩
  rw [hn, piecesF, if_neg hb, piecesF_any n (b.drop 64).length (b.drop 64) (by rw [List.length_drop]; omega) (Nat.le_refl _)]
theorem piecesF_flat : ∀ (n : Nat) (b : Bs), b.length ≤ n → (piecesF n b).flatten = b ∧ (piecesF n b).length ≤ b.length
  | 0, b, h => by
    have : b = [] := List.length_eq_zero_iff.1 (by omega)
    subst this; simp [piecesF]
  | n + 1, b, h => by
    rw [piecesF]
    by_cases hb : b = []
    · rw [if_pos hb, hb]; simp
    · have hp : 0 < b.length := List.length_pos_iff.2 hb
      obtain ⟨h1, h2⟩ := piecesF_flat n (b.drop 64) (by rw [List.length_drop]; omega)
      rw [if_neg hb, List.flatten_cons, h1, List.take_append_drop, List.length_cons]
      rw [List.length_drop] at h2
      exact ⟨rfl, by omega⟩
theorem pieces_flat (b : Bs) : (pieces b).flatten = b := (piecesF_flat _ b (Nat.le_refl _)).1
theorem pieces_le (b : Bs) : (pieces b).length ≤ b.length := (piecesF_flat _ b (Nat.le_refl _)).2
theorem cut_lo (b : Bs) : List.drop 0 (List.take (min (b.length : Int) 64).toNat b) = b.take 64 := by
  rw [List.drop_zero]
  rcases Nat.le_total b.length 64 with h | h
  · rw [Int.min_eq_left (by omega), Int.toNat_natCast, List.take_length, List.take_of_length_le h]
  · rw [Int.min_eq_right (by omega)]; rfl
theorem cut_hi (b : Bs) : List.drop (min (b.length : Int) 64).toNat (List.take b.length b) = b.drop 64 := by
  rw [List.take_length]
  rcases Nat.le_total b.length 64 with h | h
  · rw [Int.min_eq_left (by omega), Int.toNat_natCast, List.drop_length, List.drop_of_length_le h]
  · rw [Int.min_eq_right (by omega)]; rfl

set_option maxRecDepth 100000 in
set_option maxHeartbeats 1000000 in
theorem pieces_fn (b0 : Bs) (hl : b0.length ≤ 1000000) : Fn Tryz.prog 16 [.str b0] (.sl ((pieces b0).map encT)) := by
  refine Fn.mk' base Tryz.func16 rfl rfl rfl ?_
  repeat' ((conv => whnf); (first
   | (with_reducible first | refine AW.seq ?_ | refine AW.region base (by kernel_rfl) ?_ | refine AW.cond ?_ | refine AW.block ?_ | refine AW.ret ?_ | refine AW.exit ?_ | refine AW.skip ?_ | refine Br.t ?_ | refine Br.f ?_)
   | ((with_reducible refine Or.inl ?_); (conv => whnf); (with_reducible refine And.intro LitSl.mk ?_))
   | refine Br.t ?_
   | refine Br.f ?_
   | (with_reducible refine Br.mk (fun hb => ?_) (fun hb => ?_) <;> (try rw [hb]) <;> (try simp only [List.length_map, decide_eq_true_eq, decide_eq_false_iff_not, Bool.not_eq_true', Bool.not_eq_false', Int.ofNat_lt, Int.ofNat_le, Int.not_lt, Int.not_le, Int.toNat_natCast] at hb))
   | ((with_reducible first | refine Or.inl (And.intro ?_ ?_) | refine And.intro ?_ ?_); (focus (first | with_reducible rfl | exact trivial | (exact ⟨rfl, trivial⟩) | (exact ⟨rfl, rfl, trivial⟩) | omega | (intro r hr; simp only [List.mem_singleton] at hr; subst hr; rfl)  | ((simp only [in64, maxLen] at *; omega)) | ((simp only [List.length_map, List.length_cons, List.length_nil]; omega)) | ((exact ⟨by omega, by omega⟩)) | ((intro r hr; simp only [List.mem_cons, List.not_mem_nil, or_false] at hr; subst hr; rfl)) | (simp only [in64]; omega) | assumption | (simp; done) | (simp [V.cells]; done) | (simp [in64, maxLen, limK] at *; omega) | ((show confB _ _ = true); kernel_rfl) | rfl)))
   | (intro row hrow; (try simp only [Int.toNat_natCast, List.length_map, toNat_pred, toNat_succ', toNat_zero', toNat_one'] at hrow); (first | (have hsm := same_map (by assumption) hrow; subst hsm; clear hrow) | (obtain ⟨p, hp, rfl⟩ := of_map hrow; clear hrow)))))
  refine AW.adopt 3 999999999 (el := 9) rfl rfl (rows_of 37 rfl) ?_
  refine AW.loop (fun (⟨acc, b⟩ : List Bs × Bs) => pieces b0 = acc ++ pieces b ∧ acc.length + b.length ≤ b0.length) (fun (⟨acc, b⟩ : List Bs × Bs) => ⟨[(0, .str b), (3, .own 0)], [.rows 9 (acc.map encT)]⟩) (fun (⟨acc, b⟩ : List Bs × Bs) => b.length) ([], b0) ?_ ?_ ?_
  · exact ⟨rfl, by simp⟩
  · (refine ⟨⟨[999999999], ?_⟩⟩; repeat' (first | (with_reducible rfl) | exact trivial | ((conv => whnf); (first | (with_reducible refine And.intro ?_ ?_) | (first | with_reducible rfl | ((first | refine congrArg V.str ?_ | refine congrArg (V.int _) ?_ | refine congrArg V.bool ?_ | refine congrArg V.sl ?_); (first | with_reducible rfl | omega | rfl | (simp; done))) | (first | with_reducible rfl | omega | rfl | (simp; done)) | rfl)))))
  · rintro ⟨acc, b⟩ hk
    obtain ⟨hk1, hk2⟩ := hk
    by_cases hz : b = []
    · subst hz
      rw [pieces_nil, List.append_nil] at hk1
      repeat' ((conv => whnf); (first
       | (with_reducible first | refine AW.seq ?_ | refine AW.region base (by kernel_rfl) ?_ | refine AW.cond ?_ | refine AW.block ?_ | refine AW.ret ?_ | refine AW.exit ?_ | refine AW.skip ?_ | refine Br.t ?_ | refine Br.f ?_)
       | (with_reducible refine Br.mkT (fun hb => (by (first | (simp at hb; done) | omega | (simp only [decide_eq_true_eq, decide_eq_false_iff_not, Bool.not_eq_true', Bool.not_eq_false'] at hb; first | omega | exact absurd hb hz | exact absurd hz hb | fail) | fail))) (fun hb => ?_))
       | (with_reducible refine Br.mkF (fun hb => (by (first | (simp at hb; done) | omega | (simp only [decide_eq_true_eq, decide_eq_false_iff_not, Bool.not_eq_true', Bool.not_eq_false'] at hb; first | omega | exact absurd hb hz | exact absurd hz hb | fail) | fail))) (fun hb => ?_))
       | ((with_reducible refine Or.inl ?_); (conv => whnf); (with_reducible refine And.intro LitSl.mk ?_))
       | refine Br.t ?_
       | refine Br.f ?_
       | (with_reducible refine Br.mk (fun hb => ?_) (fun hb => ?_) <;> (try rw [hb]) <;> (try simp only [List.length_map, decide_eq_true_eq, decide_eq_false_iff_not, Bool.not_eq_true', Bool.not_eq_false', Int.ofNat_lt, Int.ofNat_le, Int.not_lt, Int.not_le, Int.toNat_natCast] at hb))
       | ((with_reducible first | refine Or.inl (And.intro ?_ ?_) | refine And.intro ?_ ?_); (focus (first | with_reducible rfl | exact trivial | (exact ⟨rfl, trivial⟩) | (exact ⟨rfl, rfl, trivial⟩) | omega | (intro r hr; simp only [List.mem_singleton] at hr; subst hr; rfl)  | ((simp only [in64, maxLen] at *; omega)) | ((simp only [List.length_map, List.length_cons, List.length_nil]; omega)) | ((exact ⟨by omega, by omega⟩)) | ((intro r hr; simp only [List.mem_cons, List.not_mem_nil, or_false] at hr; subst hr; rfl)) | (simp only [in64]; omega) | assumption | (simp; done) | (simp [V.cells]; done) | (simp [in64, maxLen, limK] at *; omega) | ((show confB _ _ = true); kernel_rfl) | rfl)))
       | (intro row hrow; (try simp only [Int.toNat_natCast, List.length_map, toNat_pred, toNat_succ', toNat_zero', toNat_one'] at hrow); (first | (have hsm := same_map (by assumption) hrow; subst hsm; clear hrow) | (obtain ⟨p, hp, rfl⟩ := of_map hrow; clear hrow)))))
      all_goals ((conv => whnf); first | done | (rw [hk1]; rfl) | (rw [hk1]))
    · rw [pieces_step hz] at hk1
      have hbp : 0 < b.length := List.length_pos_iff.2 hz
      have hlo := cut_lo b
      have hhi := cut_hi b
      have hm1 : 0 ≤ min (b.length : Int) 64 := by omega
      have hm2 : min (b.length : Int) 64 ≤ b.length := by omega
      repeat' ((conv => whnf); (first
       | (with_reducible first | refine AW.seq ?_ | refine AW.region base (by kernel_rfl) ?_ | refine AW.cond ?_ | refine AW.block ?_ | refine AW.ret ?_ | refine AW.exit ?_ | refine AW.skip ?_ | refine Br.t ?_ | refine Br.f ?_)
       | (with_reducible refine Br.mkT (fun hb => (by (first | (simp at hb; done) | omega | (simp only [decide_eq_true_eq, decide_eq_false_iff_not, Bool.not_eq_true', Bool.not_eq_false'] at hb; first | omega | exact absurd hb hz | exact absurd hz hb | fail) | fail))) (fun hb => ?_))
       | (with_reducible refine Br.mkF (fun hb => (by (first | (simp at hb; done) | omega | (simp only [decide_eq_true_eq, decide_eq_false_iff_not, Bool.not_eq_true', Bool.not_eq_false'] at hb; first | omega | exact absurd hb hz | exact absurd hz hb | fail) | fail))) (fun hb => ?_))
       | ((with_reducible refine Or.inl ?_); (conv => whnf); (with_reducible refine And.intro LitSl.mk ?_))
       | refine Br.t ?_
       | refine Br.f ?_
       | (with_reducible refine Br.mk (fun hb => ?_) (fun hb => ?_) <;> (try rw [hb]) <;> (try simp only [List.length_map, decide_eq_true_eq, decide_eq_false_iff_not, Bool.not_eq_true', Bool.not_eq_false', Int.ofNat_lt, Int.ofNat_le, Int.not_lt, Int.not_le, Int.toNat_natCast] at hb))
       | ((with_reducible first | refine Or.inl (And.intro ?_ ?_) | refine And.intro ?_ ?_); (focus (first | with_reducible rfl | exact trivial | (exact ⟨rfl, trivial⟩) | (exact ⟨rfl, rfl, trivial⟩) | omega | (intro r hr; simp only [List.mem_singleton] at hr; subst hr; rfl)  | ((simp only [in64, maxLen] at *; omega)) | ((simp only [List.length_map, List.length_cons, List.length_nil]; omega)) | ((exact ⟨by omega, by omega⟩)) | ((intro r hr; simp only [List.mem_cons, List.not_mem_nil, or_false] at hr; subst hr; rfl)) | (simp only [in64]; omega) | assumption | (simp; done) | (simp [V.cells]; done) | (simp [in64, maxLen, limK] at *; omega) | ((show confB _ _ = true); kernel_rfl) | rfl)))
       | (intro row hrow; (try simp only [Int.toNat_natCast, List.length_map, toNat_pred, toNat_succ', toNat_zero', toNat_one'] at hrow); (first | (have hsm := same_map (by assumption) hrow; subst hsm; clear hrow) | (obtain ⟨p, hp, rfl⟩ := of_map hrow; clear hrow)))))
      all_goals (try first | with_reducible assumption | ((first | show (_ : Int) ≤ _ | show (_ : Nat) ≤ _ | show (_ : Int) < _ | show ¬ (_ : Int) = _); (first | omega | (simp at *; omega) | (simp; done) | (simp [maxLen]; done))) | ((show in64 _); (simp only [in64] at *; (first | omega | (simp at *; omega) | (simp; done) | (simp [maxLen]; done)))) | ((with_reducible refine And.intro ?_ ?_) <;> (first | omega | (simp at *; omega) | (simp; done) | (simp [maxLen]; done))))
      all_goals (first
        | (with_reducible exact absurd rfl (by assumption))
        | ((conv => whnf); (refine ⟨((acc ++ [b.take 64], b.drop 64) : List Bs × Bs), ?_⟩); (refine And.intro ?_ (And.intro ?_ ?_)); (focus (refine ⟨⟨[?_], ?_⟩⟩; rotate_left 1; repeat' (first | (with_reducible rfl) | exact trivial | ((conv => whnf); (first | (with_reducible refine And.intro ?_ ?_) | (first | with_reducible rfl | ((first | refine congrArg V.str ?_ | refine congrArg (V.int _) ?_ | refine congrArg V.bool ?_ | refine congrArg V.sl ?_); (first | with_reducible rfl | omega | (rw [hhi]; done) | exact hhi | (rw [List.map_append, ← hlo]; rfl) | (rw [List.map_append, hlo]; rfl) | rfl | (simp; done))) | (first | with_reducible rfl | omega | (rw [hhi]; done) | exact hhi | (rw [List.map_append, ← hlo]; rfl) | (rw [List.map_append, hlo]; rfl) | rfl | (simp; done)) | rfl)))))); (focus (exact ⟨by rw [hk1]; simp, by simp; omega⟩)); (focus (first | omega | (dsimp only; omega) | (simp; done) | (simp; omega) | (simp at *; omega))))
        | ((conv => whnf); (try (first | rfl | (exfalso; simp_all; done) | (exfalso; simp at *; omega))); done))


set_option maxRecDepth 100000 in
set_option maxHeartbeats 400000 in
theorem imgJoin_fn (l : List Bs) (h0 : 0 < l.length) (hl : l.flatten.length ≤ 1000000) (hn : l.length ≤ 1000000) : Fn Tryz.prog 15 [.sl (l.map encT)] (.str l.flatten) := by
  refine Fn.mk' base Tryz.func15 rfl rfl rfl ?_
  repeat' ((conv => whnf); (first
   | (with_reducible first | refine AW.seq ?_ | refine AW.region base (by kernel_rfl) ?_ | refine AW.cond ?_ | refine AW.block ?_ | refine AW.ret ?_ | refine AW.exit ?_ | refine AW.skip ?_ | refine Br.t ?_ | refine Br.f ?_)
   | ((with_reducible refine Or.inl ?_); (conv => whnf); (with_reducible refine And.intro LitSl.mk ?_))
   | refine Br.t ?_
   | refine Br.f ?_
   | ((with_reducible refine Or.inl ?_); (conv => whnf); (first | (with_reducible first | refine ⟨_, join_fn l h0 hl hn, ?_⟩)))
   | (with_reducible refine Br.mk (fun hb => ?_) (fun hb => ?_) <;> (try rw [hb]) <;> (try simp only [List.length_map, decide_eq_true_eq, decide_eq_false_iff_not, Bool.not_eq_true', Bool.not_eq_false', Int.ofNat_lt, Int.ofNat_le, Int.not_lt, Int.not_le, Int.toNat_natCast] at hb))
   | ((with_reducible first | refine Or.inl (And.intro ?_ ?_) | refine And.intro ?_ ?_); (focus (first | with_reducible rfl | exact trivial | (exact ⟨rfl, trivial⟩) | (exact ⟨rfl, rfl, trivial⟩) | omega | (intro r hr; simp only [List.mem_singleton] at hr; subst hr; rfl)  | ((simp only [in64, maxLen] at *; omega)) | (simp only [in64]; omega) | assumption | (simp; done) | (simp [V.cells]; done) | (simp [in64, maxLen, limK] at *; omega) | ((show confB _ _ = true); kernel_rfl) | rfl)))
   | (intro row hrow; (try simp only [Int.toNat_natCast, List.length_map, toNat_pred, toNat_succ', toNat_zero', toNat_one'] at hrow); (first | (have hsm := same_map (by assumption) hrow; subst hsm; clear hrow) | (obtain ⟨p, hp, rfl⟩ := of_map hrow; clear hrow)))))
  all_goals (conv => whnf)
  all_goals (first | rfl | (simp only [V.bool.injEq, V.tup.injEq, V.agg.injEq, V.str.injEq, V.int.injEq, V.sl.injEq, V.ifc.injEq, List.cons.injEq, and_true, true_and, and_self]; done) | (simp only [V.bool.injEq, V.tup.injEq, V.agg.injEq, V.str.injEq, V.int.injEq, V.sl.injEq, V.ifc.injEq, List.cons.injEq, and_true, true_and, and_self]; grind) | (simp  at *; done) | (simp  at *; grind))

theorem imgJoin_of (b : Bs) (h0 : ¬ b = []) (hl : b.length ≤ 1000000) : Fn Tryz.prog 15 [.sl ((pieces b).map encT)] (.str b) := by
  have h := imgJoin_fn (pieces b) (by rw [pieces_step h0]; simp) (by rw [pieces_flat]; exact hl) (Nat.le_trans (pieces_le b) hl)
  rw [pieces_flat] at h; exact h
end Go.Proofs.YtnblecdpkbempaaGreatDoor
