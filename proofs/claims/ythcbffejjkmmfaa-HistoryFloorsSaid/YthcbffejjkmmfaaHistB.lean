/-
  Walks of package history and of its reference: what is kept, one more, what comes after; a cell in its place. No conditions.
-/
import Derived.Test.YthcbffejjkmmfaaHistA
namespace Go.Proofs.Ythcbffejjkmmfaa
open Go.RowKit
set_option linter.unusedSimpArgs false
set_option linter.unusedVariables false

set_option maxRecDepth 100000 in
set_option maxHeartbeats 400000 in
theorem indexWithin_fn (c : List Cel) (s : Span) (hl : c.length ≤ 1000000) : Fn Try.prog 43 [.sl (c.map encC), .agg [.str s.f, .str s.t]] (.sl ((c.filter fun x => hasB s x.k).map encC)) := by
  refine Fn.mk' base Try.func43 rfl rfl rfl ?_
  repeat' (first
      | (with_reducible refine AW.seq ?_) | (with_reducible refine AW.region base (by kernel_rfl) ?_) | (with_reducible refine AW.cond ?_) | (with_reducible refine AW.block ?_) | (with_reducible refine AW.ret ?_) | (with_reducible refine AW.exit ?_) | (with_reducible refine AW.skip ?_)
      | ((conv => whnf); (first
         | (with_reducible refine Br.t ?_)
         | (with_reducible refine Br.f ?_)
         | ((with_reducible refine Or.inl ?_); (conv => whnf); (with_reducible refine And.intro LitSl.mk ?_))
         | (refine Br.t ?_)
         | (refine Br.f ?_)
         | (with_reducible refine Br.mk (fun hb => ?_) (fun hb => ?_) <;> (try rw [hb]) <;> (try simp only [List.length_map, decide_eq_true_eq, decide_eq_false_iff_not, Bool.not_eq_true', Bool.not_eq_false', Int.ofNat_lt, Int.ofNat_le, Int.not_lt, Int.not_le, Int.toNat_natCast] at hb))
         | (with_reducible refine ⟨_, (by first | exact ByteRows.map _ | (repeat (first | exact ByteRows.nil | exact ByteRows.map _ | refine ByteRows.cons ?_ | refine ByteRows.app ?_ ?_))), ?_⟩)
         | (refine Exists.intro _ (And.intro (ByteRows.rep _) ?_))
         | (refine Exists.intro _ (And.intro (ByteRows.app (ByteRows.map _) (ByteRows.cons ByteRows.nil)) ?_))
         | ((with_reducible refine Or.inl (And.intro ?_ ?_)); (focus (first | with_reducible rfl | exact trivial | (exact ⟨rfl, trivial⟩) | (exact ⟨rfl, rfl, trivial⟩) | omega | (intro r hr; simp only [List.mem_singleton] at hr; subst hr; rfl)  | ((simp only [List.length_map] at *; omega)) | ((simp only [List.length_map, List.length_cons, List.length_nil]; have hfl := fst_length c i (fun x => hasB s x.k); omega)) | ((intro r hr; exact rows_len (fun _ => rfl) _ r hr)) | (simp only [in64]; omega) | assumption | (simp; done) | (simp [V.cells]; done) | (simp [in64, maxLen, limK] at *; omega) | ((show confB _ _ = true); kernel_rfl) | rfl)))
         | ((with_reducible refine And.intro ?_ ?_); (focus (first | with_reducible rfl | exact trivial | (exact ⟨rfl, trivial⟩) | (exact ⟨rfl, rfl, trivial⟩) | omega | (intro r hr; simp only [List.mem_singleton] at hr; subst hr; rfl)  | ((simp only [List.length_map] at *; omega)) | ((simp only [List.length_map, List.length_cons, List.length_nil]; have hfl := fst_length c i (fun x => hasB s x.k); omega)) | ((intro r hr; exact rows_len (fun _ => rfl) _ r hr)) | (simp only [in64]; omega) | assumption | (simp; done) | (simp [V.cells]; done) | (simp [in64, maxLen, limK] at *; omega) | ((show confB _ _ = true); kernel_rfl) | rfl)))
         | (intro row hrow; (try simp only [Int.toNat_natCast, List.length_map, toNat_pred, toNat_succ', toNat_zero', toNat_one'] at hrow); (first | (have hsm := same_map (by assumption) hrow; subst hsm; clear hrow) | (obtain ⟨p, hp, rfl⟩ := of_map hrow; clear hrow)))
         | (with_reducible refine AW.seq ?_) | (with_reducible refine AW.region base (by kernel_rfl) ?_) | (with_reducible refine AW.cond ?_) | (with_reducible refine AW.block ?_) | (with_reducible refine AW.ret ?_) | (with_reducible refine AW.exit ?_) | (with_reducible refine AW.skip ?_))))
  refine AW.adopt 5 999999999 (el := 43) rfl rfl (rows_of 41 rfl) ?_
  refine AW.loop (fun (i : Nat) => i ≤ c.length) (fun (i : Nat) => ⟨[(3, .ptr 0 0), (5, .own 1), (8, .sl (c.map encC)), (9, .int .i64 ((c.map encC).length : Int)), (10, .int .i64 (i : Int))], [.cells [.str s.f, .str s.t], .rows 43 (((c.take i).filter fun x => hasB s x.k).map encC)]⟩) (fun (i : Nat) => c.length - i) 0 ?_ ?_ ?_
  · omega
  · (refine ⟨⟨[1000, 999999999], ?_⟩⟩; repeat' (first | (with_reducible rfl) | exact trivial | ((conv => whnf); (first | (with_reducible refine And.intro ?_ ?_) | (first | with_reducible rfl | (refine congrArg V.str ?_; (first | with_reducible rfl | omega | (simp [take_get hp, hb, V.cells]; done) | rfl | (simp; done))) | (refine congrArg (V.int _) ?_; (first | with_reducible rfl | omega | (simp [take_get hp, hb, V.cells]; done) | rfl | (simp; done))) | (refine congrArg V.bool ?_; (first | with_reducible rfl | omega | (simp [take_get hp, hb, V.cells]; done) | rfl | (simp; done))) | (refine congrArg V.sl ?_; (first | with_reducible rfl | omega | (simp [take_get hp, hb, V.cells]; done) | rfl | (simp; done))) | (first | with_reducible rfl | omega | (simp [take_get hp, hb, V.cells]; done) | rfl | (simp; done)) | rfl)))))
  · rintro i hk
    repeat' (first
        | (with_reducible refine AW.seq ?_) | (with_reducible refine AW.region base (by kernel_rfl) ?_) | (with_reducible refine AW.cond ?_) | (with_reducible refine AW.block ?_) | (with_reducible refine AW.ret ?_) | (with_reducible refine AW.exit ?_) | (with_reducible refine AW.skip ?_)
        | ((conv => whnf); (first
           | (with_reducible refine Br.t ?_)
           | (with_reducible refine Br.f ?_)
           | ((with_reducible refine Or.inl ?_); (conv => whnf); (with_reducible refine And.intro LitSl.mk ?_))
           | (refine Br.t ?_)
           | (refine Br.f ?_)
           | (with_reducible refine Or.inl ⟨_, has_fn s _, ?_⟩)
           | ((with_reducible refine Or.inl ?_); (conv => whnf); (with_reducible refine ⟨_, has_fn s _, ?_⟩))
           | (with_reducible refine Br.mk (fun hb => ?_) (fun hb => ?_) <;> (try rw [hb]) <;> (try simp only [List.length_map, decide_eq_true_eq, decide_eq_false_iff_not, Bool.not_eq_true', Bool.not_eq_false', Int.ofNat_lt, Int.ofNat_le, Int.not_lt, Int.not_le, Int.toNat_natCast] at hb))
           | (with_reducible refine ⟨_, (by first | exact ByteRows.map _ | (repeat (first | exact ByteRows.nil | exact ByteRows.map _ | refine ByteRows.cons ?_ | refine ByteRows.app ?_ ?_))), ?_⟩)
           | (refine Exists.intro _ (And.intro (ByteRows.rep _) ?_))
           | (refine Exists.intro _ (And.intro (ByteRows.app (ByteRows.map _) (ByteRows.cons ByteRows.nil)) ?_))
           | ((with_reducible refine Or.inl (And.intro ?_ ?_)); (focus (first | with_reducible rfl | exact trivial | (exact ⟨rfl, trivial⟩) | (exact ⟨rfl, rfl, trivial⟩) | omega | (intro r hr; simp only [List.mem_singleton] at hr; subst hr; rfl)  | ((simp only [List.length_map] at *; omega)) | ((simp only [List.length_map, List.length_cons, List.length_nil]; have hfl := fst_length c i (fun x => hasB s x.k); omega)) | ((intro r hr; exact rows_len (fun _ => rfl) _ r hr)) | (simp only [in64]; omega) | assumption | (simp; done) | (simp [V.cells]; done) | (simp [in64, maxLen, limK] at *; omega) | ((show confB _ _ = true); kernel_rfl) | rfl)))
           | ((with_reducible refine And.intro ?_ ?_); (focus (first | with_reducible rfl | exact trivial | (exact ⟨rfl, trivial⟩) | (exact ⟨rfl, rfl, trivial⟩) | omega | (intro r hr; simp only [List.mem_singleton] at hr; subst hr; rfl)  | ((simp only [List.length_map] at *; omega)) | ((simp only [List.length_map, List.length_cons, List.length_nil]; have hfl := fst_length c i (fun x => hasB s x.k); omega)) | ((intro r hr; exact rows_len (fun _ => rfl) _ r hr)) | (simp only [in64]; omega) | assumption | (simp; done) | (simp [V.cells]; done) | (simp [in64, maxLen, limK] at *; omega) | ((show confB _ _ = true); kernel_rfl) | rfl)))
           | (intro row hrow; (try simp only [Int.toNat_natCast, List.length_map, toNat_pred, toNat_succ', toNat_zero', toNat_one'] at hrow); (first | (have hsm := same_map (by assumption) hrow; subst hsm; clear hrow) | (obtain ⟨p, hp, rfl⟩ := of_map hrow; clear hrow)))
           | (with_reducible refine AW.seq ?_) | (with_reducible refine AW.region base (by kernel_rfl) ?_) | (with_reducible refine AW.cond ?_) | (with_reducible refine AW.block ?_) | (with_reducible refine AW.ret ?_) | (with_reducible refine AW.exit ?_) | (with_reducible refine AW.skip ?_))))
    all_goals (try first | with_reducible assumption | ((show (_ : Int) ≤ _); (first | omega | (simp at *; omega))) | ((show (_ : Nat) ≤ _); (first | omega | (simp at *; omega))) | ((show in64 _); (simp only [in64] at *; (first | omega | (simp at *; omega)))) | ((show (_ : Int) < _); (first | omega | (simp at *; omega))) | ((show ¬ (_ : Int) = _); (first | omega | (simp at *; omega))) | ((with_reducible refine And.intro ?_ ?_) <;> (first | omega | (simp at *; omega))))
    all_goals (first
      | (with_reducible exact absurd rfl (by assumption))
      | ((conv => whnf); (refine ⟨(i + 1), ?_⟩); (refine And.intro ?_ (And.intro ?_ ?_)); (focus (refine ⟨⟨[0, ?_], ?_⟩⟩; rotate_left 1; repeat' (first | (with_reducible rfl) | exact trivial | ((conv => whnf); (first | (with_reducible refine And.intro ?_ ?_) | (first | with_reducible rfl | (refine congrArg V.str ?_; (first | with_reducible rfl | omega | (simp [take_get hp, hb, V.cells]; done) | rfl | (simp; done))) | (refine congrArg (V.int _) ?_; (first | with_reducible rfl | omega | (simp [take_get hp, hb, V.cells]; done) | rfl | (simp; done))) | (refine congrArg V.bool ?_; (first | with_reducible rfl | omega | (simp [take_get hp, hb, V.cells]; done) | rfl | (simp; done))) | (refine congrArg V.sl ?_; (first | with_reducible rfl | omega | (simp [take_get hp, hb, V.cells]; done) | rfl | (simp; done))) | (first | with_reducible rfl | omega | (simp [take_get hp, hb, V.cells]; done) | rfl | (simp; done)) | rfl)))))); (focus omega); (focus (first | omega | (dsimp only; omega) | (simp; done) | (simp; omega) | (simp at *; omega))))
      | ((conv => whnf); (try (first | rfl | (exfalso; simp_all; done) | (exfalso; simp at *; omega) | (refine congrArg V.sl ?_; rw [List.take_of_length_le (by simp at *; omega)]))); done))


theorem cloneEvent_of (xs : List (List V)) (l : List Evt) (hx : xs = l.map encE) (hl : l.length ≤ 1000000) : FnM Try.prog 35 [.sl xs] [] (.own 0) [.rows 47 (l.map encE)] := by
  subst hx; exact cloneEvent_fn l hl
theorem gone_int (l : List Evt) (n : Int) (hl : l.length ≤ 1000000) : max ((((l.map encE).length : Nat) : Int) - max n 0) 0 = (goneN l n : Int) := by
  rw [List.length_map]; unfold goneN; omega
theorem gone_le (l : List Evt) (n : Int) : goneN l n ≤ l.length := by unfold goneN; omega
theorem slice_to (l : List Evt) (g : Nat) : List.drop 0 (List.take ((g : Int)).toNat (l.map encE)) = (l.take g).map encE := by
  rw [List.drop_zero, Int.toNat_natCast, List.map_take]
theorem slice_from (l : List Evt) (n : Int) : List.drop ((goneN l n : Int)).toNat (List.take (l.map encE).length (l.map encE)) = (keepE l n).map encE := by
  rw [List.take_length, Int.toNat_natCast, keepE, List.map_drop]
theorem bumps_step {l : List Evt} {j : Nat} {p : Evt} (c : List Cel) (hp : l[j]? = some p) : bumps (l.take (j + 1)) c = (bumps (l.take j) c).map (bump1 p) := by
  rw [take_get hp, bumps, List.foldl_append]; rfl
/-- the first i are done -/
def half (p : Evt) (i : Nat) (m : List Cel) : List Cel := (m.take i).map (bump1 p) ++ m.drop i
theorem half_zero (p : Evt) (m : List Cel) : half p 0 m = m := by simp [half]
theorem half_all {p : Evt} {i : Nat} {m : List Cel} (h : m.length ≤ i) : half p i m = m.map (bump1 p) := by
  rw [half, List.take_of_length_le h, List.drop_of_length_le h, List.append_nil]
theorem half_len (p : Evt) (i : Nat) (m : List Cel) : (half p i m).length = m.length := by simp [half]; omega
theorem half_get {p : Evt} {i : Nat} {m : List Cel} {x : Cel} (h : m[i]? = some x) : (half p i m)[i]? = some x := by
  have hi := (List.getElem?_eq_some_iff.1 h).1
  rw [half, List.getElem?_append_right (by simp; omega), List.getElem?_drop]
  simp [h, show min i m.length = i by omega]
theorem set_mid {α : Type} {A B : List α} {x y : α} {i : Nat} (h : A.length = i) : (A ++ x :: B).set i y = A ++ y :: B := by
  subst h; rw [List.set_append]; simp
theorem half_step {p : Evt} {i : Nat} {m : List Cel} {x : Cel} (h : m[i]? = some x) : half p (i + 1) m = (half p i m).set i (bump1 p x) := by
  have hi := (List.getElem?_eq_some_iff.1 h).1
  rw [half, take_get h, half, drop_get h, set_mid (by simp; omega), List.map_append, List.append_assoc]
  rfl
theorem half_same {p : Evt} {i : Nat} {m : List Cel} {x : Cel} (h : m[i]? = some x) (hk : ¬ x.k = p.k) : half p (i + 1) m = half p i m := by
  rw [half_step h, bump1, if_neg hk]
  exact List.set_getElem_self' (half_get h)
 where
  List.set_getElem_self' {l : List Cel} {i : Nat} {x : Cel} (h : l[i]? = some x) : l.set i x = l := by
    obtain ⟨h1, rfl⟩ := List.getElem?_eq_some_iff.1 h
    exact List.set_getElem_self h1
theorem enc_bump {p : Evt} {x : Cel} (hk : x.k = p.k) : encC (bump1 p x) = [.str x.k, .str x.v, .int .i64 x.n, .bool x.d, .int .i64 (max x.f p.n)] := by
  rw [bump1, if_pos hk]

set_option maxRecDepth 100000 in
set_option maxHeartbeats 1000000 in
theorem keep_fn (l : List Evt) (c : List Cel) (n : Int) (hl : l.length ≤ 1000000) (hc : c.length ≤ 1000000) (hn : in64 n) : Fn Try.prog 26 [.sl (l.map encE), .sl (c.map encC), .int .i64 n] (.tup [.sl ((keepE l n).map encE), .sl ((keepC l c n).map encC)]) := by
  refine Fn.mk' base Try.func26 rfl rfl rfl ?_
  repeat' (first
      | (with_reducible refine AW.seq ?_) | (with_reducible refine AW.region base (by kernel_rfl) ?_) | (with_reducible refine AW.cond ?_) | (with_reducible refine AW.block ?_) | (with_reducible refine AW.ret ?_) | (with_reducible refine AW.exit ?_) | (with_reducible refine AW.skip ?_)
      | ((conv => whnf); (first
         | (with_reducible refine Br.t ?_)
         | (with_reducible refine Br.f ?_)
         | ((with_reducible refine Or.inl ?_); (conv => whnf); (with_reducible refine And.intro LitSl.mk ?_))
         | (refine Br.t ?_)
         | (refine Br.f ?_)
         | (with_reducible refine Or.inr ⟨[], _, _, _, _, cloneCell_fn c hc, ?_⟩)
         | (with_reducible refine Or.inr (Or.inr ⟨[], _, _, _, _, cloneCell_fn c hc, ?_⟩))
         | ((with_reducible refine Or.inr ⟨[], _, _, _, _, cloneEvent_of ?_ (keepE l n) ?_ ?_, ?_⟩); rotate_right; (repeat ((conv => whnf); (with_reducible refine And.intro ?_ ?_); (focus (first | with_reducible rfl | exact trivial | (exact ⟨rfl, trivial⟩) | (exact ⟨rfl, rfl, trivial⟩) | omega | (intro r hr; simp only [List.mem_singleton] at hr; subst hr; rfl)  | (simp only [in64]; omega) | assumption | (simp; done) | (simp [V.cells]; done) | (simp [in64, maxLen, limK] at *; omega) | ((show confB _ _ = true); kernel_rfl) | rfl)))); rotate_left; (focus (first | exact slice_from l n | (rw [keepE_length]; omega) | fail)); (focus (first | exact slice_from l n | (rw [keepE_length]; omega) | fail)))
         | ((with_reducible refine Or.inr (Or.inr ⟨[], _, _, _, _, cloneEvent_of ?_ (keepE l n) ?_ ?_, ?_⟩)); rotate_right; (repeat ((conv => whnf); (with_reducible refine And.intro ?_ ?_); (focus (first | with_reducible rfl | exact trivial | (exact ⟨rfl, trivial⟩) | (exact ⟨rfl, rfl, trivial⟩) | omega | (intro r hr; simp only [List.mem_singleton] at hr; subst hr; rfl)  | (simp only [in64]; omega) | assumption | (simp; done) | (simp [V.cells]; done) | (simp [in64, maxLen, limK] at *; omega) | ((show confB _ _ = true); kernel_rfl) | rfl)))); rotate_left; (focus (first | exact slice_from l n | (rw [keepE_length]; omega) | fail)); (focus (first | exact slice_from l n | (rw [keepE_length]; omega) | fail)))
         | (with_reducible refine Br.mk (fun hb => ?_) (fun hb => ?_) <;> (try rw [hb]) <;> (try simp only [List.length_map, decide_eq_true_eq, decide_eq_false_iff_not, Bool.not_eq_true', Bool.not_eq_false', Int.ofNat_lt, Int.ofNat_le, Int.not_lt, Int.not_le, Int.toNat_natCast] at hb))
         | (with_reducible refine ⟨_, (by first | exact ByteRows.map _ | (repeat (first | exact ByteRows.nil | exact ByteRows.map _ | refine ByteRows.cons ?_ | refine ByteRows.app ?_ ?_))), ?_⟩)
         | (refine Exists.intro _ (And.intro (ByteRows.rep _) ?_))
         | (refine Exists.intro _ (And.intro (ByteRows.app (ByteRows.map _) (ByteRows.cons ByteRows.nil)) ?_))
         | ((with_reducible refine Or.inl (And.intro ?_ ?_)); (focus (first | with_reducible rfl | exact trivial | (exact ⟨rfl, trivial⟩) | (exact ⟨rfl, rfl, trivial⟩) | omega | (intro r hr; simp only [List.mem_singleton] at hr; subst hr; rfl)  | ((simp only [List.length_map] at *; omega)) | ((simp only [in64, List.length_map] at *; omega)) | ((intro r hr; exact rows_len (fun _ => rfl) _ r hr)) | ((have := gone_le l n; refine ⟨by omega, ?_⟩; rw [gone_int l n hl, List.length_map]; omega)) | ((have := gone_le l n; rw [List.length_map]; omega)) | (simp only [in64]; omega) | assumption | (simp; done) | (simp [V.cells]; done) | (simp [in64, maxLen, limK] at *; omega) | ((show confB _ _ = true); kernel_rfl) | rfl)))
         | ((with_reducible refine And.intro ?_ ?_); (focus (first | with_reducible rfl | exact trivial | (exact ⟨rfl, trivial⟩) | (exact ⟨rfl, rfl, trivial⟩) | omega | (intro r hr; simp only [List.mem_singleton] at hr; subst hr; rfl)  | ((simp only [List.length_map] at *; omega)) | ((simp only [in64, List.length_map] at *; omega)) | ((intro r hr; exact rows_len (fun _ => rfl) _ r hr)) | ((have := gone_le l n; refine ⟨by omega, ?_⟩; rw [gone_int l n hl, List.length_map]; omega)) | ((have := gone_le l n; rw [List.length_map]; omega)) | (simp only [in64]; omega) | assumption | (simp; done) | (simp [V.cells]; done) | (simp [in64, maxLen, limK] at *; omega) | ((show confB _ _ = true); kernel_rfl) | rfl)))
         | (intro row hrow; (try simp only [Int.toNat_natCast, List.length_map, toNat_pred, toNat_succ', toNat_zero', toNat_one'] at hrow); (first | (have hsm := same_map (by assumption) hrow; subst hsm; clear hrow) | (obtain ⟨p, hp, rfl⟩ := of_map hrow; clear hrow)))
         | (with_reducible refine AW.seq ?_) | (with_reducible refine AW.region base (by kernel_rfl) ?_) | (with_reducible refine AW.cond ?_) | (with_reducible refine AW.block ?_) | (with_reducible refine AW.ret ?_) | (with_reducible refine AW.exit ?_) | (with_reducible refine AW.skip ?_))))
  refine AW.loop (fun (⟨j, m⟩ : Nat × List Cel) => j ≤ goneN l n ∧ m = bumps (l.take j) c ∧ m.length ≤ 1000000) (fun (⟨j, m⟩ : Nat × List Cel) => ⟨[(0, .sl (l.map encE)), (8, .int .i64 (goneN l n : Int)), (9, .own 0), (23, .sl ((l.take (goneN l n)).map encE)), (24, .int .i64 (goneN l n : Int)), (25, .int .i64 (j : Int))], [.rows 43 (m.map encC)]⟩) (fun (⟨j, m⟩ : Nat × List Cel) => goneN l n - j) (0, c) ?_ ?_ ?_
  · exact ⟨Nat.zero_le _, by simp [bumps], hc⟩
  · (refine ⟨⟨[1003001], ?_⟩⟩; repeat' (first | (with_reducible rfl) | exact trivial | ((conv => whnf); (first | (with_reducible refine And.intro ?_ ?_) | (first | with_reducible rfl | (refine congrArg V.str ?_; (first | with_reducible rfl | omega | (exact gone_int l n hl) | (rw [gone_int l n hl]; exact slice_to l _) | (rw [gone_int l n hl, slice_to, List.length_map, List.length_take]; have := gone_le l n; omega) | rfl | (simp; done))) | (refine congrArg (V.int _) ?_; (first | with_reducible rfl | omega | (exact gone_int l n hl) | (rw [gone_int l n hl]; exact slice_to l _) | (rw [gone_int l n hl, slice_to, List.length_map, List.length_take]; have := gone_le l n; omega) | rfl | (simp; done))) | (refine congrArg V.bool ?_; (first | with_reducible rfl | omega | (exact gone_int l n hl) | (rw [gone_int l n hl]; exact slice_to l _) | (rw [gone_int l n hl, slice_to, List.length_map, List.length_take]; have := gone_le l n; omega) | rfl | (simp; done))) | (refine congrArg V.sl ?_; (first | with_reducible rfl | omega | (exact gone_int l n hl) | (rw [gone_int l n hl]; exact slice_to l _) | (rw [gone_int l n hl, slice_to, List.length_map, List.length_take]; have := gone_le l n; omega) | rfl | (simp; done))) | (first | with_reducible rfl | omega | (exact gone_int l n hl) | (rw [gone_int l n hl]; exact slice_to l _) | (rw [gone_int l n hl, slice_to, List.length_map, List.length_take]; have := gone_le l n; omega) | rfl | (simp; done)) | rfl)))))
  · rintro ⟨j, m⟩ hk
    obtain ⟨hk1, hk2, hk3⟩ := hk
    have hgl := gone_le l n
    rcases (by omega : j = goneN l n ∨ j < goneN l n) with hj | hj
    · subst hj
      repeat' (first
          | (with_reducible refine AW.seq ?_) | (with_reducible refine AW.region base (by kernel_rfl) ?_) | (with_reducible refine AW.cond ?_) | (with_reducible refine AW.block ?_) | (with_reducible refine AW.ret ?_) | (with_reducible refine AW.exit ?_) | (with_reducible refine AW.skip ?_)
          | ((conv => whnf); (first
             | (with_reducible refine Br.t ?_)
             | (with_reducible refine Br.f ?_)
             | ((with_reducible refine Or.inl ?_); (conv => whnf); (with_reducible refine And.intro LitSl.mk ?_))
             | (refine Br.t ?_)
             | (refine Br.f ?_)
             | (with_reducible refine Br.mk (fun hb => ?_) (fun hb => (by exfalso; (first | (simp at hb; done) | omega | (simp at hb; omega) | (simp only [List.length_map] at hb; omega) | (rw [h] at hb; simp at hb; done) | fail))))
             | (with_reducible refine Br.mk (fun hb => (by exfalso; (first | (simp at hb; done) | omega | (simp at hb; omega) | (simp only [List.length_map] at hb; omega) | (rw [h] at hb; simp at hb; done) | fail))) (fun hb => ?_))
             | (with_reducible refine Or.inr ⟨[], _, _, _, _, cloneCell_fn c hc, ?_⟩)
             | (with_reducible refine Or.inr (Or.inr ⟨[], _, _, _, _, cloneCell_fn c hc, ?_⟩))
             | ((with_reducible refine Or.inr ⟨[], _, _, _, _, cloneEvent_of ?_ (keepE l n) ?_ ?_, ?_⟩); rotate_right; (repeat ((conv => whnf); (with_reducible refine And.intro ?_ ?_); (focus (first | with_reducible rfl | exact trivial | (exact ⟨rfl, trivial⟩) | (exact ⟨rfl, rfl, trivial⟩) | omega | (intro r hr; simp only [List.mem_singleton] at hr; subst hr; rfl)  | (simp only [in64]; omega) | assumption | (simp; done) | (simp [V.cells]; done) | (simp [in64, maxLen, limK] at *; omega) | ((show confB _ _ = true); kernel_rfl) | rfl)))); rotate_left; (focus (first | exact slice_from l n | (rw [keepE_length]; omega) | fail)); (focus (first | exact slice_from l n | (rw [keepE_length]; omega) | fail)))
             | ((with_reducible refine Or.inr (Or.inr ⟨[], _, _, _, _, cloneEvent_of ?_ (keepE l n) ?_ ?_, ?_⟩)); rotate_right; (repeat ((conv => whnf); (with_reducible refine And.intro ?_ ?_); (focus (first | with_reducible rfl | exact trivial | (exact ⟨rfl, trivial⟩) | (exact ⟨rfl, rfl, trivial⟩) | omega | (intro r hr; simp only [List.mem_singleton] at hr; subst hr; rfl)  | (simp only [in64]; omega) | assumption | (simp; done) | (simp [V.cells]; done) | (simp [in64, maxLen, limK] at *; omega) | ((show confB _ _ = true); kernel_rfl) | rfl)))); rotate_left; (focus (first | exact slice_from l n | (rw [keepE_length]; omega) | fail)); (focus (first | exact slice_from l n | (rw [keepE_length]; omega) | fail)))
             | (with_reducible refine Br.mk (fun hb => ?_) (fun hb => ?_) <;> (try rw [hb]) <;> (try simp only [List.length_map, decide_eq_true_eq, decide_eq_false_iff_not, Bool.not_eq_true', Bool.not_eq_false', Int.ofNat_lt, Int.ofNat_le, Int.not_lt, Int.not_le, Int.toNat_natCast] at hb))
             | (with_reducible refine ⟨_, (by first | exact ByteRows.map _ | (repeat (first | exact ByteRows.nil | exact ByteRows.map _ | refine ByteRows.cons ?_ | refine ByteRows.app ?_ ?_))), ?_⟩)
             | (refine Exists.intro _ (And.intro (ByteRows.rep _) ?_))
             | (refine Exists.intro _ (And.intro (ByteRows.app (ByteRows.map _) (ByteRows.cons ByteRows.nil)) ?_))
             | ((with_reducible refine Or.inl (And.intro ?_ ?_)); (focus (first | with_reducible rfl | exact trivial | (exact ⟨rfl, trivial⟩) | (exact ⟨rfl, rfl, trivial⟩) | omega | (intro r hr; simp only [List.mem_singleton] at hr; subst hr; rfl)  | ((simp only [List.length_map] at *; omega)) | ((simp only [in64, List.length_map] at *; omega)) | ((intro r hr; exact rows_len (fun _ => rfl) _ r hr)) | ((have := gone_le l n; refine ⟨by omega, ?_⟩; rw [gone_int l n hl, List.length_map]; omega)) | ((have := gone_le l n; rw [List.length_map]; omega)) | (simp only [in64]; omega) | assumption | (simp; done) | (simp [V.cells]; done) | (simp [in64, maxLen, limK] at *; omega) | ((show confB _ _ = true); kernel_rfl) | rfl)))
             | ((with_reducible refine And.intro ?_ ?_); (focus (first | with_reducible rfl | exact trivial | (exact ⟨rfl, trivial⟩) | (exact ⟨rfl, rfl, trivial⟩) | omega | (intro r hr; simp only [List.mem_singleton] at hr; subst hr; rfl)  | ((simp only [List.length_map] at *; omega)) | ((simp only [in64, List.length_map] at *; omega)) | ((intro r hr; exact rows_len (fun _ => rfl) _ r hr)) | ((have := gone_le l n; refine ⟨by omega, ?_⟩; rw [gone_int l n hl, List.length_map]; omega)) | ((have := gone_le l n; rw [List.length_map]; omega)) | (simp only [in64]; omega) | assumption | (simp; done) | (simp [V.cells]; done) | (simp [in64, maxLen, limK] at *; omega) | ((show confB _ _ = true); kernel_rfl) | rfl)))
             | (intro row hrow; (try simp only [Int.toNat_natCast, List.length_map, toNat_pred, toNat_succ', toNat_zero', toNat_one'] at hrow); (first | (have hsm := same_map (by assumption) hrow; subst hsm; clear hrow) | (obtain ⟨p, hp, rfl⟩ := of_map hrow; clear hrow)))
             | (with_reducible refine AW.seq ?_) | (with_reducible refine AW.region base (by kernel_rfl) ?_) | (with_reducible refine AW.cond ?_) | (with_reducible refine AW.block ?_) | (with_reducible refine AW.ret ?_) | (with_reducible refine AW.exit ?_) | (with_reducible refine AW.skip ?_))))
      all_goals ((conv => whnf); (first | rfl | (rw [hk2]; rfl)))
    obtain ⟨p, hp⟩ : ∃ p, (l.take (goneN l n))[j]? = some p := ⟨_, List.getElem?_eq_getElem (by simp; omega)⟩
    have hpl : (l.take (goneN l n))[j]? = some p → l[j]? = some p := fun h => by rw [List.getElem?_take] at h; split at h <;> simp_all
    repeat' (first
        | (with_reducible refine AW.seq ?_) | (with_reducible refine AW.region base (by kernel_rfl) ?_) | (with_reducible refine AW.cond ?_) | (with_reducible refine AW.block ?_) | (with_reducible refine AW.ret ?_) | (with_reducible refine AW.exit ?_) | (with_reducible refine AW.skip ?_)
        | ((conv => whnf); (first
           | (with_reducible refine Br.t ?_)
           | (with_reducible refine Br.f ?_)
           | ((with_reducible refine Or.inl ?_); (conv => whnf); (with_reducible refine And.intro LitSl.mk ?_))
           | (refine Br.t ?_)
           | (refine Br.f ?_)
           | (with_reducible refine Br.mk (fun hb => ?_) (fun hb => (by exfalso; (first | (simp at hb; done) | omega | (simp at hb; omega) | (simp only [List.length_map] at hb; omega) | (rw [h] at hb; simp at hb; done) | fail))))
           | (with_reducible refine Br.mk (fun hb => (by exfalso; (first | (simp at hb; done) | omega | (simp at hb; omega) | (simp only [List.length_map] at hb; omega) | (rw [h] at hb; simp at hb; done) | fail))) (fun hb => ?_))
           | (with_reducible refine Or.inr ⟨[], _, _, _, _, cloneCell_fn c hc, ?_⟩)
           | (with_reducible refine Or.inr (Or.inr ⟨[], _, _, _, _, cloneCell_fn c hc, ?_⟩))
           | ((with_reducible refine Or.inr ⟨[], _, _, _, _, cloneEvent_of ?_ (keepE l n) ?_ ?_, ?_⟩); rotate_right; (repeat ((conv => whnf); (with_reducible refine And.intro ?_ ?_); (focus (first | with_reducible rfl | exact trivial | (exact ⟨rfl, trivial⟩) | (exact ⟨rfl, rfl, trivial⟩) | omega | (intro r hr; simp only [List.mem_singleton] at hr; subst hr; rfl)  | (simp only [in64]; omega) | assumption | (simp; done) | (simp [V.cells]; done) | (simp [in64, maxLen, limK] at *; omega) | ((show confB _ _ = true); kernel_rfl) | rfl)))); rotate_left; (focus (first | exact slice_from l n | (rw [keepE_length]; omega) | fail)); (focus (first | exact slice_from l n | (rw [keepE_length]; omega) | fail)))
           | ((with_reducible refine Or.inr (Or.inr ⟨[], _, _, _, _, cloneEvent_of ?_ (keepE l n) ?_ ?_, ?_⟩)); rotate_right; (repeat ((conv => whnf); (with_reducible refine And.intro ?_ ?_); (focus (first | with_reducible rfl | exact trivial | (exact ⟨rfl, trivial⟩) | (exact ⟨rfl, rfl, trivial⟩) | omega | (intro r hr; simp only [List.mem_singleton] at hr; subst hr; rfl)  | (simp only [in64]; omega) | assumption | (simp; done) | (simp [V.cells]; done) | (simp [in64, maxLen, limK] at *; omega) | ((show confB _ _ = true); kernel_rfl) | rfl)))); rotate_left; (focus (first | exact slice_from l n | (rw [keepE_length]; omega) | fail)); (focus (first | exact slice_from l n | (rw [keepE_length]; omega) | fail)))
           | (with_reducible refine Br.mk (fun hb => ?_) (fun hb => ?_) <;> (try rw [hb]) <;> (try simp only [List.length_map, decide_eq_true_eq, decide_eq_false_iff_not, Bool.not_eq_true', Bool.not_eq_false', Int.ofNat_lt, Int.ofNat_le, Int.not_lt, Int.not_le, Int.toNat_natCast] at hb))
           | (with_reducible refine ⟨_, (by first | exact ByteRows.map _ | (repeat (first | exact ByteRows.nil | exact ByteRows.map _ | refine ByteRows.cons ?_ | refine ByteRows.app ?_ ?_))), ?_⟩)
           | (refine Exists.intro _ (And.intro (ByteRows.rep _) ?_))
           | (refine Exists.intro _ (And.intro (ByteRows.app (ByteRows.map _) (ByteRows.cons ByteRows.nil)) ?_))
           | ((with_reducible refine Or.inl (And.intro ?_ ?_)); (focus (first | with_reducible rfl | exact trivial | (exact ⟨rfl, trivial⟩) | (exact ⟨rfl, rfl, trivial⟩) | omega | (intro r hr; simp only [List.mem_singleton] at hr; subst hr; rfl)  | ((simp only [List.length_map] at *; omega)) | ((simp only [in64, List.length_map] at *; omega)) | ((intro r hr; exact rows_len (fun _ => rfl) _ r hr)) | ((have := gone_le l n; refine ⟨by omega, ?_⟩; rw [gone_int l n hl, List.length_map]; omega)) | ((have := gone_le l n; rw [List.length_map]; omega)) | (simp only [in64]; omega) | assumption | (simp; done) | (simp [V.cells]; done) | (simp [in64, maxLen, limK] at *; omega) | ((show confB _ _ = true); kernel_rfl) | rfl)))
           | ((with_reducible refine And.intro ?_ ?_); (focus (first | with_reducible rfl | exact trivial | (exact ⟨rfl, trivial⟩) | (exact ⟨rfl, rfl, trivial⟩) | omega | (intro r hr; simp only [List.mem_singleton] at hr; subst hr; rfl)  | ((simp only [List.length_map] at *; omega)) | ((simp only [in64, List.length_map] at *; omega)) | ((intro r hr; exact rows_len (fun _ => rfl) _ r hr)) | ((have := gone_le l n; refine ⟨by omega, ?_⟩; rw [gone_int l n hl, List.length_map]; omega)) | ((have := gone_le l n; rw [List.length_map]; omega)) | (simp only [in64]; omega) | assumption | (simp; done) | (simp [V.cells]; done) | (simp [in64, maxLen, limK] at *; omega) | ((show confB _ _ = true); kernel_rfl) | rfl)))
           | (intro row hrow; (try simp only [Int.toNat_natCast, List.length_map, toNat_pred, toNat_succ', toNat_zero', toNat_one'] at hrow); (first | (have hsm := same_map (by assumption) hrow; subst hsm; clear hrow) | (obtain ⟨p, hp, rfl⟩ := of_map hrow; clear hrow)))
           | (with_reducible refine AW.seq ?_) | (with_reducible refine AW.region base (by kernel_rfl) ?_) | (with_reducible refine AW.cond ?_) | (with_reducible refine AW.block ?_) | (with_reducible refine AW.ret ?_) | (with_reducible refine AW.exit ?_) | (with_reducible refine AW.skip ?_))))
    refine AW.loop (fun (i : Nat) => i ≤ m.length) (fun (i : Nat) => ⟨[(0, .sl (l.map encE)), (8, .int .i64 (goneN l n : Int)), (9, .own 0), (23, .sl ((l.take (goneN l n)).map encE)), (24, .int .i64 (goneN l n : Int)), (25, .int .i64 (j : Int)), (11, .ptr 1 0), (30, .int .i64 (m.length : Int)), (31, .int .i64 (i : Int))], [.rows 43 ((half p i m).map encC), .cells [.str p.k, .int .i64 p.n, .str p.v, .bool p.d]]⟩) (fun (i : Nat) => m.length - i) 0 ?_ ?_ ?_
    · omega
    · (refine ⟨⟨[0, 6002], ?_⟩⟩; repeat' (first | (with_reducible rfl) | exact trivial | ((conv => whnf); (first | (with_reducible refine And.intro ?_ ?_) | (first | with_reducible rfl | (refine congrArg V.str ?_; (first | with_reducible rfl | omega | (rw [half_zero]; done) | (exact congrArg (fun n : Nat => (n : Int)) (List.length_map ..)) | (rw [Int.toNat_natCast, half_step hx, List.map_set, enc_bump hb]; done) | (rw [half_same hx hb]; done) | rfl | (simp; done))) | (refine congrArg (V.int _) ?_; (first | with_reducible rfl | omega | (rw [half_zero]; done) | (exact congrArg (fun n : Nat => (n : Int)) (List.length_map ..)) | (rw [Int.toNat_natCast, half_step hx, List.map_set, enc_bump hb]; done) | (rw [half_same hx hb]; done) | rfl | (simp; done))) | (refine congrArg V.bool ?_; (first | with_reducible rfl | omega | (rw [half_zero]; done) | (exact congrArg (fun n : Nat => (n : Int)) (List.length_map ..)) | (rw [Int.toNat_natCast, half_step hx, List.map_set, enc_bump hb]; done) | (rw [half_same hx hb]; done) | rfl | (simp; done))) | (refine congrArg V.sl ?_; (first | with_reducible rfl | omega | (rw [half_zero]; done) | (exact congrArg (fun n : Nat => (n : Int)) (List.length_map ..)) | (rw [Int.toNat_natCast, half_step hx, List.map_set, enc_bump hb]; done) | (rw [half_same hx hb]; done) | rfl | (simp; done))) | (first | with_reducible rfl | omega | (rw [half_zero]; done) | (exact congrArg (fun n : Nat => (n : Int)) (List.length_map ..)) | (rw [Int.toNat_natCast, half_step hx, List.map_set, enc_bump hb]; done) | (rw [half_same hx hb]; done) | rfl | (simp; done)) | rfl)))))
    · rintro i hk
      rcases (by omega : i = m.length ∨ i < m.length) with hi | hi
      · subst hi
        rw [half_all (Nat.le_refl _)]
        repeat' (first
            | (with_reducible refine AW.seq ?_) | (with_reducible refine AW.region base (by kernel_rfl) ?_) | (with_reducible refine AW.cond ?_) | (with_reducible refine AW.block ?_) | (with_reducible refine AW.ret ?_) | (with_reducible refine AW.exit ?_) | (with_reducible refine AW.skip ?_)
            | ((conv => whnf); (first
               | (with_reducible refine Br.t ?_)
               | (with_reducible refine Br.f ?_)
               | ((with_reducible refine Or.inl ?_); (conv => whnf); (with_reducible refine And.intro LitSl.mk ?_))
               | (refine Br.t ?_)
               | (refine Br.f ?_)
               | (with_reducible refine Br.mk (fun hb => ?_) (fun hb => (by exfalso; (first | (simp at hb; done) | omega | (simp at hb; omega) | (simp only [List.length_map] at hb; omega) | (rw [h] at hb; simp at hb; done) | fail))))
               | (with_reducible refine Br.mk (fun hb => (by exfalso; (first | (simp at hb; done) | omega | (simp at hb; omega) | (simp only [List.length_map] at hb; omega) | (rw [h] at hb; simp at hb; done) | fail))) (fun hb => ?_))
               | (with_reducible refine Br.mk (fun hb => ?_) (fun hb => ?_) <;> (try rw [hb]) <;> (try simp only [List.length_map, decide_eq_true_eq, decide_eq_false_iff_not, Bool.not_eq_true', Bool.not_eq_false', Int.ofNat_lt, Int.ofNat_le, Int.not_lt, Int.not_le, Int.toNat_natCast] at hb))
               | (with_reducible refine ⟨_, (by first | exact ByteRows.map _ | (repeat (first | exact ByteRows.nil | exact ByteRows.map _ | refine ByteRows.cons ?_ | refine ByteRows.app ?_ ?_))), ?_⟩)
               | (refine Exists.intro _ (And.intro (ByteRows.rep _) ?_))
               | (refine Exists.intro _ (And.intro (ByteRows.app (ByteRows.map _) (ByteRows.cons ByteRows.nil)) ?_))
               | ((with_reducible refine Or.inl (And.intro ?_ ?_)); (focus (first | with_reducible rfl | exact trivial | (exact ⟨rfl, trivial⟩) | (exact ⟨rfl, rfl, trivial⟩) | omega | (intro r hr; simp only [List.mem_singleton] at hr; subst hr; rfl)  | ((simp only [List.length_map] at *; omega)) | ((simp only [in64, List.length_map] at *; omega)) | ((intro r hr; exact rows_len (fun _ => rfl) _ r hr)) | ((have := gone_le l n; refine ⟨by omega, ?_⟩; rw [gone_int l n hl, List.length_map]; omega)) | ((have := gone_le l n; rw [List.length_map]; omega)) | (simp only [in64]; omega) | assumption | (simp; done) | (simp [V.cells]; done) | (simp [in64, maxLen, limK] at *; omega) | ((show confB _ _ = true); kernel_rfl) | rfl)))
               | ((with_reducible refine And.intro ?_ ?_); (focus (first | with_reducible rfl | exact trivial | (exact ⟨rfl, trivial⟩) | (exact ⟨rfl, rfl, trivial⟩) | omega | (intro r hr; simp only [List.mem_singleton] at hr; subst hr; rfl)  | ((simp only [List.length_map] at *; omega)) | ((simp only [in64, List.length_map] at *; omega)) | ((intro r hr; exact rows_len (fun _ => rfl) _ r hr)) | ((have := gone_le l n; refine ⟨by omega, ?_⟩; rw [gone_int l n hl, List.length_map]; omega)) | ((have := gone_le l n; rw [List.length_map]; omega)) | (simp only [in64]; omega) | assumption | (simp; done) | (simp [V.cells]; done) | (simp [in64, maxLen, limK] at *; omega) | ((show confB _ _ = true); kernel_rfl) | rfl)))
               | (intro row hrow; (try simp only [Int.toNat_natCast, List.length_map, toNat_pred, toNat_succ', toNat_zero', toNat_one'] at hrow); (first | (have hsm := same_map (by assumption) hrow; subst hsm; clear hrow) | (obtain ⟨p, hp, rfl⟩ := of_map hrow; clear hrow)))
               | (with_reducible refine AW.seq ?_) | (with_reducible refine AW.region base (by kernel_rfl) ?_) | (with_reducible refine AW.cond ?_) | (with_reducible refine AW.block ?_) | (with_reducible refine AW.ret ?_) | (with_reducible refine AW.exit ?_) | (with_reducible refine AW.skip ?_))))
        all_goals ((conv => whnf); (refine ⟨(j + 1, m.map (bump1 p)), ?_⟩); (refine And.intro ?_ (And.intro ?_ ?_)); (focus (refine ⟨⟨[0], ?_⟩⟩; repeat' (first | (with_reducible rfl) | exact trivial | ((conv => whnf); (first | (with_reducible refine And.intro ?_ ?_) | (first | with_reducible rfl | (refine congrArg V.str ?_; (first | with_reducible rfl | omega | rfl | (simp; done))) | (refine congrArg (V.int _) ?_; (first | with_reducible rfl | omega | rfl | (simp; done))) | (refine congrArg V.bool ?_; (first | with_reducible rfl | omega | rfl | (simp; done))) | (refine congrArg V.sl ?_; (first | with_reducible rfl | omega | rfl | (simp; done))) | (first | with_reducible rfl | omega | rfl | (simp; done)) | rfl)))))); (focus (refine ⟨by omega, ?_, by rw [List.length_map]; exact hk3⟩; rw [hk2, ← bumps_step c (hpl hp)])); (focus (first | omega | (dsimp only; omega))))
      obtain ⟨x, hx⟩ : ∃ x, m[i]? = some x := ⟨_, List.getElem?_eq_getElem hi⟩
      have hlen := half_len p i m
      have hxx := half_get (p := p) hx
      repeat' (first
          | (with_reducible refine AW.seq ?_) | (with_reducible refine AW.region base (by kernel_rfl) ?_) | (with_reducible refine AW.cond ?_) | (with_reducible refine AW.block ?_) | (with_reducible refine AW.ret ?_) | (with_reducible refine AW.exit ?_) | (with_reducible refine AW.skip ?_)
          | ((conv => whnf); (first
             | (with_reducible refine Br.t ?_)
             | (with_reducible refine Br.f ?_)
             | ((with_reducible refine Or.inl ?_); (conv => whnf); (with_reducible refine And.intro LitSl.mk ?_))
             | (refine Br.t ?_)
             | (refine Br.f ?_)
             | (with_reducible refine Br.mk (fun hb => ?_) (fun hb => (by exfalso; (first | (simp at hb; done) | omega | (simp at hb; omega) | (simp only [List.length_map] at hb; omega) | (rw [h] at hb; simp at hb; done) | fail))))
             | (with_reducible refine Br.mk (fun hb => (by exfalso; (first | (simp at hb; done) | omega | (simp at hb; omega) | (simp only [List.length_map] at hb; omega) | (rw [h] at hb; simp at hb; done) | fail))) (fun hb => ?_))
             | (with_reducible refine Br.mk (fun hb => ?_) (fun hb => ?_) <;> (try rw [hb]) <;> (try simp only [List.length_map, decide_eq_true_eq, decide_eq_false_iff_not, Bool.not_eq_true', Bool.not_eq_false', Int.ofNat_lt, Int.ofNat_le, Int.not_lt, Int.not_le, Int.toNat_natCast] at hb))
             | (with_reducible refine ⟨_, (by first | exact ByteRows.map _ | (repeat (first | exact ByteRows.nil | exact ByteRows.map _ | refine ByteRows.cons ?_ | refine ByteRows.app ?_ ?_))), ?_⟩)
             | (refine Exists.intro _ (And.intro (ByteRows.rep _) ?_))
             | (refine Exists.intro _ (And.intro (ByteRows.app (ByteRows.map _) (ByteRows.cons ByteRows.nil)) ?_))
             | ((with_reducible refine Or.inl (And.intro ?_ ?_)); (focus (first | with_reducible rfl | exact trivial | (exact ⟨rfl, trivial⟩) | (exact ⟨rfl, rfl, trivial⟩) | omega | (intro r hr; simp only [List.mem_singleton] at hr; subst hr; rfl)  | ((simp only [List.length_map] at *; omega)) | ((simp only [in64, List.length_map] at *; omega)) | ((intro r hr; exact rows_len (fun _ => rfl) _ r hr)) | ((have := gone_le l n; refine ⟨by omega, ?_⟩; rw [gone_int l n hl, List.length_map]; omega)) | ((have := gone_le l n; rw [List.length_map]; omega)) | (simp only [in64]; omega) | assumption | (simp; done) | (simp [V.cells]; done) | (simp [in64, maxLen, limK] at *; omega) | ((show confB _ _ = true); kernel_rfl) | rfl)))
             | ((with_reducible refine And.intro ?_ ?_); (focus (first | with_reducible rfl | exact trivial | (exact ⟨rfl, trivial⟩) | (exact ⟨rfl, rfl, trivial⟩) | omega | (intro r hr; simp only [List.mem_singleton] at hr; subst hr; rfl)  | ((simp only [List.length_map] at *; omega)) | ((simp only [in64, List.length_map] at *; omega)) | ((intro r hr; exact rows_len (fun _ => rfl) _ r hr)) | ((have := gone_le l n; refine ⟨by omega, ?_⟩; rw [gone_int l n hl, List.length_map]; omega)) | ((have := gone_le l n; rw [List.length_map]; omega)) | (simp only [in64]; omega) | assumption | (simp; done) | (simp [V.cells]; done) | (simp [in64, maxLen, limK] at *; omega) | ((show confB _ _ = true); kernel_rfl) | rfl)))
             | (intro row hrow; (try simp only [Int.toNat_natCast, List.length_map, toNat_pred, toNat_succ', toNat_zero', toNat_one'] at hrow); (first | (have hsm := same_map (by assumption) hrow; subst hsm; clear hrow) | (obtain ⟨p, hp, rfl⟩ := of_map hrow; clear hrow)))
             | (with_reducible refine AW.seq ?_) | (with_reducible refine AW.region base (by kernel_rfl) ?_) | (with_reducible refine AW.cond ?_) | (with_reducible refine AW.block ?_) | (with_reducible refine AW.ret ?_) | (with_reducible refine AW.exit ?_) | (with_reducible refine AW.skip ?_))))
      all_goals (try first | with_reducible assumption | ((show (_ : Int) ≤ _); (first | omega | (simp at *; omega))) | ((show (_ : Nat) ≤ _); (first | omega | (simp at *; omega))) | ((show in64 _); (simp only [in64] at *; (first | omega | (simp at *; omega)))) | ((show (_ : Int) < _); (first | omega | (simp at *; omega))) | ((show ¬ (_ : Int) = _); (first | omega | (simp at *; omega))) | ((with_reducible refine And.intro ?_ ?_) <;> (first | omega | (simp at *; omega))))
      all_goals (first
        | (with_reducible exact absurd rfl (by assumption))
        | ((conv => whnf); (refine ⟨(i + 1), ?_⟩); (refine And.intro ?_ (And.intro ?_ ?_)); (focus (refine ⟨⟨[0, 1], ?_⟩⟩; repeat' (first | (with_reducible rfl) | exact trivial | ((conv => whnf); (first | (with_reducible refine And.intro ?_ ?_) | (first | with_reducible rfl | (refine congrArg V.str ?_; (first | with_reducible rfl | omega | (rw [half_zero]; done) | (exact congrArg (fun n : Nat => (n : Int)) (List.length_map ..)) | (rw [Int.toNat_natCast, half_step hx, List.map_set, enc_bump hb]; done) | (rw [half_same hx hb]; done) | rfl | (simp; done))) | (refine congrArg (V.int _) ?_; (first | with_reducible rfl | omega | (rw [half_zero]; done) | (exact congrArg (fun n : Nat => (n : Int)) (List.length_map ..)) | (rw [Int.toNat_natCast, half_step hx, List.map_set, enc_bump hb]; done) | (rw [half_same hx hb]; done) | rfl | (simp; done))) | (refine congrArg V.bool ?_; (first | with_reducible rfl | omega | (rw [half_zero]; done) | (exact congrArg (fun n : Nat => (n : Int)) (List.length_map ..)) | (rw [Int.toNat_natCast, half_step hx, List.map_set, enc_bump hb]; done) | (rw [half_same hx hb]; done) | rfl | (simp; done))) | (refine congrArg V.sl ?_; (first | with_reducible rfl | omega | (rw [half_zero]; done) | (exact congrArg (fun n : Nat => (n : Int)) (List.length_map ..)) | (rw [Int.toNat_natCast, half_step hx, List.map_set, enc_bump hb]; done) | (rw [half_same hx hb]; done) | rfl | (simp; done))) | (first | with_reducible rfl | omega | (rw [half_zero]; done) | (exact congrArg (fun n : Nat => (n : Int)) (List.length_map ..)) | (rw [Int.toNat_natCast, half_step hx, List.map_set, enc_bump hb]; done) | (rw [half_same hx hb]; done) | rfl | (simp; done)) | rfl)))))); (focus omega); (focus (first | omega | (dsimp only; omega) | (simp; done) | (simp; omega) | (simp at *; omega))))
        | ((conv => whnf); (try (first | rfl | (exfalso; simp_all; done) | (exfalso; simp at *; omega))); done))


theorem keep_of (xs : List (List V)) (l : List Evt) (c : List Cel) (n : Int) (hx : xs = l.map encE) (hl : l.length ≤ 1000000) (hc : c.length ≤ 1000000) (hn : in64 n) : Fn Try.prog 26 [.sl xs, .sl (c.map encC), .int .i64 n] (.tup [.sl ((keepE l n).map encE), .sl ((keepC l c n).map encC)]) := by
  subst hx; exact keep_fn l c n hl hc hn
theorem snoc_map (l : List Evt) (e : Evt) : l.map encE ++ [(V.agg (encE e)).cells] = (l ++ [e]).map encE := by rw [List.map_append]; rfl

set_option maxRecDepth 100000 in
set_option maxHeartbeats 400000 in
theorem add_fn (l : List Evt) (c : List Cel) (e : Evt) (n : Int) (hl : l.length < 1000000) (hc : c.length ≤ 1000000) (hn : in64 n) : Fn Try.prog 22 [.sl (l.map encE), .sl (c.map encC), .agg [.str e.k, .int .i64 e.n, .str e.v, .bool e.d], .int .i64 n] (.tup [.sl ((keepE (l ++ [e]) n).map encE), .sl ((keepC (l ++ [e]) c n).map encC)]) := by
  refine Fn.mk' base Try.func22 rfl rfl rfl ?_
  have hl2 : (l ++ [e]).length ≤ 1000000 := by rw [List.length_append]; simp; omega
  repeat' (first
      | (with_reducible refine AW.seq ?_) | (with_reducible refine AW.region base (by kernel_rfl) ?_) | (with_reducible refine AW.cond ?_) | (with_reducible refine AW.block ?_) | (with_reducible refine AW.ret ?_) | (with_reducible refine AW.exit ?_) | (with_reducible refine AW.skip ?_)
      | ((conv => whnf); (first
         | (with_reducible refine Br.t ?_)
         | (with_reducible refine Br.f ?_)
         | ((with_reducible refine Or.inl ?_); (conv => whnf); (with_reducible refine And.intro LitSl.mk ?_))
         | (refine Br.t ?_)
         | (refine Br.f ?_)
         | (with_reducible refine Or.inr ⟨[], _, _, _, _, cloneEvent_fn l (by omega), ?_⟩)
         | (with_reducible refine Or.inr (Or.inr ⟨[], _, _, _, _, cloneEvent_fn l (by omega), ?_⟩))
         | ((with_reducible refine Or.inr (Or.inl ?_)); (conv => whnf); (with_reducible refine ⟨_, keep_of (l.map encE ++ [(V.agg (encE e)).cells]) (l ++ [e]) c n (snoc_map l e) hl2 hc hn, ?_⟩))
         | (with_reducible refine Br.mk (fun hb => ?_) (fun hb => ?_) <;> (try rw [hb]) <;> (try simp only [List.length_map, decide_eq_true_eq, decide_eq_false_iff_not, Bool.not_eq_true', Bool.not_eq_false', Int.ofNat_lt, Int.ofNat_le, Int.not_lt, Int.not_le, Int.toNat_natCast] at hb))
         | (with_reducible refine ⟨_, (by first | exact ByteRows.map _ | (repeat (first | exact ByteRows.nil | exact ByteRows.map _ | refine ByteRows.cons ?_ | refine ByteRows.app ?_ ?_))), ?_⟩)
         | (refine Exists.intro _ (And.intro (ByteRows.rep _) ?_))
         | (refine Exists.intro _ (And.intro (ByteRows.app (ByteRows.map _) (ByteRows.cons ByteRows.nil)) ?_))
         | ((with_reducible refine Or.inl (And.intro ?_ ?_)); (focus (first | with_reducible rfl | exact trivial | (exact ⟨rfl, trivial⟩) | (exact ⟨rfl, rfl, trivial⟩) | omega | (intro r hr; simp only [List.mem_singleton] at hr; subst hr; rfl)  | ((exact rows_len (fun _ => rfl) _)) | ((simp only [List.length_map, List.length_cons, List.length_nil]; omega)) | ((intro r hr; simp only [List.mem_singleton] at hr; subst hr; rfl)) | (simp only [in64]; omega) | assumption | (simp; done) | (simp [V.cells]; done) | (simp [in64, maxLen, limK] at *; omega) | ((show confB _ _ = true); kernel_rfl) | rfl)))
         | ((with_reducible refine And.intro ?_ ?_); (focus (first | with_reducible rfl | exact trivial | (exact ⟨rfl, trivial⟩) | (exact ⟨rfl, rfl, trivial⟩) | omega | (intro r hr; simp only [List.mem_singleton] at hr; subst hr; rfl)  | ((exact rows_len (fun _ => rfl) _)) | ((simp only [List.length_map, List.length_cons, List.length_nil]; omega)) | ((intro r hr; simp only [List.mem_singleton] at hr; subst hr; rfl)) | (simp only [in64]; omega) | assumption | (simp; done) | (simp [V.cells]; done) | (simp [in64, maxLen, limK] at *; omega) | ((show confB _ _ = true); kernel_rfl) | rfl)))
         | (intro row hrow; (try simp only [Int.toNat_natCast, List.length_map, toNat_pred, toNat_succ', toNat_zero', toNat_one'] at hrow); (first | (have hsm := same_map (by assumption) hrow; subst hsm; clear hrow) | (obtain ⟨p, hp, rfl⟩ := of_map hrow; clear hrow)))
         | (with_reducible refine AW.seq ?_) | (with_reducible refine AW.region base (by kernel_rfl) ?_) | (with_reducible refine AW.cond ?_) | (with_reducible refine AW.block ?_) | (with_reducible refine AW.ret ?_) | (with_reducible refine AW.exit ?_) | (with_reducible refine AW.skip ?_))))
  all_goals (conv => whnf)
  all_goals (first | rfl | (simp only [V.bool.injEq, V.tup.injEq, V.agg.injEq, V.str.injEq, V.int.injEq, V.sl.injEq, V.ifc.injEq, List.cons.injEq, and_true, true_and, and_self]; done) | (simp only [V.bool.injEq, V.tup.injEq, V.agg.injEq, V.str.injEq, V.int.injEq, V.sl.injEq, V.ifc.injEq, List.cons.injEq, and_true, true_and, and_self]; grind) | (simp  at *; done) | (simp  at *; grind))

theorem any_within (c : List Cel) (s : Span) (seen : List Sn) : overB c s seen = (c.filter fun x => hasB s x.k).any fun x => decide (seenOf seen x.k < x.f) := by
  unfold overB
  induction c with
  | nil => rfl
  | cons x r ih => rw [List.any_cons, List.filter_cons, ih]; cases hasB s x.k <;> simp
theorem aft_all (l : List Evt) (s : Span) (seen : List Sn) (most : Int) (i : Nat) (h : l.length ≤ i) : ((l.take i).filter (aftQ s seen)).take most.toNat = aftE l s seen most := by
  rw [List.take_of_length_le h]; rfl
theorem aft_len (l : List Evt) (s : Span) (seen : List Sn) (most : Int) (i : Nat) : (((l.take i).filter (aftQ s seen)).take most.toNat).length ≤ i := by
  rw [List.length_take]; exact Nat.le_trans (Nat.min_le_right _ _) (fst_length _ _ _)
theorem Fn.altT {f : FuncId} {args : List V} {r r' : V} (h : Fn Try.prog f args r) : Fn Try.prog f args (.alt true r r') := ⟨fun w R xs a b c => (h.run w R xs a b c).mono fun x w' ⟨hb, R', h1, h2, h3⟩ => ⟨hb, R', h1, h2, .altT h3⟩⟩
theorem Fn.altF {f : FuncId} {args : List V} {r r' : V} (h : Fn Try.prog f args r') : Fn Try.prog f args (.alt false r r') := ⟨fun w R xs a b c => (h.run w R xs a b c).mono fun x w' ⟨hb, R', h1, h2, h3⟩ => ⟨hb, R', h1, h2, .altF h3⟩⟩

set_option maxRecDepth 100000 in
set_option maxHeartbeats 1000000 in
theorem after_ok (l : List Evt) (c : List Cel) (s : Span) (seen : List Sn) (most : Int) (hl : l.length ≤ 1000000) (hc : c.length ≤ 1000000) (h : overB c s seen = false) : Fn Try.prog 25 [.sl (l.map encE), .sl (c.map encC), .agg [.str s.f, .str s.t], .sl (seen.map encN), .int .i64 most] (.tup [.sl ((aftE l s seen most).map encE), .bool false]) := by
  refine Fn.mk' base Try.func25 rfl rfl rfl ?_
  rw [any_within] at h
  repeat' (first
      | (with_reducible refine AW.seq ?_) | (with_reducible refine AW.region base (by kernel_rfl) ?_) | (with_reducible refine AW.cond ?_) | (with_reducible refine AW.block ?_) | (with_reducible refine AW.ret ?_) | (with_reducible refine AW.exit ?_) | (with_reducible refine AW.skip ?_)
      | ((conv => whnf); (first
         | (with_reducible refine Br.t ?_)
         | (with_reducible refine Br.f ?_)
         | ((with_reducible refine Or.inl ?_); (conv => whnf); (with_reducible refine And.intro LitSl.mk ?_))
         | (refine Br.t ?_)
         | (refine Br.f ?_)
         | (with_reducible refine Or.inl ⟨_, indexWithin_fn c s hc, ?_⟩)
         | ((with_reducible refine Or.inl ?_); (conv => whnf); (with_reducible refine ⟨_, indexWithin_fn c s hc, ?_⟩))
         | (with_reducible refine Or.inl ⟨_, tokenOf_fn seen _, ?_⟩)
         | ((with_reducible refine Or.inl ?_); (conv => whnf); (with_reducible refine ⟨_, tokenOf_fn seen _, ?_⟩))
         | (with_reducible refine Or.inl ⟨_, has_fn s _, ?_⟩)
         | ((with_reducible refine Or.inl ?_); (conv => whnf); (with_reducible refine ⟨_, has_fn s _, ?_⟩))
         | (with_reducible refine Br.mk (fun hb => ?_) (fun hb => ?_) <;> (try rw [hb]) <;> (try simp only [List.length_map, decide_eq_true_eq, decide_eq_false_iff_not, Bool.not_eq_true', Bool.not_eq_false', Int.ofNat_lt, Int.ofNat_le, Int.not_lt, Int.not_le, Int.toNat_natCast] at hb))
         | (with_reducible refine ⟨_, (by first | exact ByteRows.map _ | (repeat (first | exact ByteRows.nil | exact ByteRows.map _ | refine ByteRows.cons ?_ | refine ByteRows.app ?_ ?_))), ?_⟩)
         | (refine Exists.intro _ (And.intro (ByteRows.rep _) ?_))
         | (refine Exists.intro _ (And.intro (ByteRows.app (ByteRows.map _) (ByteRows.cons ByteRows.nil)) ?_))
         | ((with_reducible refine Or.inl (And.intro ?_ ?_)); (focus (first | with_reducible rfl | exact trivial | (exact ⟨rfl, trivial⟩) | (exact ⟨rfl, rfl, trivial⟩) | omega | (intro r hr; simp only [List.mem_singleton] at hr; subst hr; rfl)  | ((simp only [List.length_map] at *; omega)) | ((simp only [List.length_map, List.length_cons, List.length_nil]; have hal := aft_len l s seen most i; omega)) | ((intro r hr; exact rows_len (fun _ => rfl) _ r hr)) | (simp only [in64]; omega) | assumption | (simp; done) | (simp [V.cells]; done) | (simp [in64, maxLen, limK] at *; omega) | ((show confB _ _ = true); kernel_rfl) | rfl)))
         | ((with_reducible refine And.intro ?_ ?_); (focus (first | with_reducible rfl | exact trivial | (exact ⟨rfl, trivial⟩) | (exact ⟨rfl, rfl, trivial⟩) | omega | (intro r hr; simp only [List.mem_singleton] at hr; subst hr; rfl)  | ((simp only [List.length_map] at *; omega)) | ((simp only [List.length_map, List.length_cons, List.length_nil]; have hal := aft_len l s seen most i; omega)) | ((intro r hr; exact rows_len (fun _ => rfl) _ r hr)) | (simp only [in64]; omega) | assumption | (simp; done) | (simp [V.cells]; done) | (simp [in64, maxLen, limK] at *; omega) | ((show confB _ _ = true); kernel_rfl) | rfl)))
         | (intro row hrow; (try simp only [Int.toNat_natCast, List.length_map, toNat_pred, toNat_succ', toNat_zero', toNat_one'] at hrow); (first | (have hsm := same_map (by assumption) hrow; subst hsm; clear hrow) | (obtain ⟨p, hp, rfl⟩ := of_map hrow; clear hrow)))
         | (with_reducible refine AW.seq ?_) | (with_reducible refine AW.region base (by kernel_rfl) ?_) | (with_reducible refine AW.cond ?_) | (with_reducible refine AW.block ?_) | (with_reducible refine AW.ret ?_) | (with_reducible refine AW.exit ?_) | (with_reducible refine AW.skip ?_))))
  refine AW.loop (fun (i : Nat) => i ≤ (c.filter fun x => hasB s x.k).length) (fun (i : Nat) => ⟨[(0, .sl (l.map encE)), (3, .sl (seen.map encN)), (4, .int .i64 most), (7, .ptr 0 0), (19, .sl ((c.filter fun x => hasB s x.k).map encC)), (20, .int .i64 (((c.filter fun x => hasB s x.k).map encC).length : Int)), (21, .int .i64 (i : Int))], [.cells [.str s.f, .str s.t]]⟩) (fun (i : Nat) => (c.filter fun x => hasB s x.k).length - i) 0 ?_ ?_ ?_
  · omega
  · (refine ⟨⟨[1000], ?_⟩⟩; repeat' (first | (with_reducible rfl) | exact trivial | ((conv => whnf); (first | (with_reducible refine And.intro ?_ ?_) | (first | with_reducible rfl | (refine congrArg V.str ?_; (first | with_reducible rfl | omega | rfl | (simp; done))) | (refine congrArg (V.int _) ?_; (first | with_reducible rfl | omega | rfl | (simp; done))) | (refine congrArg V.bool ?_; (first | with_reducible rfl | omega | rfl | (simp; done))) | (refine congrArg V.sl ?_; (first | with_reducible rfl | omega | rfl | (simp; done))) | (first | with_reducible rfl | omega | rfl | (simp; done)) | rfl)))))
  · rintro i hk
    have hww : (c.filter fun x => hasB s x.k).length ≤ c.length := List.length_filter_le _ _
    rcases (by omega : i = (c.filter fun x => hasB s x.k).length ∨ i < (c.filter fun x => hasB s x.k).length) with hi | hi
    · subst hi
      repeat' (first
          | (with_reducible refine AW.seq ?_) | (with_reducible refine AW.region base (by kernel_rfl) ?_) | (with_reducible refine AW.cond ?_) | (with_reducible refine AW.block ?_) | (with_reducible refine AW.ret ?_) | (with_reducible refine AW.exit ?_) | (with_reducible refine AW.skip ?_)
          | ((conv => whnf); (first
             | (with_reducible refine Br.t ?_)
             | (with_reducible refine Br.f ?_)
             | ((with_reducible refine Or.inl ?_); (conv => whnf); (with_reducible refine And.intro LitSl.mk ?_))
             | (refine Br.t ?_)
             | (refine Br.f ?_)
             | (with_reducible refine Br.mk (fun hb => ?_) (fun hb => (by exfalso; (first | (simp at hb; done) | omega | (simp at hb; omega) | (simp only [List.length_map] at hb; omega) | (rw [h] at hb; simp at hb; done) | fail))))
             | (with_reducible refine Br.mk (fun hb => (by exfalso; (first | (simp at hb; done) | omega | (simp at hb; omega) | (simp only [List.length_map] at hb; omega) | (rw [h] at hb; simp at hb; done) | fail))) (fun hb => ?_))
             | (with_reducible refine Or.inl ⟨_, indexWithin_fn c s hc, ?_⟩)
             | ((with_reducible refine Or.inl ?_); (conv => whnf); (with_reducible refine ⟨_, indexWithin_fn c s hc, ?_⟩))
             | (with_reducible refine Or.inl ⟨_, tokenOf_fn seen _, ?_⟩)
             | ((with_reducible refine Or.inl ?_); (conv => whnf); (with_reducible refine ⟨_, tokenOf_fn seen _, ?_⟩))
             | (with_reducible refine Or.inl ⟨_, has_fn s _, ?_⟩)
             | ((with_reducible refine Or.inl ?_); (conv => whnf); (with_reducible refine ⟨_, has_fn s _, ?_⟩))
             | (with_reducible refine Br.mk (fun hb => ?_) (fun hb => ?_) <;> (try rw [hb]) <;> (try simp only [List.length_map, decide_eq_true_eq, decide_eq_false_iff_not, Bool.not_eq_true', Bool.not_eq_false', Int.ofNat_lt, Int.ofNat_le, Int.not_lt, Int.not_le, Int.toNat_natCast] at hb))
             | (with_reducible refine ⟨_, (by first | exact ByteRows.map _ | (repeat (first | exact ByteRows.nil | exact ByteRows.map _ | refine ByteRows.cons ?_ | refine ByteRows.app ?_ ?_))), ?_⟩)
             | (refine Exists.intro _ (And.intro (ByteRows.rep _) ?_))
             | (refine Exists.intro _ (And.intro (ByteRows.app (ByteRows.map _) (ByteRows.cons ByteRows.nil)) ?_))
             | ((with_reducible refine Or.inl (And.intro ?_ ?_)); (focus (first | with_reducible rfl | exact trivial | (exact ⟨rfl, trivial⟩) | (exact ⟨rfl, rfl, trivial⟩) | omega | (intro r hr; simp only [List.mem_singleton] at hr; subst hr; rfl)  | ((simp only [List.length_map] at *; omega)) | ((simp only [List.length_map, List.length_cons, List.length_nil]; have hal := aft_len l s seen most i; omega)) | ((intro r hr; exact rows_len (fun _ => rfl) _ r hr)) | (simp only [in64]; omega) | assumption | (simp; done) | (simp [V.cells]; done) | (simp [in64, maxLen, limK] at *; omega) | ((show confB _ _ = true); kernel_rfl) | rfl)))
             | ((with_reducible refine And.intro ?_ ?_); (focus (first | with_reducible rfl | exact trivial | (exact ⟨rfl, trivial⟩) | (exact ⟨rfl, rfl, trivial⟩) | omega | (intro r hr; simp only [List.mem_singleton] at hr; subst hr; rfl)  | ((simp only [List.length_map] at *; omega)) | ((simp only [List.length_map, List.length_cons, List.length_nil]; have hal := aft_len l s seen most i; omega)) | ((intro r hr; exact rows_len (fun _ => rfl) _ r hr)) | (simp only [in64]; omega) | assumption | (simp; done) | (simp [V.cells]; done) | (simp [in64, maxLen, limK] at *; omega) | ((show confB _ _ = true); kernel_rfl) | rfl)))
             | (intro row hrow; (try simp only [Int.toNat_natCast, List.length_map, toNat_pred, toNat_succ', toNat_zero', toNat_one'] at hrow); (first | (have hsm := same_map (by assumption) hrow; subst hsm; clear hrow) | (obtain ⟨p, hp, rfl⟩ := of_map hrow; clear hrow)))
             | (with_reducible refine AW.seq ?_) | (with_reducible refine AW.region base (by kernel_rfl) ?_) | (with_reducible refine AW.cond ?_) | (with_reducible refine AW.block ?_) | (with_reducible refine AW.ret ?_) | (with_reducible refine AW.exit ?_) | (with_reducible refine AW.skip ?_))))
      refine AW.adopt 14 999999999 (el := 47) rfl rfl (rows_of 40 rfl) ?_
      refine AW.loop (fun (i : Nat) => i ≤ l.length) (fun (i : Nat) => ⟨[(3, .sl (seen.map encN)), (4, .int .i64 most), (7, .ptr 0 0), (14, .own 1), (33, .sl (l.map encE)), (34, .int .i64 ((l.map encE).length : Int)), (35, .int .i64 (i : Int))], [.cells [.str s.f, .str s.t], .rows 47 ((((l.take i).filter (aftQ s seen)).take most.toNat).map encE)]⟩) (fun (i : Nat) => l.length - i) 0 ?_ ?_ ?_
      · omega
      · (refine ⟨⟨[0, 999999999], ?_⟩⟩; repeat' (first | (with_reducible rfl) | exact trivial | ((conv => whnf); (first | (with_reducible refine And.intro ?_ ?_) | (first | with_reducible rfl | (refine congrArg V.str ?_; (first | with_reducible rfl | omega | (rw [aft_step s seen most hp]; first | (rw [if_pos (by simp only [aftQ, Bool.and_eq_true, decide_eq_true_eq]; refine ⟨⟨?_, ?_⟩, ?_⟩ <;> first | assumption | omega | (simp only [List.length_map] at *; omega)), List.map_append]; rfl) | (rw [if_neg (by simp only [aftQ, Bool.and_eq_true, decide_eq_true_eq]; rintro ⟨⟨h1, h2⟩, h3⟩; first | omega | (rw [h1] at hb; cases hb) | (simp only [List.length_map] at *; omega)), List.append_nil]; done)) | (simp; done) | rfl | (simp; done))) | (refine congrArg (V.int _) ?_; (first | with_reducible rfl | omega | (rw [aft_step s seen most hp]; first | (rw [if_pos (by simp only [aftQ, Bool.and_eq_true, decide_eq_true_eq]; refine ⟨⟨?_, ?_⟩, ?_⟩ <;> first | assumption | omega | (simp only [List.length_map] at *; omega)), List.map_append]; rfl) | (rw [if_neg (by simp only [aftQ, Bool.and_eq_true, decide_eq_true_eq]; rintro ⟨⟨h1, h2⟩, h3⟩; first | omega | (rw [h1] at hb; cases hb) | (simp only [List.length_map] at *; omega)), List.append_nil]; done)) | (simp; done) | rfl | (simp; done))) | (refine congrArg V.bool ?_; (first | with_reducible rfl | omega | (rw [aft_step s seen most hp]; first | (rw [if_pos (by simp only [aftQ, Bool.and_eq_true, decide_eq_true_eq]; refine ⟨⟨?_, ?_⟩, ?_⟩ <;> first | assumption | omega | (simp only [List.length_map] at *; omega)), List.map_append]; rfl) | (rw [if_neg (by simp only [aftQ, Bool.and_eq_true, decide_eq_true_eq]; rintro ⟨⟨h1, h2⟩, h3⟩; first | omega | (rw [h1] at hb; cases hb) | (simp only [List.length_map] at *; omega)), List.append_nil]; done)) | (simp; done) | rfl | (simp; done))) | (refine congrArg V.sl ?_; (first | with_reducible rfl | omega | (rw [aft_step s seen most hp]; first | (rw [if_pos (by simp only [aftQ, Bool.and_eq_true, decide_eq_true_eq]; refine ⟨⟨?_, ?_⟩, ?_⟩ <;> first | assumption | omega | (simp only [List.length_map] at *; omega)), List.map_append]; rfl) | (rw [if_neg (by simp only [aftQ, Bool.and_eq_true, decide_eq_true_eq]; rintro ⟨⟨h1, h2⟩, h3⟩; first | omega | (rw [h1] at hb; cases hb) | (simp only [List.length_map] at *; omega)), List.append_nil]; done)) | (simp; done) | rfl | (simp; done))) | (first | with_reducible rfl | omega | (rw [aft_step s seen most hp]; first | (rw [if_pos (by simp only [aftQ, Bool.and_eq_true, decide_eq_true_eq]; refine ⟨⟨?_, ?_⟩, ?_⟩ <;> first | assumption | omega | (simp only [List.length_map] at *; omega)), List.map_append]; rfl) | (rw [if_neg (by simp only [aftQ, Bool.and_eq_true, decide_eq_true_eq]; rintro ⟨⟨h1, h2⟩, h3⟩; first | omega | (rw [h1] at hb; cases hb) | (simp only [List.length_map] at *; omega)), List.append_nil]; done)) | (simp; done) | rfl | (simp; done)) | rfl)))))
      · rintro i hk
        repeat' (first
            | (with_reducible refine AW.seq ?_) | (with_reducible refine AW.region base (by kernel_rfl) ?_) | (with_reducible refine AW.cond ?_) | (with_reducible refine AW.block ?_) | (with_reducible refine AW.ret ?_) | (with_reducible refine AW.exit ?_) | (with_reducible refine AW.skip ?_)
            | ((conv => whnf); (first
               | (with_reducible refine Br.t ?_)
               | (with_reducible refine Br.f ?_)
               | ((with_reducible refine Or.inl ?_); (conv => whnf); (with_reducible refine And.intro LitSl.mk ?_))
               | (refine Br.t ?_)
               | (refine Br.f ?_)
               | (with_reducible refine Or.inl ⟨_, indexWithin_fn c s hc, ?_⟩)
               | ((with_reducible refine Or.inl ?_); (conv => whnf); (with_reducible refine ⟨_, indexWithin_fn c s hc, ?_⟩))
               | (with_reducible refine Or.inl ⟨_, tokenOf_fn seen _, ?_⟩)
               | ((with_reducible refine Or.inl ?_); (conv => whnf); (with_reducible refine ⟨_, tokenOf_fn seen _, ?_⟩))
               | (with_reducible refine Or.inl ⟨_, has_fn s _, ?_⟩)
               | ((with_reducible refine Or.inl ?_); (conv => whnf); (with_reducible refine ⟨_, has_fn s _, ?_⟩))
               | (with_reducible refine Br.mk (fun hb => ?_) (fun hb => ?_) <;> (try rw [hb]) <;> (try simp only [List.length_map, decide_eq_true_eq, decide_eq_false_iff_not, Bool.not_eq_true', Bool.not_eq_false', Int.ofNat_lt, Int.ofNat_le, Int.not_lt, Int.not_le, Int.toNat_natCast] at hb))
               | (with_reducible refine ⟨_, (by first | exact ByteRows.map _ | (repeat (first | exact ByteRows.nil | exact ByteRows.map _ | refine ByteRows.cons ?_ | refine ByteRows.app ?_ ?_))), ?_⟩)
               | (refine Exists.intro _ (And.intro (ByteRows.rep _) ?_))
               | (refine Exists.intro _ (And.intro (ByteRows.app (ByteRows.map _) (ByteRows.cons ByteRows.nil)) ?_))
               | ((with_reducible refine Or.inl (And.intro ?_ ?_)); (focus (first | with_reducible rfl | exact trivial | (exact ⟨rfl, trivial⟩) | (exact ⟨rfl, rfl, trivial⟩) | omega | (intro r hr; simp only [List.mem_singleton] at hr; subst hr; rfl)  | ((simp only [List.length_map] at *; omega)) | ((simp only [List.length_map, List.length_cons, List.length_nil]; have hal := aft_len l s seen most i; omega)) | ((intro r hr; exact rows_len (fun _ => rfl) _ r hr)) | (simp only [in64]; omega) | assumption | (simp; done) | (simp [V.cells]; done) | (simp [in64, maxLen, limK] at *; omega) | ((show confB _ _ = true); kernel_rfl) | rfl)))
               | ((with_reducible refine And.intro ?_ ?_); (focus (first | with_reducible rfl | exact trivial | (exact ⟨rfl, trivial⟩) | (exact ⟨rfl, rfl, trivial⟩) | omega | (intro r hr; simp only [List.mem_singleton] at hr; subst hr; rfl)  | ((simp only [List.length_map] at *; omega)) | ((simp only [List.length_map, List.length_cons, List.length_nil]; have hal := aft_len l s seen most i; omega)) | ((intro r hr; exact rows_len (fun _ => rfl) _ r hr)) | (simp only [in64]; omega) | assumption | (simp; done) | (simp [V.cells]; done) | (simp [in64, maxLen, limK] at *; omega) | ((show confB _ _ = true); kernel_rfl) | rfl)))
               | (intro row hrow; (try simp only [Int.toNat_natCast, List.length_map, toNat_pred, toNat_succ', toNat_zero', toNat_one'] at hrow); (first | (have hsm := same_map (by assumption) hrow; subst hsm; clear hrow) | (obtain ⟨p, hp, rfl⟩ := of_map hrow; clear hrow)))
               | (with_reducible refine AW.seq ?_) | (with_reducible refine AW.region base (by kernel_rfl) ?_) | (with_reducible refine AW.cond ?_) | (with_reducible refine AW.block ?_) | (with_reducible refine AW.ret ?_) | (with_reducible refine AW.exit ?_) | (with_reducible refine AW.skip ?_))))
        all_goals (try first | with_reducible assumption | ((show (_ : Int) ≤ _); (first | omega | (simp at *; omega))) | ((show (_ : Nat) ≤ _); (first | omega | (simp at *; omega))) | ((show in64 _); (simp only [in64] at *; (first | omega | (simp at *; omega)))) | ((show (_ : Int) < _); (first | omega | (simp at *; omega))) | ((show ¬ (_ : Int) = _); (first | omega | (simp at *; omega))) | ((with_reducible refine And.intro ?_ ?_) <;> (first | omega | (simp at *; omega))))
        all_goals (first
          | (with_reducible exact absurd rfl (by assumption))
          | ((conv => whnf); (refine ⟨(i + 1), ?_⟩); (refine And.intro ?_ (And.intro ?_ ?_)); (focus (refine ⟨⟨[0, ?_], ?_⟩⟩; rotate_left 1; repeat' (first | (with_reducible rfl) | exact trivial | ((conv => whnf); (first | (with_reducible refine And.intro ?_ ?_) | (first | with_reducible rfl | (refine congrArg V.str ?_; (first | with_reducible rfl | omega | (rw [aft_step s seen most hp]; first | (rw [if_pos (by simp only [aftQ, Bool.and_eq_true, decide_eq_true_eq]; refine ⟨⟨?_, ?_⟩, ?_⟩ <;> first | assumption | omega | (simp only [List.length_map] at *; omega)), List.map_append]; rfl) | (rw [if_neg (by simp only [aftQ, Bool.and_eq_true, decide_eq_true_eq]; rintro ⟨⟨h1, h2⟩, h3⟩; first | omega | (rw [h1] at hb; cases hb) | (simp only [List.length_map] at *; omega)), List.append_nil]; done)) | (simp; done) | rfl | (simp; done))) | (refine congrArg (V.int _) ?_; (first | with_reducible rfl | omega | (rw [aft_step s seen most hp]; first | (rw [if_pos (by simp only [aftQ, Bool.and_eq_true, decide_eq_true_eq]; refine ⟨⟨?_, ?_⟩, ?_⟩ <;> first | assumption | omega | (simp only [List.length_map] at *; omega)), List.map_append]; rfl) | (rw [if_neg (by simp only [aftQ, Bool.and_eq_true, decide_eq_true_eq]; rintro ⟨⟨h1, h2⟩, h3⟩; first | omega | (rw [h1] at hb; cases hb) | (simp only [List.length_map] at *; omega)), List.append_nil]; done)) | (simp; done) | rfl | (simp; done))) | (refine congrArg V.bool ?_; (first | with_reducible rfl | omega | (rw [aft_step s seen most hp]; first | (rw [if_pos (by simp only [aftQ, Bool.and_eq_true, decide_eq_true_eq]; refine ⟨⟨?_, ?_⟩, ?_⟩ <;> first | assumption | omega | (simp only [List.length_map] at *; omega)), List.map_append]; rfl) | (rw [if_neg (by simp only [aftQ, Bool.and_eq_true, decide_eq_true_eq]; rintro ⟨⟨h1, h2⟩, h3⟩; first | omega | (rw [h1] at hb; cases hb) | (simp only [List.length_map] at *; omega)), List.append_nil]; done)) | (simp; done) | rfl | (simp; done))) | (refine congrArg V.sl ?_; (first | with_reducible rfl | omega | (rw [aft_step s seen most hp]; first | (rw [if_pos (by simp only [aftQ, Bool.and_eq_true, decide_eq_true_eq]; refine ⟨⟨?_, ?_⟩, ?_⟩ <;> first | assumption | omega | (simp only [List.length_map] at *; omega)), List.map_append]; rfl) | (rw [if_neg (by simp only [aftQ, Bool.and_eq_true, decide_eq_true_eq]; rintro ⟨⟨h1, h2⟩, h3⟩; first | omega | (rw [h1] at hb; cases hb) | (simp only [List.length_map] at *; omega)), List.append_nil]; done)) | (simp; done) | rfl | (simp; done))) | (first | with_reducible rfl | omega | (rw [aft_step s seen most hp]; first | (rw [if_pos (by simp only [aftQ, Bool.and_eq_true, decide_eq_true_eq]; refine ⟨⟨?_, ?_⟩, ?_⟩ <;> first | assumption | omega | (simp only [List.length_map] at *; omega)), List.map_append]; rfl) | (rw [if_neg (by simp only [aftQ, Bool.and_eq_true, decide_eq_true_eq]; rintro ⟨⟨h1, h2⟩, h3⟩; first | omega | (rw [h1] at hb; cases hb) | (simp only [List.length_map] at *; omega)), List.append_nil]; done)) | (simp; done) | rfl | (simp; done)) | rfl)))))); (focus omega); (focus (first | omega | (dsimp only; omega) | (simp; done) | (simp; omega) | (simp at *; omega))))
          | ((conv => whnf); (try (first | rfl | (exfalso; simp_all; done) | (exfalso; simp at *; omega) | (rw [aft_all l s seen most i (by simp at *; omega)]))); done))
    repeat' (first
        | (with_reducible refine AW.seq ?_) | (with_reducible refine AW.region base (by kernel_rfl) ?_) | (with_reducible refine AW.cond ?_) | (with_reducible refine AW.block ?_) | (with_reducible refine AW.ret ?_) | (with_reducible refine AW.exit ?_) | (with_reducible refine AW.skip ?_)
        | ((conv => whnf); (first
           | (with_reducible refine Br.t ?_)
           | (with_reducible refine Br.f ?_)
           | ((with_reducible refine Or.inl ?_); (conv => whnf); (with_reducible refine And.intro LitSl.mk ?_))
           | (refine Br.t ?_)
           | (refine Br.f ?_)
           | (with_reducible refine Br.mk (fun hb => ?_) (fun hb => (by exfalso; (first | (simp at hb; done) | omega | (simp at hb; omega) | (simp only [List.length_map] at hb; omega) | (rw [h] at hb; simp at hb; done) | fail))))
           | (with_reducible refine Br.mk (fun hb => (by exfalso; (first | (simp at hb; done) | omega | (simp at hb; omega) | (simp only [List.length_map] at hb; omega) | (rw [h] at hb; simp at hb; done) | fail))) (fun hb => ?_))
           | (with_reducible refine Or.inl ⟨_, indexWithin_fn c s hc, ?_⟩)
           | ((with_reducible refine Or.inl ?_); (conv => whnf); (with_reducible refine ⟨_, indexWithin_fn c s hc, ?_⟩))
           | (with_reducible refine Or.inl ⟨_, tokenOf_fn seen _, ?_⟩)
           | ((with_reducible refine Or.inl ?_); (conv => whnf); (with_reducible refine ⟨_, tokenOf_fn seen _, ?_⟩))
           | (with_reducible refine Or.inl ⟨_, has_fn s _, ?_⟩)
           | ((with_reducible refine Or.inl ?_); (conv => whnf); (with_reducible refine ⟨_, has_fn s _, ?_⟩))
           | (with_reducible refine Br.mk (fun hb => ?_) (fun hb => ?_) <;> (try rw [hb]) <;> (try simp only [List.length_map, decide_eq_true_eq, decide_eq_false_iff_not, Bool.not_eq_true', Bool.not_eq_false', Int.ofNat_lt, Int.ofNat_le, Int.not_lt, Int.not_le, Int.toNat_natCast] at hb))
           | (with_reducible refine ⟨_, (by first | exact ByteRows.map _ | (repeat (first | exact ByteRows.nil | exact ByteRows.map _ | refine ByteRows.cons ?_ | refine ByteRows.app ?_ ?_))), ?_⟩)
           | (refine Exists.intro _ (And.intro (ByteRows.rep _) ?_))
           | (refine Exists.intro _ (And.intro (ByteRows.app (ByteRows.map _) (ByteRows.cons ByteRows.nil)) ?_))
           | ((with_reducible refine Or.inl (And.intro ?_ ?_)); (focus (first | with_reducible rfl | exact trivial | (exact ⟨rfl, trivial⟩) | (exact ⟨rfl, rfl, trivial⟩) | omega | (intro r hr; simp only [List.mem_singleton] at hr; subst hr; rfl)  | ((simp only [List.length_map] at *; omega)) | ((simp only [List.length_map, List.length_cons, List.length_nil]; have hal := aft_len l s seen most i; omega)) | ((intro r hr; exact rows_len (fun _ => rfl) _ r hr)) | (simp only [in64]; omega) | assumption | (simp; done) | (simp [V.cells]; done) | (simp [in64, maxLen, limK] at *; omega) | ((show confB _ _ = true); kernel_rfl) | rfl)))
           | ((with_reducible refine And.intro ?_ ?_); (focus (first | with_reducible rfl | exact trivial | (exact ⟨rfl, trivial⟩) | (exact ⟨rfl, rfl, trivial⟩) | omega | (intro r hr; simp only [List.mem_singleton] at hr; subst hr; rfl)  | ((simp only [List.length_map] at *; omega)) | ((simp only [List.length_map, List.length_cons, List.length_nil]; have hal := aft_len l s seen most i; omega)) | ((intro r hr; exact rows_len (fun _ => rfl) _ r hr)) | (simp only [in64]; omega) | assumption | (simp; done) | (simp [V.cells]; done) | (simp [in64, maxLen, limK] at *; omega) | ((show confB _ _ = true); kernel_rfl) | rfl)))
           | (intro row hrow; (try simp only [Int.toNat_natCast, List.length_map, toNat_pred, toNat_succ', toNat_zero', toNat_one'] at hrow); (first | (have hsm := same_map (by assumption) hrow; subst hsm; clear hrow) | (obtain ⟨p, hp, rfl⟩ := of_map hrow; clear hrow)))
           | (with_reducible refine AW.seq ?_) | (with_reducible refine AW.region base (by kernel_rfl) ?_) | (with_reducible refine AW.cond ?_) | (with_reducible refine AW.block ?_) | (with_reducible refine AW.ret ?_) | (with_reducible refine AW.exit ?_) | (with_reducible refine AW.skip ?_))))
    all_goals (try first | with_reducible assumption | ((show (_ : Int) ≤ _); (first | omega | (simp at *; omega))) | ((show (_ : Nat) ≤ _); (first | omega | (simp at *; omega))) | ((show in64 _); (simp only [in64] at *; (first | omega | (simp at *; omega)))) | ((show (_ : Int) < _); (first | omega | (simp at *; omega))) | ((show ¬ (_ : Int) = _); (first | omega | (simp at *; omega))) | ((with_reducible refine And.intro ?_ ?_) <;> (first | omega | (simp at *; omega))))
    all_goals (first
      | (with_reducible exact absurd rfl (by assumption))
      | ((conv => whnf); (refine ⟨(i + 1), ?_⟩); (refine And.intro ?_ (And.intro ?_ ?_)); (focus (refine ⟨⟨[0], ?_⟩⟩; repeat' (first | (with_reducible rfl) | exact trivial | ((conv => whnf); (first | (with_reducible refine And.intro ?_ ?_) | (first | with_reducible rfl | (refine congrArg V.str ?_; (first | with_reducible rfl | omega | rfl | (simp; done))) | (refine congrArg (V.int _) ?_; (first | with_reducible rfl | omega | rfl | (simp; done))) | (refine congrArg V.bool ?_; (first | with_reducible rfl | omega | rfl | (simp; done))) | (refine congrArg V.sl ?_; (first | with_reducible rfl | omega | rfl | (simp; done))) | (first | with_reducible rfl | omega | rfl | (simp; done)) | rfl)))))); (focus omega); (focus (first | omega | (dsimp only; omega) | (simp; done) | (simp; omega) | (simp at *; omega))))
      | ((conv => whnf); (try (first | rfl | (exfalso; simp_all; done) | (exfalso; simp at *; omega) | (exfalso; rw [List.any_eq_false] at h; have := h p (List.mem_of_getElem? hp); simp_all; done))); done))


set_option maxRecDepth 100000 in
set_option maxHeartbeats 1000000 in
theorem after_over (l : List Evt) (c : List Cel) (s : Span) (seen : List Sn) (most : Int) (hl : l.length ≤ 1000000) (hc : c.length ≤ 1000000) (h : overB c s seen = true) : Fn Try.prog 25 [.sl (l.map encE), .sl (c.map encC), .agg [.str s.f, .str s.t], .sl (seen.map encN), .int .i64 most] (.tup [.nils, .bool true]) := by
  refine Fn.mk' base Try.func25 rfl rfl rfl ?_
  rw [any_within] at h
  repeat' (first
      | (with_reducible refine AW.seq ?_) | (with_reducible refine AW.region base (by kernel_rfl) ?_) | (with_reducible refine AW.cond ?_) | (with_reducible refine AW.block ?_) | (with_reducible refine AW.ret ?_) | (with_reducible refine AW.exit ?_) | (with_reducible refine AW.skip ?_)
      | ((conv => whnf); (first
         | (with_reducible refine Br.t ?_)
         | (with_reducible refine Br.f ?_)
         | ((with_reducible refine Or.inl ?_); (conv => whnf); (with_reducible refine And.intro LitSl.mk ?_))
         | (refine Br.t ?_)
         | (refine Br.f ?_)
         | (with_reducible refine Or.inl ⟨_, indexWithin_fn c s hc, ?_⟩)
         | ((with_reducible refine Or.inl ?_); (conv => whnf); (with_reducible refine ⟨_, indexWithin_fn c s hc, ?_⟩))
         | (with_reducible refine Or.inl ⟨_, tokenOf_fn seen _, ?_⟩)
         | ((with_reducible refine Or.inl ?_); (conv => whnf); (with_reducible refine ⟨_, tokenOf_fn seen _, ?_⟩))
         | (with_reducible refine Or.inl ⟨_, has_fn s _, ?_⟩)
         | ((with_reducible refine Or.inl ?_); (conv => whnf); (with_reducible refine ⟨_, has_fn s _, ?_⟩))
         | (with_reducible refine Br.mk (fun hb => ?_) (fun hb => ?_) <;> (try rw [hb]) <;> (try simp only [List.length_map, decide_eq_true_eq, decide_eq_false_iff_not, Bool.not_eq_true', Bool.not_eq_false', Int.ofNat_lt, Int.ofNat_le, Int.not_lt, Int.not_le, Int.toNat_natCast] at hb))
         | (with_reducible refine ⟨_, (by first | exact ByteRows.map _ | (repeat (first | exact ByteRows.nil | exact ByteRows.map _ | refine ByteRows.cons ?_ | refine ByteRows.app ?_ ?_))), ?_⟩)
         | (refine Exists.intro _ (And.intro (ByteRows.rep _) ?_))
         | (refine Exists.intro _ (And.intro (ByteRows.app (ByteRows.map _) (ByteRows.cons ByteRows.nil)) ?_))
         | ((with_reducible refine Or.inl (And.intro ?_ ?_)); (focus (first | with_reducible rfl | exact trivial | (exact ⟨rfl, trivial⟩) | (exact ⟨rfl, rfl, trivial⟩) | omega | (intro r hr; simp only [List.mem_singleton] at hr; subst hr; rfl)  | ((simp only [List.length_map] at *; omega)) | ((simp only [List.length_map, List.length_cons, List.length_nil]; have hal := aft_len l s seen most i; omega)) | ((intro r hr; exact rows_len (fun _ => rfl) _ r hr)) | (simp only [in64]; omega) | assumption | (simp; done) | (simp [V.cells]; done) | (simp [in64, maxLen, limK] at *; omega) | ((show confB _ _ = true); kernel_rfl) | rfl)))
         | ((with_reducible refine And.intro ?_ ?_); (focus (first | with_reducible rfl | exact trivial | (exact ⟨rfl, trivial⟩) | (exact ⟨rfl, rfl, trivial⟩) | omega | (intro r hr; simp only [List.mem_singleton] at hr; subst hr; rfl)  | ((simp only [List.length_map] at *; omega)) | ((simp only [List.length_map, List.length_cons, List.length_nil]; have hal := aft_len l s seen most i; omega)) | ((intro r hr; exact rows_len (fun _ => rfl) _ r hr)) | (simp only [in64]; omega) | assumption | (simp; done) | (simp [V.cells]; done) | (simp [in64, maxLen, limK] at *; omega) | ((show confB _ _ = true); kernel_rfl) | rfl)))
         | (intro row hrow; (try simp only [Int.toNat_natCast, List.length_map, toNat_pred, toNat_succ', toNat_zero', toNat_one'] at hrow); (first | (have hsm := same_map (by assumption) hrow; subst hsm; clear hrow) | (obtain ⟨p, hp, rfl⟩ := of_map hrow; clear hrow)))
         | (with_reducible refine AW.seq ?_) | (with_reducible refine AW.region base (by kernel_rfl) ?_) | (with_reducible refine AW.cond ?_) | (with_reducible refine AW.block ?_) | (with_reducible refine AW.ret ?_) | (with_reducible refine AW.exit ?_) | (with_reducible refine AW.skip ?_))))
  refine AW.loop (fun (i : Nat) => i ≤ (c.filter fun x => hasB s x.k).length ∧ ((c.filter fun x => hasB s x.k).drop i).any (fun x => decide (seenOf seen x.k < x.f)) = true) (fun (i : Nat) => ⟨[(0, .sl (l.map encE)), (3, .sl (seen.map encN)), (4, .int .i64 most), (7, .ptr 0 0), (19, .sl ((c.filter fun x => hasB s x.k).map encC)), (20, .int .i64 (((c.filter fun x => hasB s x.k).map encC).length : Int)), (21, .int .i64 (i : Int))], [.cells [.str s.f, .str s.t]]⟩) (fun (i : Nat) => (c.filter fun x => hasB s x.k).length - i) 0 ?_ ?_ ?_
  · (exact ⟨Nat.zero_le _, h⟩)
  · (refine ⟨⟨[1000], ?_⟩⟩; repeat' (first | (with_reducible rfl) | exact trivial | ((conv => whnf); (first | (with_reducible refine And.intro ?_ ?_) | (first | with_reducible rfl | (refine congrArg V.str ?_; (first | with_reducible rfl | omega | rfl | (simp; done))) | (refine congrArg (V.int _) ?_; (first | with_reducible rfl | omega | rfl | (simp; done))) | (refine congrArg V.bool ?_; (first | with_reducible rfl | omega | rfl | (simp; done))) | (refine congrArg V.sl ?_; (first | with_reducible rfl | omega | rfl | (simp; done))) | (first | with_reducible rfl | omega | rfl | (simp; done)) | rfl)))))
  · rintro i hk
    obtain ⟨hk1, hk2⟩ := hk
    have hww : (c.filter fun x => hasB s x.k).length ≤ c.length := List.length_filter_le _ _
    rcases (by omega : i = (c.filter fun x => hasB s x.k).length ∨ i < (c.filter fun x => hasB s x.k).length) with hi | hi
    · exfalso; rw [hi, List.drop_length] at hk2; cases hk2
    repeat' (first
        | (with_reducible refine AW.seq ?_) | (with_reducible refine AW.region base (by kernel_rfl) ?_) | (with_reducible refine AW.cond ?_) | (with_reducible refine AW.block ?_) | (with_reducible refine AW.ret ?_) | (with_reducible refine AW.exit ?_) | (with_reducible refine AW.skip ?_)
        | ((conv => whnf); (first
           | (with_reducible refine Br.t ?_)
           | (with_reducible refine Br.f ?_)
           | ((with_reducible refine Or.inl ?_); (conv => whnf); (with_reducible refine And.intro LitSl.mk ?_))
           | (refine Br.t ?_)
           | (refine Br.f ?_)
           | (with_reducible refine Br.mk (fun hb => ?_) (fun hb => (by exfalso; (first | (simp at hb; done) | omega | (simp at hb; omega) | (simp only [List.length_map] at hb; omega) | (rw [h] at hb; simp at hb; done) | fail))))
           | (with_reducible refine Br.mk (fun hb => (by exfalso; (first | (simp at hb; done) | omega | (simp at hb; omega) | (simp only [List.length_map] at hb; omega) | (rw [h] at hb; simp at hb; done) | fail))) (fun hb => ?_))
           | (with_reducible refine Or.inl ⟨_, indexWithin_fn c s hc, ?_⟩)
           | ((with_reducible refine Or.inl ?_); (conv => whnf); (with_reducible refine ⟨_, indexWithin_fn c s hc, ?_⟩))
           | (with_reducible refine Or.inl ⟨_, tokenOf_fn seen _, ?_⟩)
           | ((with_reducible refine Or.inl ?_); (conv => whnf); (with_reducible refine ⟨_, tokenOf_fn seen _, ?_⟩))
           | (with_reducible refine Or.inl ⟨_, has_fn s _, ?_⟩)
           | ((with_reducible refine Or.inl ?_); (conv => whnf); (with_reducible refine ⟨_, has_fn s _, ?_⟩))
           | (with_reducible refine Br.mk (fun hb => ?_) (fun hb => ?_) <;> (try rw [hb]) <;> (try simp only [List.length_map, decide_eq_true_eq, decide_eq_false_iff_not, Bool.not_eq_true', Bool.not_eq_false', Int.ofNat_lt, Int.ofNat_le, Int.not_lt, Int.not_le, Int.toNat_natCast] at hb))
           | (with_reducible refine ⟨_, (by first | exact ByteRows.map _ | (repeat (first | exact ByteRows.nil | exact ByteRows.map _ | refine ByteRows.cons ?_ | refine ByteRows.app ?_ ?_))), ?_⟩)
           | (refine Exists.intro _ (And.intro (ByteRows.rep _) ?_))
           | (refine Exists.intro _ (And.intro (ByteRows.app (ByteRows.map _) (ByteRows.cons ByteRows.nil)) ?_))
           | ((with_reducible refine Or.inl (And.intro ?_ ?_)); (focus (first | with_reducible rfl | exact trivial | (exact ⟨rfl, trivial⟩) | (exact ⟨rfl, rfl, trivial⟩) | omega | (intro r hr; simp only [List.mem_singleton] at hr; subst hr; rfl)  | ((simp only [List.length_map] at *; omega)) | ((simp only [List.length_map, List.length_cons, List.length_nil]; have hal := aft_len l s seen most i; omega)) | ((intro r hr; exact rows_len (fun _ => rfl) _ r hr)) | (simp only [in64]; omega) | assumption | (simp; done) | (simp [V.cells]; done) | (simp [in64, maxLen, limK] at *; omega) | ((show confB _ _ = true); kernel_rfl) | rfl)))
           | ((with_reducible refine And.intro ?_ ?_); (focus (first | with_reducible rfl | exact trivial | (exact ⟨rfl, trivial⟩) | (exact ⟨rfl, rfl, trivial⟩) | omega | (intro r hr; simp only [List.mem_singleton] at hr; subst hr; rfl)  | ((simp only [List.length_map] at *; omega)) | ((simp only [List.length_map, List.length_cons, List.length_nil]; have hal := aft_len l s seen most i; omega)) | ((intro r hr; exact rows_len (fun _ => rfl) _ r hr)) | (simp only [in64]; omega) | assumption | (simp; done) | (simp [V.cells]; done) | (simp [in64, maxLen, limK] at *; omega) | ((show confB _ _ = true); kernel_rfl) | rfl)))
           | (intro row hrow; (try simp only [Int.toNat_natCast, List.length_map, toNat_pred, toNat_succ', toNat_zero', toNat_one'] at hrow); (first | (have hsm := same_map (by assumption) hrow; subst hsm; clear hrow) | (obtain ⟨p, hp, rfl⟩ := of_map hrow; clear hrow)))
           | (with_reducible refine AW.seq ?_) | (with_reducible refine AW.region base (by kernel_rfl) ?_) | (with_reducible refine AW.cond ?_) | (with_reducible refine AW.block ?_) | (with_reducible refine AW.ret ?_) | (with_reducible refine AW.exit ?_) | (with_reducible refine AW.skip ?_))))
    all_goals (try first | with_reducible assumption | ((show (_ : Int) ≤ _); (first | omega | (simp at *; omega))) | ((show (_ : Nat) ≤ _); (first | omega | (simp at *; omega))) | ((show in64 _); (simp only [in64] at *; (first | omega | (simp at *; omega)))) | ((show (_ : Int) < _); (first | omega | (simp at *; omega))) | ((show ¬ (_ : Int) = _); (first | omega | (simp at *; omega))) | ((with_reducible refine And.intro ?_ ?_) <;> (first | omega | (simp at *; omega))))
    all_goals (first
      | (with_reducible exact absurd rfl (by assumption))
      | ((conv => whnf); (refine ⟨(i + 1), ?_⟩); (refine And.intro ?_ (And.intro ?_ ?_)); (focus (refine ⟨⟨[0], ?_⟩⟩; repeat' (first | (with_reducible rfl) | exact trivial | ((conv => whnf); (first | (with_reducible refine And.intro ?_ ?_) | (first | with_reducible rfl | (refine congrArg V.str ?_; (first | with_reducible rfl | omega | rfl | (simp; done))) | (refine congrArg (V.int _) ?_; (first | with_reducible rfl | omega | rfl | (simp; done))) | (refine congrArg V.bool ?_; (first | with_reducible rfl | omega | rfl | (simp; done))) | (refine congrArg V.sl ?_; (first | with_reducible rfl | omega | rfl | (simp; done))) | (first | with_reducible rfl | omega | rfl | (simp; done)) | rfl)))))); (focus (refine ⟨by omega, ?_⟩; rw [drop_get hp, List.any_cons, decide_eq_false (by omega), Bool.false_or] at hk2; exact hk2)); (focus (first | omega | (dsimp only; omega) | (simp; done) | (simp; omega) | (simp at *; omega))))
      | ((conv => whnf); (try (first | rfl | (exfalso; simp_all; done) | (exfalso; simp at *; omega))); done))


theorem after_fn (l : List Evt) (c : List Cel) (s : Span) (seen : List Sn) (most : Int) (hl : l.length ≤ 1000000) (hc : c.length ≤ 1000000) : Fn Try.prog 25 [.sl (l.map encE), .sl (c.map encC), .agg [.str s.f, .str s.t], .sl (seen.map encN), .int .i64 most] (.alt (overB c s seen) (.tup [.nils, .bool true]) (.tup [.sl ((aftE l s seen most).map encE), .bool false])) := by
  cases h : overB c s seen
  · exact (after_ok l c s seen most hl hc h).altF
  · exact (after_over l c s seen most hl hc h).altT

set_option maxRecDepth 100000 in
set_option maxHeartbeats 400000 in
theorem with_not (c : List Cel) (k v : Bs) (n : Int) (d : Bool) (f : Int) (h : isCellB k v n d f = false) : Fn Try.prog 23 [.sl (c.map encC), .agg [.str k, .str v, .int .i64 n, .bool d, .int .i64 f]] (.sl (c.map encC)) := by
  refine Fn.mk' base Try.func23 rfl rfl rfl ?_
  repeat' (first
      | (with_reducible refine AW.seq ?_) | (with_reducible refine AW.region base (by kernel_rfl) ?_) | (with_reducible refine AW.cond ?_) | (with_reducible refine AW.block ?_) | (with_reducible refine AW.ret ?_) | (with_reducible refine AW.exit ?_) | (with_reducible refine AW.skip ?_)
      | ((conv => whnf); (first
         | (with_reducible refine Br.t ?_)
         | (with_reducible refine Br.f ?_)
         | ((with_reducible refine Or.inl ?_); (conv => whnf); (with_reducible refine And.intro LitSl.mk ?_))
         | (refine Br.t ?_)
         | (refine Br.f ?_)
         | (with_reducible refine Br.mk (fun hb => ?_) (fun hb => (by exfalso; (first | (simp at hb; done) | omega | (simp at hb; omega) | (simp only [List.length_map] at hb; omega) | (rw [h] at hb; simp at hb; done) | fail))))
         | (with_reducible refine Br.mk (fun hb => (by exfalso; (first | (simp at hb; done) | omega | (simp at hb; omega) | (simp only [List.length_map] at hb; omega) | (rw [h] at hb; simp at hb; done) | fail))) (fun hb => ?_))
         | (with_reducible refine Or.inl ⟨_, cellIsr_fn _ _ _ _ _, ?_⟩)
         | ((with_reducible refine Or.inl ?_); (conv => whnf); (with_reducible refine ⟨_, cellIsr_fn _ _ _ _ _, ?_⟩))
         | (with_reducible refine Br.mk (fun hb => ?_) (fun hb => ?_) <;> (try rw [hb]) <;> (try simp only [List.length_map, decide_eq_true_eq, decide_eq_false_iff_not, Bool.not_eq_true', Bool.not_eq_false', Int.ofNat_lt, Int.ofNat_le, Int.not_lt, Int.not_le, Int.toNat_natCast] at hb))
         | (with_reducible refine ⟨_, (by first | exact ByteRows.map _ | (repeat (first | exact ByteRows.nil | exact ByteRows.map _ | refine ByteRows.cons ?_ | refine ByteRows.app ?_ ?_))), ?_⟩)
         | (refine Exists.intro _ (And.intro (ByteRows.rep _) ?_))
         | (refine Exists.intro _ (And.intro (ByteRows.app (ByteRows.map _) (ByteRows.cons ByteRows.nil)) ?_))
         | ((with_reducible refine Or.inl (And.intro ?_ ?_)); (focus (first | with_reducible rfl | exact trivial | (exact ⟨rfl, trivial⟩) | (exact ⟨rfl, rfl, trivial⟩) | omega | (intro r hr; simp only [List.mem_singleton] at hr; subst hr; rfl)  | ((simp only [List.length_map] at *; omega)) | ((simp only [List.length_append, List.length_cons, List.length_nil]; omega)) | ((simp only [List.length_map, List.length_append, List.length_cons, List.length_nil] at *; omega)) | ((intro r hr; exact rows_len (fun _ => rfl) _ r hr)) | (simp only [in64]; omega) | assumption | (simp; done) | (simp [V.cells]; done) | (simp [in64, maxLen, limK] at *; omega) | ((show confB _ _ = true); kernel_rfl) | rfl)))
         | ((with_reducible refine And.intro ?_ ?_); (focus (first | with_reducible rfl | exact trivial | (exact ⟨rfl, trivial⟩) | (exact ⟨rfl, rfl, trivial⟩) | omega | (intro r hr; simp only [List.mem_singleton] at hr; subst hr; rfl)  | ((simp only [List.length_map] at *; omega)) | ((simp only [List.length_append, List.length_cons, List.length_nil]; omega)) | ((simp only [List.length_map, List.length_append, List.length_cons, List.length_nil] at *; omega)) | ((intro r hr; exact rows_len (fun _ => rfl) _ r hr)) | (simp only [in64]; omega) | assumption | (simp; done) | (simp [V.cells]; done) | (simp [in64, maxLen, limK] at *; omega) | ((show confB _ _ = true); kernel_rfl) | rfl)))
         | (intro row hrow; (try simp only [Int.toNat_natCast, List.length_map, toNat_pred, toNat_succ', toNat_zero', toNat_one'] at hrow); (first | (have hsm := same_map (by assumption) hrow; subst hsm; clear hrow) | (obtain ⟨p, hp, rfl⟩ := of_map hrow; clear hrow)))
         | (with_reducible refine AW.seq ?_) | (with_reducible refine AW.region base (by kernel_rfl) ?_) | (with_reducible refine AW.cond ?_) | (with_reducible refine AW.block ?_) | (with_reducible refine AW.ret ?_) | (with_reducible refine AW.exit ?_) | (with_reducible refine AW.skip ?_))))
  all_goals (conv => whnf)
  all_goals (first | rfl | (simp only [V.bool.injEq, V.tup.injEq, V.agg.injEq, V.str.injEq, V.int.injEq, V.sl.injEq, V.ifc.injEq, List.cons.injEq, and_true, true_and, and_self]; done) | (simp only [V.bool.injEq, V.tup.injEq, V.agg.injEq, V.str.injEq, V.int.injEq, V.sl.injEq, V.ifc.injEq, List.cons.injEq, and_true, true_and, and_self]; grind) | (simp  at *; done) | (simp  at *; grind))

set_option maxRecDepth 100000 in
set_option maxHeartbeats 400000 in
theorem with_ok (c : List Cel) (k v : Bs) (n : Int) (d : Bool) (f : Int) (hc : c.length ≤ 1000000) (h : isCellB k v n d f = true) : Fn Try.prog 23 [.sl (c.map encC), .agg [.str k, .str v, .int .i64 n, .bool d, .int .i64 f]] (.sl ((withL ⟨k, v, n, d, f⟩ false c).map encC)) := by
  refine Fn.mk' base Try.func23 rfl rfl rfl ?_
  repeat' (first
      | (with_reducible refine AW.seq ?_) | (with_reducible refine AW.region base (by kernel_rfl) ?_) | (with_reducible refine AW.cond ?_) | (with_reducible refine AW.block ?_) | (with_reducible refine AW.ret ?_) | (with_reducible refine AW.exit ?_) | (with_reducible refine AW.skip ?_)
      | ((conv => whnf); (first
         | (with_reducible refine Br.t ?_)
         | (with_reducible refine Br.f ?_)
         | ((with_reducible refine Or.inl ?_); (conv => whnf); (with_reducible refine And.intro LitSl.mk ?_))
         | (refine Br.t ?_)
         | (refine Br.f ?_)
         | (with_reducible refine Br.mk (fun hb => ?_) (fun hb => (by exfalso; (first | (simp at hb; done) | omega | (simp at hb; omega) | (simp only [List.length_map] at hb; omega) | (rw [h] at hb; simp at hb; done) | fail))))
         | (with_reducible refine Br.mk (fun hb => (by exfalso; (first | (simp at hb; done) | omega | (simp at hb; omega) | (simp only [List.length_map] at hb; omega) | (rw [h] at hb; simp at hb; done) | fail))) (fun hb => ?_))
         | (with_reducible refine Or.inl ⟨_, cellIsr_fn _ _ _ _ _, ?_⟩)
         | ((with_reducible refine Or.inl ?_); (conv => whnf); (with_reducible refine ⟨_, cellIsr_fn _ _ _ _ _, ?_⟩))
         | (with_reducible refine Br.mk (fun hb => ?_) (fun hb => ?_) <;> (try rw [hb]) <;> (try simp only [List.length_map, decide_eq_true_eq, decide_eq_false_iff_not, Bool.not_eq_true', Bool.not_eq_false', Int.ofNat_lt, Int.ofNat_le, Int.not_lt, Int.not_le, Int.toNat_natCast] at hb))
         | (with_reducible refine ⟨_, (by first | exact ByteRows.map _ | (repeat (first | exact ByteRows.nil | exact ByteRows.map _ | refine ByteRows.cons ?_ | refine ByteRows.app ?_ ?_))), ?_⟩)
         | (refine Exists.intro _ (And.intro (ByteRows.rep _) ?_))
         | (refine Exists.intro _ (And.intro (ByteRows.app (ByteRows.map _) (ByteRows.cons ByteRows.nil)) ?_))
         | ((with_reducible refine Or.inl (And.intro ?_ ?_)); (focus (first | with_reducible rfl | exact trivial | (exact ⟨rfl, trivial⟩) | (exact ⟨rfl, rfl, trivial⟩) | omega | (intro r hr; simp only [List.mem_singleton] at hr; subst hr; rfl)  | ((simp only [List.length_map] at *; omega)) | ((simp only [List.length_append, List.length_cons, List.length_nil]; omega)) | ((simp only [List.length_map, List.length_append, List.length_cons, List.length_nil] at *; omega)) | ((intro r hr; exact rows_len (fun _ => rfl) _ r hr)) | (simp only [in64]; omega) | assumption | (simp; done) | (simp [V.cells]; done) | (simp [in64, maxLen, limK] at *; omega) | ((show confB _ _ = true); kernel_rfl) | rfl)))
         | ((with_reducible refine And.intro ?_ ?_); (focus (first | with_reducible rfl | exact trivial | (exact ⟨rfl, trivial⟩) | (exact ⟨rfl, rfl, trivial⟩) | omega | (intro r hr; simp only [List.mem_singleton] at hr; subst hr; rfl)  | ((simp only [List.length_map] at *; omega)) | ((simp only [List.length_append, List.length_cons, List.length_nil]; omega)) | ((simp only [List.length_map, List.length_append, List.length_cons, List.length_nil] at *; omega)) | ((intro r hr; exact rows_len (fun _ => rfl) _ r hr)) | (simp only [in64]; omega) | assumption | (simp; done) | (simp [V.cells]; done) | (simp [in64, maxLen, limK] at *; omega) | ((show confB _ _ = true); kernel_rfl) | rfl)))
         | (intro row hrow; (try simp only [Int.toNat_natCast, List.length_map, toNat_pred, toNat_succ', toNat_zero', toNat_one'] at hrow); (first | (have hsm := same_map (by assumption) hrow; subst hsm; clear hrow) | (obtain ⟨p, hp, rfl⟩ := of_map hrow; clear hrow)))
         | (with_reducible refine AW.seq ?_) | (with_reducible refine AW.region base (by kernel_rfl) ?_) | (with_reducible refine AW.cond ?_) | (with_reducible refine AW.block ?_) | (with_reducible refine AW.ret ?_) | (with_reducible refine AW.exit ?_) | (with_reducible refine AW.skip ?_))))
  refine AW.adopt 5 999999999 (el := 43) rfl rfl (rows_of 41 rfl) ?_
  refine AW.loop (fun (⟨i, b, out⟩ : Nat × Bool × List (List V)) => i ≤ c.length ∧ out ++ (withL ⟨k, v, n, d, f⟩ b (c.drop i)).map encC = (withL ⟨k, v, n, d, f⟩ false c).map encC ∧ out.length ≤ 2 * i) (fun (⟨i, b, out⟩ : Nat × Bool × List (List V)) => ⟨[(0, .sl (c.map encC)), (3, .ptr 0 0), (5, .own 1), (6, .bool b), (7, .int .i64 (i : Int))], [.cells [.str k, .str v, .int .i64 n, .bool d, .int .i64 f], .rows 43 out]⟩) (fun (⟨i, b, out⟩ : Nat × Bool × List (List V)) => c.length - i) (0, false, []) ?_ ?_ ?_
  · (exact ⟨Nat.zero_le _, rfl, by simp⟩)
  · (refine ⟨⟨[1000, 999999999], ?_⟩⟩; repeat' (first | (with_reducible rfl) | exact trivial | ((conv => whnf); (first | (with_reducible refine And.intro ?_ ?_) | (first | with_reducible rfl | (refine congrArg V.str ?_; (first | with_reducible rfl | omega | (simp [V.cells]; done) | rfl | (simp; done))) | (refine congrArg (V.int _) ?_; (first | with_reducible rfl | omega | (simp [V.cells]; done) | rfl | (simp; done))) | (refine congrArg V.bool ?_; (first | with_reducible rfl | omega | (simp [V.cells]; done) | rfl | (simp; done))) | (refine congrArg V.sl ?_; (first | with_reducible rfl | omega | (simp [V.cells]; done) | rfl | (simp; done))) | (first | with_reducible rfl | omega | (simp [V.cells]; done) | rfl | (simp; done)) | rfl)))))
  · rintro ⟨i, b, out⟩ hk
    obtain ⟨hk1, hk2, hk3⟩ := hk
    rcases (by omega : i = c.length ∨ i < c.length) with hi | hi
    · subst hi
      rw [List.drop_length, withL] at hk2
      cases b
      repeat' (first
          | (with_reducible refine AW.seq ?_) | (with_reducible refine AW.region base (by kernel_rfl) ?_) | (with_reducible refine AW.cond ?_) | (with_reducible refine AW.block ?_) | (with_reducible refine AW.ret ?_) | (with_reducible refine AW.exit ?_) | (with_reducible refine AW.skip ?_)
          | ((conv => whnf); (first
             | (with_reducible refine Br.t ?_)
             | (with_reducible refine Br.f ?_)
             | ((with_reducible refine Or.inl ?_); (conv => whnf); (with_reducible refine And.intro LitSl.mk ?_))
             | (refine Br.t ?_)
             | (refine Br.f ?_)
             | (with_reducible refine Br.mk (fun hb => ?_) (fun hb => (by exfalso; (first | (simp at hb; done) | omega | (simp at hb; omega) | (simp only [List.length_map] at hb; omega) | (rw [h] at hb; simp at hb; done) | fail))))
             | (with_reducible refine Br.mk (fun hb => (by exfalso; (first | (simp at hb; done) | omega | (simp at hb; omega) | (simp only [List.length_map] at hb; omega) | (rw [h] at hb; simp at hb; done) | fail))) (fun hb => ?_))
             | (with_reducible refine Or.inl ⟨_, cellIsr_fn _ _ _ _ _, ?_⟩)
             | ((with_reducible refine Or.inl ?_); (conv => whnf); (with_reducible refine ⟨_, cellIsr_fn _ _ _ _ _, ?_⟩))
             | (with_reducible refine Br.mk (fun hb => ?_) (fun hb => ?_) <;> (try rw [hb]) <;> (try simp only [List.length_map, decide_eq_true_eq, decide_eq_false_iff_not, Bool.not_eq_true', Bool.not_eq_false', Int.ofNat_lt, Int.ofNat_le, Int.not_lt, Int.not_le, Int.toNat_natCast] at hb))
             | (with_reducible refine ⟨_, (by first | exact ByteRows.map _ | (repeat (first | exact ByteRows.nil | exact ByteRows.map _ | refine ByteRows.cons ?_ | refine ByteRows.app ?_ ?_))), ?_⟩)
             | (refine Exists.intro _ (And.intro (ByteRows.rep _) ?_))
             | (refine Exists.intro _ (And.intro (ByteRows.app (ByteRows.map _) (ByteRows.cons ByteRows.nil)) ?_))
             | ((with_reducible refine Or.inl (And.intro ?_ ?_)); (focus (first | with_reducible rfl | exact trivial | (exact ⟨rfl, trivial⟩) | (exact ⟨rfl, rfl, trivial⟩) | omega | (intro r hr; simp only [List.mem_singleton] at hr; subst hr; rfl)  | ((simp only [List.length_map] at *; omega)) | ((simp only [List.length_append, List.length_cons, List.length_nil]; omega)) | ((simp only [List.length_map, List.length_append, List.length_cons, List.length_nil] at *; omega)) | ((intro r hr; exact rows_len (fun _ => rfl) _ r hr)) | (simp only [in64]; omega) | assumption | (simp; done) | (simp [V.cells]; done) | (simp [in64, maxLen, limK] at *; omega) | ((show confB _ _ = true); kernel_rfl) | rfl)))
             | ((with_reducible refine And.intro ?_ ?_); (focus (first | with_reducible rfl | exact trivial | (exact ⟨rfl, trivial⟩) | (exact ⟨rfl, rfl, trivial⟩) | omega | (intro r hr; simp only [List.mem_singleton] at hr; subst hr; rfl)  | ((simp only [List.length_map] at *; omega)) | ((simp only [List.length_append, List.length_cons, List.length_nil]; omega)) | ((simp only [List.length_map, List.length_append, List.length_cons, List.length_nil] at *; omega)) | ((intro r hr; exact rows_len (fun _ => rfl) _ r hr)) | (simp only [in64]; omega) | assumption | (simp; done) | (simp [V.cells]; done) | (simp [in64, maxLen, limK] at *; omega) | ((show confB _ _ = true); kernel_rfl) | rfl)))
             | (intro row hrow; (try simp only [Int.toNat_natCast, List.length_map, toNat_pred, toNat_succ', toNat_zero', toNat_one'] at hrow); (first | (have hsm := same_map (by assumption) hrow; subst hsm; clear hrow) | (obtain ⟨p, hp, rfl⟩ := of_map hrow; clear hrow)))
             | (with_reducible refine AW.seq ?_) | (with_reducible refine AW.region base (by kernel_rfl) ?_) | (with_reducible refine AW.cond ?_) | (with_reducible refine AW.block ?_) | (with_reducible refine AW.ret ?_) | (with_reducible refine AW.exit ?_) | (with_reducible refine AW.skip ?_))))
      all_goals ((conv => whnf); (refine congrArg V.sl ?_); rw [← hk2]; simp [V.cells])
    obtain ⟨p, hp⟩ : ∃ p, c[i]? = some p := ⟨_, List.getElem?_eq_getElem hi⟩
    rw [drop_get hp, withL] at hk2
    repeat' (first
        | (with_reducible refine AW.seq ?_) | (with_reducible refine AW.region base (by kernel_rfl) ?_) | (with_reducible refine AW.cond ?_) | (with_reducible refine AW.block ?_) | (with_reducible refine AW.ret ?_) | (with_reducible refine AW.exit ?_) | (with_reducible refine AW.skip ?_)
        | ((conv => whnf); (first
           | (with_reducible refine Br.t ?_)
           | (with_reducible refine Br.f ?_)
           | ((with_reducible refine Or.inl ?_); (conv => whnf); (with_reducible refine And.intro LitSl.mk ?_))
           | (refine Br.t ?_)
           | (refine Br.f ?_)
           | (with_reducible refine Or.inl ⟨_, cellIsr_fn _ _ _ _ _, ?_⟩)
           | ((with_reducible refine Or.inl ?_); (conv => whnf); (with_reducible refine ⟨_, cellIsr_fn _ _ _ _ _, ?_⟩))
           | (with_reducible refine Br.mk (fun hb => ?_) (fun hb => ?_) <;> (try rw [hb]) <;> (try simp only [List.length_map, decide_eq_true_eq, decide_eq_false_iff_not, Bool.not_eq_true', Bool.not_eq_false', Int.ofNat_lt, Int.ofNat_le, Int.not_lt, Int.not_le, Int.toNat_natCast] at hb))
           | (with_reducible refine ⟨_, (by first | exact ByteRows.map _ | (repeat (first | exact ByteRows.nil | exact ByteRows.map _ | refine ByteRows.cons ?_ | refine ByteRows.app ?_ ?_))), ?_⟩)
           | (refine Exists.intro _ (And.intro (ByteRows.rep _) ?_))
           | (refine Exists.intro _ (And.intro (ByteRows.app (ByteRows.map _) (ByteRows.cons ByteRows.nil)) ?_))
           | ((with_reducible refine Or.inl (And.intro ?_ ?_)); (focus (first | with_reducible rfl | exact trivial | (exact ⟨rfl, trivial⟩) | (exact ⟨rfl, rfl, trivial⟩) | omega | (intro r hr; simp only [List.mem_singleton] at hr; subst hr; rfl)  | ((simp only [List.length_map] at *; omega)) | ((simp only [List.length_append, List.length_cons, List.length_nil]; omega)) | ((simp only [List.length_map, List.length_append, List.length_cons, List.length_nil] at *; omega)) | ((intro r hr; exact rows_len (fun _ => rfl) _ r hr)) | (simp only [in64]; omega) | assumption | (simp; done) | (simp [V.cells]; done) | (simp [in64, maxLen, limK] at *; omega) | ((show confB _ _ = true); kernel_rfl) | rfl)))
           | ((with_reducible refine And.intro ?_ ?_); (focus (first | with_reducible rfl | exact trivial | (exact ⟨rfl, trivial⟩) | (exact ⟨rfl, rfl, trivial⟩) | omega | (intro r hr; simp only [List.mem_singleton] at hr; subst hr; rfl)  | ((simp only [List.length_map] at *; omega)) | ((simp only [List.length_append, List.length_cons, List.length_nil]; omega)) | ((simp only [List.length_map, List.length_append, List.length_cons, List.length_nil] at *; omega)) | ((intro r hr; exact rows_len (fun _ => rfl) _ r hr)) | (simp only [in64]; omega) | assumption | (simp; done) | (simp [V.cells]; done) | (simp [in64, maxLen, limK] at *; omega) | ((show confB _ _ = true); kernel_rfl) | rfl)))
           | (intro row hrow; (try simp only [Int.toNat_natCast, List.length_map, toNat_pred, toNat_succ', toNat_zero', toNat_one'] at hrow); (first | (have hsm := same_map (by assumption) hrow; subst hsm; clear hrow) | (obtain ⟨p, hp, rfl⟩ := of_map hrow; clear hrow)))
           | (with_reducible refine AW.seq ?_) | (with_reducible refine AW.region base (by kernel_rfl) ?_) | (with_reducible refine AW.cond ?_) | (with_reducible refine AW.block ?_) | (with_reducible refine AW.ret ?_) | (with_reducible refine AW.exit ?_) | (with_reducible refine AW.skip ?_))))
    all_goals (try first | with_reducible assumption | ((show (_ : Int) ≤ _); (first | omega | (simp at *; omega))) | ((show (_ : Nat) ≤ _); (first | omega | (simp at *; omega))) | ((show in64 _); (simp only [in64] at *; (first | omega | (simp at *; omega)))) | ((show (_ : Int) < _); (first | omega | (simp at *; omega))) | ((show ¬ (_ : Int) = _); (first | omega | (simp at *; omega))) | ((with_reducible refine And.intro ?_ ?_) <;> (first | omega | (simp at *; omega))))
    all_goals (first
      | (with_reducible exact absurd rfl (by assumption))
      | ((conv => whnf); (refine ⟨(i + 1, ?_, ?_), ?_⟩); (rotate_left 2); (refine And.intro ?_ (And.intro ?_ ?_)); (focus (refine ⟨⟨[0, ?_], ?_⟩⟩; rotate_left 1; repeat' (first | (with_reducible rfl) | exact trivial | ((conv => whnf); (first | (with_reducible refine And.intro ?_ ?_) | (first | with_reducible rfl | (refine congrArg V.str ?_; (first | with_reducible rfl | omega | (simp [V.cells]; done) | rfl | (simp; done))) | (refine congrArg (V.int _) ?_; (first | with_reducible rfl | omega | (simp [V.cells]; done) | rfl | (simp; done))) | (refine congrArg V.bool ?_; (first | with_reducible rfl | omega | (simp [V.cells]; done) | rfl | (simp; done))) | (refine congrArg V.sl ?_; (first | with_reducible rfl | omega | (simp [V.cells]; done) | rfl | (simp; done))) | (first | with_reducible rfl | omega | (simp [V.cells]; done) | rfl | (simp; done)) | rfl)))))); (focus (refine ⟨by omega, ?_, ?_⟩; (focus (rw [← hk2]; simp_all [V.cells])); (focus (first | omega | (simp only [List.length_append, List.length_cons, List.length_nil]; omega))))); (focus (first | omega | (dsimp only; omega) | (simp; done) | (simp; omega) | (simp at *; omega))))
      | ((conv => whnf); (try (first | rfl | (exfalso; simp_all; done) | (exfalso; simp at *; omega))); done))


theorem with_fn (c : List Cel) (k v : Bs) (n : Int) (d : Bool) (f : Int) (hc : c.length ≤ 1000000) : Fn Try.prog 23 [.sl (c.map encC), .agg [.str k, .str v, .int .i64 n, .bool d, .int .i64 f]] (.sl ((withC c ⟨k, v, n, d, f⟩).map encC)) := by
  unfold withC
  cases h : isCellB k v n d f
  · rw [if_neg (by simp [celB, h])]; exact with_not c k v n d f h
  · rw [if_pos (by simp [celB, h])]; exact with_ok c k v n d f hc h
end Go.Proofs.Ythcbffejjkmmfaa
