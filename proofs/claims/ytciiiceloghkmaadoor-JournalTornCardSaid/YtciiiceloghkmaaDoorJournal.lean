/-
  Walks of package journal: opened, a record added, synced, trimmed. No conditions.
-/
import Derived.Test.YtciiiceloghkmaaDoorDisk
import Derived.Test.YtciiiceloghkmaaDoorLaw5k
namespace Go.Proofs.YtciiiceloghkmaaDoor
open Go.RowKit
set_option linter.unusedSimpArgs false
set_option linter.unusedVariables false

theorem jreplace_of (b s u : Bs) (n : Int) (hs : s = u) (h : (u.length : Int) ≤ 200000) : FnM Tryd.prog 48 [.ptr 0 0, .str s] [.cells [.str b, .int .i64 n]] noErr [.cells [.str u, .int .i64 0]] := by
  subst hs; exact diskReplace_ok b s n h
theorem cut_to (u x : Bs) : List.drop 0 (List.take ((u.length : Nat) : Int).toNat (u ++ x)) = u := by rw [List.drop_zero, Int.toNat_natCast, List.take_left]
theorem all_of2 (s : Bs) (l : List Bs) (x : Bs) (hs : s = wraps l ++ x) (hx : Bad x) (hl : ∀ t ∈ l, t.length ≤ 200000) (hlen : s.length ≤ 1000000000) (hll : l.length ≤ 1000000) : Fn Tryd.prog 21 [.str s] (.tup [.sl (l.map encT), .int .i64 ((wraps l).length : Int)]) := all_of s l x hs hx hl hlen hll

set_option maxRecDepth 100000 in
set_option maxHeartbeats 400000 in
theorem jOpen_clean (s : Bs) (l : List Bs) (c : Int) (hs : s = wraps l ++ []) (hl : ∀ t ∈ l, t.length ≤ 200000) (hlen : s.length ≤ 200000) (hll : l.length ≤ 1000000) : FnM Tryd.prog 25 [.ptr 0 0] [.cells [.str s, .int .i64 c]] (.tup [.ptr 1 0, .sl (l.map encT), noErr]) [.cells [.str s, .int .i64 c], .cells [.ptr 0 0, .int .i64 (l.length : Int)]] := by
  refine FnM.mk' base Tryd.func25 rfl rfl rfl rfl ?_
  repeat' (first
      | (with_reducible refine AW.seq ?_) | (with_reducible refine AW.region base (by kernel_rfl) ?_) | (with_reducible refine AW.cond ?_) | (with_reducible refine AW.block ?_) | (with_reducible refine AW.ret ?_) | (with_reducible refine AW.exit ?_) | (with_reducible refine AW.skip ?_)
      | ((conv => whnf); (first
         | (with_reducible refine Br.t ?_)
         | (with_reducible refine Br.f ?_)
         | ((with_reducible refine Or.inl ?_); (conv => whnf); (with_reducible refine And.intro LitSl.mk ?_))
         | (refine Br.t ?_)
         | (refine Br.f ?_)
         | (with_reducible refine Br.mk (fun hb => ?_) (fun hb => (by exfalso; (first | (simp at hb; done) | omega | (rw [hs] at hb; simp only [decide_eq_false_iff_not, decide_eq_true_eq, List.length_append] at hb; omega) | (rw [hs, List.append_nil] at hb; simp at hb; done) | fail))))
         | (with_reducible refine Br.mk (fun hb => (by exfalso; (first | (simp at hb; done) | omega | (rw [hs] at hb; simp only [decide_eq_false_iff_not, decide_eq_true_eq, List.length_append] at hb; omega) | (rw [hs, List.append_nil] at hb; simp at hb; done) | fail))) (fun hb => ?_))
         | (with_reducible refine Or.inl ⟨_, diskBytes_fn _ _, ?_⟩)
         | ((with_reducible refine Or.inl ?_); (conv => whnf); (with_reducible refine ⟨_, diskBytes_fn _ _, ?_⟩))
         | (with_reducible refine Or.inl ⟨_, all_of2 _ l [] hs (bad_short (by decide)) hl (by omega) hll, ?_⟩)
         | ((with_reducible refine Or.inl ?_); (conv => whnf); (with_reducible refine ⟨_, all_of2 _ l [] hs (bad_short (by decide)) hl (by omega) hll, ?_⟩))
         | (with_reducible refine Br.mk (fun hb => ?_) (fun hb => ?_) <;> (try rw [hb]) <;> (try simp only [List.length_map, decide_eq_true_eq, decide_eq_false_iff_not, Bool.not_eq_true', Bool.not_eq_false', Int.ofNat_lt, Int.ofNat_le, Int.not_lt, Int.not_le, Int.toNat_natCast] at hb))
         | (with_reducible refine ⟨_, (by first | exact ByteRows.map _ | (repeat (first | exact ByteRows.nil | exact ByteRows.map _ | refine ByteRows.cons ?_ | refine ByteRows.app ?_ ?_))), ?_⟩)
         | (refine Exists.intro _ (And.intro (ByteRows.rep _) ?_))
         | (refine Exists.intro _ (And.intro (ByteRows.app (ByteRows.map _) (ByteRows.cons ByteRows.nil)) ?_))
         | ((with_reducible refine And.intro ?_ ?_); (focus (first | with_reducible rfl | exact trivial | (exact ⟨rfl, trivial⟩) | (exact ⟨rfl, rfl, trivial⟩) | omega | (intro r hr; simp only [List.mem_singleton] at hr; subst hr; rfl)  | ((simp only [in64, maxLen] at *; omega)) | ((exact ⟨by omega, by rw [hs, List.length_append]; omega⟩)) | ((rw [hs]; simp only [List.length_append]; omega)) | (simp only [in64]; omega) | assumption | (simp; done) | (simp [V.cells]; done) | (simp [in64, maxLen, limK] at *; omega) | ((show confB _ _ = true); kernel_rfl) | rfl)))
         | (intro row hrow; (try simp only [Int.toNat_natCast, List.length_map, toNat_pred, toNat_succ', toNat_zero', toNat_one'] at hrow); (first | (have hsm := same_map (by assumption) hrow; subst hsm; clear hrow) | (obtain ⟨p, hp, rfl⟩ := of_map hrow; clear hrow)))
         | (with_reducible refine AW.seq ?_) | (with_reducible refine AW.region base (by kernel_rfl) ?_) | (with_reducible refine AW.cond ?_) | (with_reducible refine AW.block ?_) | (with_reducible refine AW.ret ?_) | (with_reducible refine AW.exit ?_) | (with_reducible refine AW.skip ?_))))
  all_goals (conv => whnf)
  all_goals (refine ⟨[0, 8004], ?_⟩)
  all_goals (repeat' (first | (with_reducible rfl) | exact trivial | ((conv => whnf); (first | (with_reducible refine And.intro ?_ ?_) | exact trivial | (intro hb; first | (exfalso; simp_all; done) | skip)))))
  all_goals (first | rfl | (exact congrArg (V.int _) (congrArg (fun n : Nat => (n : Int)) (List.length_map ..))))

set_option maxRecDepth 100000 in
set_option maxHeartbeats 400000 in
theorem jOpen_cut (s : Bs) (l : List Bs) (x : Bs) (c : Int) (hs : s = wraps l ++ x) (hx : Bad x) (hx0 : 0 < x.length) (hl : ∀ t ∈ l, t.length ≤ 200000) (hlen : s.length ≤ 200000) (hll : l.length ≤ 1000000) : FnM Tryd.prog 25 [.ptr 0 0] [.cells [.str s, .int .i64 c]] (.tup [.ptr 1 0, .sl (l.map encT), noErr]) [.cells [.str (wraps l), .int .i64 0], .cells [.ptr 0 0, .int .i64 (l.length : Int)]] := by
  refine FnM.mk' base Tryd.func25 rfl rfl rfl rfl ?_
  repeat' (first
      | (with_reducible refine AW.seq ?_) | (with_reducible refine AW.region base (by kernel_rfl) ?_) | (with_reducible refine AW.cond ?_) | (with_reducible refine AW.block ?_) | (with_reducible refine AW.ret ?_) | (with_reducible refine AW.exit ?_) | (with_reducible refine AW.skip ?_)
      | ((conv => whnf); (first
         | (with_reducible refine Br.t ?_)
         | (with_reducible refine Br.f ?_)
         | ((with_reducible refine Or.inl ?_); (conv => whnf); (with_reducible refine And.intro LitSl.mk ?_))
         | (refine Br.t ?_)
         | (refine Br.f ?_)
         | (with_reducible refine Br.mk (fun hb => ?_) (fun hb => (by exfalso; (first | (simp at hb; done) | omega | (rw [hs] at hb; simp only [decide_eq_false_iff_not, decide_eq_true_eq, List.length_append] at hb; omega) | (rw [hs, List.append_nil] at hb; simp at hb; done) | fail))))
         | (with_reducible refine Br.mk (fun hb => (by exfalso; (first | (simp at hb; done) | omega | (rw [hs] at hb; simp only [decide_eq_false_iff_not, decide_eq_true_eq, List.length_append] at hb; omega) | (rw [hs, List.append_nil] at hb; simp at hb; done) | fail))) (fun hb => ?_))
         | (with_reducible refine Or.inl ⟨_, diskBytes_fn _ _, ?_⟩)
         | ((with_reducible refine Or.inl ?_); (conv => whnf); (with_reducible refine ⟨_, diskBytes_fn _ _, ?_⟩))
         | (with_reducible refine Or.inl ⟨_, all_of2 _ l x hs hx hl (by omega) hll, ?_⟩)
         | ((with_reducible refine Or.inl ?_); (conv => whnf); (with_reducible refine ⟨_, all_of2 _ l x hs hx hl (by omega) hll, ?_⟩))
         | ((with_reducible refine Or.inr ⟨[?_], _, _, _, _, jreplace_of ?_ ?_ (wraps l) ?_ ?_ ?_, ?_⟩); rotate_right; (repeat ((conv => whnf); (with_reducible refine And.intro ?_ ?_); (focus (first | with_reducible rfl | exact trivial | (exact ⟨rfl, trivial⟩) | (exact ⟨rfl, rfl, trivial⟩) | omega | (intro r hr; simp only [List.mem_singleton] at hr; subst hr; rfl)  | (simp only [in64]; omega) | assumption | (simp; done) | (simp [V.cells]; done) | (simp [in64, maxLen, limK] at *; omega) | ((show confB _ _ = true); kernel_rfl) | rfl)))); rotate_left; (first | omega | (rw [hs]; exact cut_to ..) | (rw [hs, List.length_append] at hlen; omega) | fail); (first | omega | (rw [hs]; exact cut_to ..) | (rw [hs, List.length_append] at hlen; omega) | fail))
         | ((with_reducible refine Or.inr (Or.inr ⟨[?_], _, _, _, _, jreplace_of ?_ ?_ (wraps l) ?_ ?_ ?_, ?_⟩)); rotate_right; (repeat ((conv => whnf); (with_reducible refine And.intro ?_ ?_); (focus (first | with_reducible rfl | exact trivial | (exact ⟨rfl, trivial⟩) | (exact ⟨rfl, rfl, trivial⟩) | omega | (intro r hr; simp only [List.mem_singleton] at hr; subst hr; rfl)  | (simp only [in64]; omega) | assumption | (simp; done) | (simp [V.cells]; done) | (simp [in64, maxLen, limK] at *; omega) | ((show confB _ _ = true); kernel_rfl) | rfl)))); rotate_left; (first | omega | (rw [hs]; exact cut_to ..) | (rw [hs, List.length_append] at hlen; omega) | fail); (first | omega | (rw [hs]; exact cut_to ..) | (rw [hs, List.length_append] at hlen; omega) | fail))
         | (with_reducible refine Or.inl ⟨_, isE_nil _, ?_⟩)
         | ((with_reducible refine Or.inl ?_); (conv => whnf); (with_reducible refine ⟨_, isE_nil _, ?_⟩))
         | (with_reducible refine Br.mk (fun hb => ?_) (fun hb => ?_) <;> (try rw [hb]) <;> (try simp only [List.length_map, decide_eq_true_eq, decide_eq_false_iff_not, Bool.not_eq_true', Bool.not_eq_false', Int.ofNat_lt, Int.ofNat_le, Int.not_lt, Int.not_le, Int.toNat_natCast] at hb))
         | (with_reducible refine ⟨_, (by first | exact ByteRows.map _ | (repeat (first | exact ByteRows.nil | exact ByteRows.map _ | refine ByteRows.cons ?_ | refine ByteRows.app ?_ ?_))), ?_⟩)
         | (refine Exists.intro _ (And.intro (ByteRows.rep _) ?_))
         | (refine Exists.intro _ (And.intro (ByteRows.app (ByteRows.map _) (ByteRows.cons ByteRows.nil)) ?_))
         | ((with_reducible refine And.intro ?_ ?_); (focus (first | with_reducible rfl | exact trivial | (exact ⟨rfl, trivial⟩) | (exact ⟨rfl, rfl, trivial⟩) | omega | (intro r hr; simp only [List.mem_singleton] at hr; subst hr; rfl)  | ((simp only [in64, maxLen] at *; omega)) | ((exact ⟨by omega, by rw [hs, List.length_append]; omega⟩)) | ((rw [hs]; simp only [List.length_append]; omega)) | (simp only [in64]; omega) | assumption | (simp; done) | (simp [V.cells]; done) | (simp [in64, maxLen, limK] at *; omega) | ((show confB _ _ = true); kernel_rfl) | rfl)))
         | (intro row hrow; (try simp only [Int.toNat_natCast, List.length_map, toNat_pred, toNat_succ', toNat_zero', toNat_one'] at hrow); (first | (have hsm := same_map (by assumption) hrow; subst hsm; clear hrow) | (obtain ⟨p, hp, rfl⟩ := of_map hrow; clear hrow)))
         | (with_reducible refine AW.seq ?_) | (with_reducible refine AW.region base (by kernel_rfl) ?_) | (with_reducible refine AW.cond ?_) | (with_reducible refine AW.block ?_) | (with_reducible refine AW.ret ?_) | (with_reducible refine AW.exit ?_) | (with_reducible refine AW.skip ?_))))
  all_goals (conv => whnf)
  all_goals (refine ⟨[0, 8004], ?_⟩)
  all_goals (repeat' (first | (with_reducible rfl) | exact trivial | ((conv => whnf); (first | (with_reducible refine And.intro ?_ ?_) | exact trivial | (intro hb; first | (exfalso; simp_all; done) | skip)))))
  all_goals (first | rfl | (exact congrArg (V.int _) (congrArg (fun n : Nat => (n : Int)) (List.length_map ..))))

set_option maxRecDepth 100000 in
set_option maxHeartbeats 400000 in
theorem jAdd_ok (b r : Bs) (n c : Int) (hr : r.length ≤ 200000) (hb : (b.length + (wrap r).length : Int) ≤ 200000) (hc : in64 (c + (wrap r).length)) (hn : in64 (n + 1)) : FnM Tryd.prog 27 [.ptr 0 0, .str r] [.cells [.ptr 1 0, .int .i64 n], .cells [.str b, .int .i64 c]] (noErr) [.cells [.ptr 1 0, .int .i64 (n + 1)], .cells [.str (b ++ wrap r), .int .i64 (c + ((wrap r).length : Int))]] := by
  refine FnM.mk' base Tryd.func27 rfl rfl rfl rfl ?_
  repeat' (first
      | (with_reducible refine AW.seq ?_) | (with_reducible refine AW.region base (by kernel_rfl) ?_) | (with_reducible refine AW.cond ?_) | (with_reducible refine AW.block ?_) | (with_reducible refine AW.ret ?_) | (with_reducible refine AW.exit ?_) | (with_reducible refine AW.skip ?_)
      | ((conv => whnf); (first
         | (with_reducible refine Br.t ?_)
         | (with_reducible refine Br.f ?_)
         | ((with_reducible refine Or.inl ?_); (conv => whnf); (with_reducible refine And.intro LitSl.mk ?_))
         | (refine Br.t ?_)
         | (refine Br.f ?_)
         | (with_reducible refine Or.inl ⟨_, frameWrap_fn _ (by omega), ?_⟩)
         | ((with_reducible refine Or.inl ?_); (conv => whnf); (with_reducible refine ⟨_, frameWrap_fn _ (by omega), ?_⟩))
         | (with_reducible refine Or.inr ⟨[?_], _, _, _, _, diskAppend_ok ?_ ?_ ?_ (by assumption) (by assumption), ?_⟩)
         | (with_reducible refine Or.inr (Or.inr ⟨[?_], _, _, _, _, diskAppend_ok ?_ ?_ ?_ (by assumption) (by assumption), ?_⟩))
         | (with_reducible refine Br.mk (fun hb => ?_) (fun hb => ?_) <;> (try rw [hb]) <;> (try simp only [List.length_map, decide_eq_true_eq, decide_eq_false_iff_not, Bool.not_eq_true', Bool.not_eq_false', Int.ofNat_lt, Int.ofNat_le, Int.not_lt, Int.not_le, Int.toNat_natCast] at hb))
         | (with_reducible refine ⟨_, (by first | exact ByteRows.map _ | (repeat (first | exact ByteRows.nil | exact ByteRows.map _ | refine ByteRows.cons ?_ | refine ByteRows.app ?_ ?_))), ?_⟩)
         | (refine Exists.intro _ (And.intro (ByteRows.rep _) ?_))
         | (refine Exists.intro _ (And.intro (ByteRows.app (ByteRows.map _) (ByteRows.cons ByteRows.nil)) ?_))
         | ((with_reducible refine And.intro ?_ ?_); (focus (first | with_reducible rfl | exact trivial | (exact ⟨rfl, trivial⟩) | (exact ⟨rfl, rfl, trivial⟩) | omega | (intro r hr; simp only [List.mem_singleton] at hr; subst hr; rfl)  | ((simp only [in64, maxLen] at *; omega)) | ((simp only [List.length_append, maxLen, wrap_len] at *; omega)) | (simp only [in64]; omega) | assumption | (simp; done) | (simp [V.cells]; done) | (simp [in64, maxLen, limK] at *; omega) | ((show confB _ _ = true); kernel_rfl) | rfl)))
         | (intro row hrow; (try simp only [Int.toNat_natCast, List.length_map, toNat_pred, toNat_succ', toNat_zero', toNat_one'] at hrow); (first | (have hsm := same_map (by assumption) hrow; subst hsm; clear hrow) | (obtain ⟨p, hp, rfl⟩ := of_map hrow; clear hrow)))
         | (with_reducible refine AW.seq ?_) | (with_reducible refine AW.region base (by kernel_rfl) ?_) | (with_reducible refine AW.cond ?_) | (with_reducible refine AW.block ?_) | (with_reducible refine AW.ret ?_) | (with_reducible refine AW.exit ?_) | (with_reducible refine AW.skip ?_))))
  all_goals (conv => whnf)
  all_goals (refine ⟨[0, 1], ?_⟩)
  all_goals (repeat' (first | (with_reducible rfl) | exact trivial | ((conv => whnf); (first | (with_reducible refine And.intro ?_ ?_) | exact trivial | (intro hb; first | (exfalso; simp_all; done) | skip)))))
  all_goals (first | rfl)

set_option maxRecDepth 100000 in
set_option maxHeartbeats 400000 in
theorem jSync_fn (b : Bs) (n c : Int) : FnM Tryd.prog 26 [.ptr 0 0] [.cells [.ptr 1 0, .int .i64 n], .cells [.str b, .int .i64 c]] (.tup []) [.cells [.ptr 1 0, .int .i64 n], .cells [.str b, .int .i64 0]] := by
  refine FnM.mk' base Tryd.func26 rfl rfl rfl rfl ?_
  repeat' (first
      | (with_reducible refine AW.seq ?_) | (with_reducible refine AW.region base (by kernel_rfl) ?_) | (with_reducible refine AW.cond ?_) | (with_reducible refine AW.block ?_) | (with_reducible refine AW.ret ?_) | (with_reducible refine AW.exit ?_) | (with_reducible refine AW.skip ?_)
      | ((conv => whnf); (first
         | (with_reducible refine Br.t ?_)
         | (with_reducible refine Br.f ?_)
         | ((with_reducible refine Or.inl ?_); (conv => whnf); (with_reducible refine And.intro LitSl.mk ?_))
         | (refine Br.t ?_)
         | (refine Br.f ?_)
         | (with_reducible refine Or.inr ⟨[?_], _, _, _, _, diskSync_fn ?_ ?_, ?_⟩)
         | (with_reducible refine Or.inr (Or.inr ⟨[?_], _, _, _, _, diskSync_fn ?_ ?_, ?_⟩))
         | (with_reducible refine Br.mk (fun hb => ?_) (fun hb => ?_) <;> (try rw [hb]) <;> (try simp only [List.length_map, decide_eq_true_eq, decide_eq_false_iff_not, Bool.not_eq_true', Bool.not_eq_false', Int.ofNat_lt, Int.ofNat_le, Int.not_lt, Int.not_le, Int.toNat_natCast] at hb))
         | (with_reducible refine ⟨_, (by first | exact ByteRows.map _ | (repeat (first | exact ByteRows.nil | exact ByteRows.map _ | refine ByteRows.cons ?_ | refine ByteRows.app ?_ ?_))), ?_⟩)
         | (refine Exists.intro _ (And.intro (ByteRows.rep _) ?_))
         | (refine Exists.intro _ (And.intro (ByteRows.app (ByteRows.map _) (ByteRows.cons ByteRows.nil)) ?_))
         | ((with_reducible refine And.intro ?_ ?_); (focus (first | with_reducible rfl | exact trivial | (exact ⟨rfl, trivial⟩) | (exact ⟨rfl, rfl, trivial⟩) | omega | (intro r hr; simp only [List.mem_singleton] at hr; subst hr; rfl)  | ((simp only [in64, maxLen] at *; omega)) | ((simp only [List.length_append, maxLen, wrap_len] at *; omega)) | (simp only [in64]; omega) | assumption | (simp; done) | (simp [V.cells]; done) | (simp [in64, maxLen, limK] at *; omega) | ((show confB _ _ = true); kernel_rfl) | rfl)))
         | (intro row hrow; (try simp only [Int.toNat_natCast, List.length_map, toNat_pred, toNat_succ', toNat_zero', toNat_one'] at hrow); (first | (have hsm := same_map (by assumption) hrow; subst hsm; clear hrow) | (obtain ⟨p, hp, rfl⟩ := of_map hrow; clear hrow)))
         | (with_reducible refine AW.seq ?_) | (with_reducible refine AW.region base (by kernel_rfl) ?_) | (with_reducible refine AW.cond ?_) | (with_reducible refine AW.block ?_) | (with_reducible refine AW.ret ?_) | (with_reducible refine AW.exit ?_) | (with_reducible refine AW.skip ?_))))
  all_goals (conv => whnf)
  all_goals (refine ⟨[0, 1], ?_⟩)
  all_goals (repeat' (first | (with_reducible rfl) | exact trivial | ((conv => whnf); (first | (with_reducible refine And.intro ?_ ?_) | exact trivial | (intro hb; first | (exfalso; simp_all; done) | skip)))))
  all_goals (first | rfl)

set_option maxRecDepth 100000 in
set_option maxHeartbeats 400000 in
theorem jLen_fn (v : V) (n : Int) : Fn Tryd.prog 34 [.elt [v, .int .i64 n] 0] (.int .i64 n) := by
  refine Fn.mk' base Tryd.func34 rfl rfl rfl ?_
  repeat' (first
      | (with_reducible refine AW.seq ?_) | (with_reducible refine AW.region base (by kernel_rfl) ?_) | (with_reducible refine AW.cond ?_) | (with_reducible refine AW.block ?_) | (with_reducible refine AW.ret ?_) | (with_reducible refine AW.exit ?_) | (with_reducible refine AW.skip ?_)
      | ((conv => whnf); (first
         | (with_reducible refine Br.t ?_)
         | (with_reducible refine Br.f ?_)
         | ((with_reducible refine Or.inl ?_); (conv => whnf); (with_reducible refine And.intro LitSl.mk ?_))
         | (refine Br.t ?_)
         | (refine Br.f ?_)
         | (with_reducible refine Br.mk (fun hb => ?_) (fun hb => ?_) <;> (try rw [hb]) <;> (try simp only [List.length_map, decide_eq_true_eq, decide_eq_false_iff_not, Bool.not_eq_true', Bool.not_eq_false', Int.ofNat_lt, Int.ofNat_le, Int.not_lt, Int.not_le, Int.toNat_natCast] at hb))
         | (with_reducible refine ⟨_, (by first | exact ByteRows.map _ | (repeat (first | exact ByteRows.nil | exact ByteRows.map _ | refine ByteRows.cons ?_ | refine ByteRows.app ?_ ?_))), ?_⟩)
         | (refine Exists.intro _ (And.intro (ByteRows.rep _) ?_))
         | (refine Exists.intro _ (And.intro (ByteRows.app (ByteRows.map _) (ByteRows.cons ByteRows.nil)) ?_))
         | ((with_reducible refine And.intro ?_ ?_); (focus (first | with_reducible rfl | exact trivial | (exact ⟨rfl, trivial⟩) | (exact ⟨rfl, rfl, trivial⟩) | omega | (intro r hr; simp only [List.mem_singleton] at hr; subst hr; rfl)  | (simp only [in64]; omega) | assumption | (simp; done) | (simp [V.cells]; done) | (simp [in64, maxLen, limK] at *; omega) | ((show confB _ _ = true); kernel_rfl) | rfl)))
         | (intro row hrow; (try simp only [Int.toNat_natCast, List.length_map, toNat_pred, toNat_succ', toNat_zero', toNat_one'] at hrow); (first | (have hsm := same_map (by assumption) hrow; subst hsm; clear hrow) | (obtain ⟨p, hp, rfl⟩ := of_map hrow; clear hrow)))
         | (with_reducible refine AW.seq ?_) | (with_reducible refine AW.region base (by kernel_rfl) ?_) | (with_reducible refine AW.cond ?_) | (with_reducible refine AW.block ?_) | (with_reducible refine AW.ret ?_) | (with_reducible refine AW.exit ?_) | (with_reducible refine AW.skip ?_))))
  all_goals (conv => whnf)
  all_goals (first | rfl | (simp only [V.bool.injEq, V.tup.injEq, V.agg.injEq, V.str.injEq, V.int.injEq, V.sl.injEq, V.ifc.injEq, List.cons.injEq, and_true, true_and, and_self]; done) | (simp only [V.bool.injEq, V.tup.injEq, V.agg.injEq, V.str.injEq, V.int.injEq, V.sl.injEq, V.ifc.injEq, List.cons.injEq, and_true, true_and, and_self]; grind) | (simp  at *; done) | (simp  at *; grind))

theorem wraps_take_len (l : List Bs) (i : Nat) : (wraps (l.take i)).length ≤ (wraps l).length := by
  conv => rhs; rw [← List.take_append_drop i l, wraps_app, List.length_append]
  omega
theorem wraps_step {l : List Bs} {i : Nat} {t : Bs} (h : l[i]? = some t) : wraps (l.take (i + 1)) = wraps (l.take i) ++ wrap t := by
  rw [List.take_add_one, h, wraps_app]; simp [wraps]

set_option maxRecDepth 100000 in
set_option maxHeartbeats 400000 in
theorem jTrim_ok (l : List Bs) (b : Bs) (n c : Int) (hl : ∀ t ∈ l, t.length ≤ 200000) (hlen : (wraps l).length ≤ 200000) (hll : l.length ≤ 1000000) : FnM Tryd.prog 33 [.ptr 0 0, .sl (l.map encT)] [.cells [.ptr 1 0, .int .i64 n], .cells [.str b, .int .i64 c]] (noErr) [.cells [.ptr 1 0, .int .i64 (l.length : Int)], .cells [.str (wraps l), .int .i64 0]] := by
  refine FnM.mk' base Tryd.func33 rfl rfl rfl rfl ?_
  repeat' (first
      | (with_reducible refine AW.seq ?_) | (with_reducible refine AW.region base (by kernel_rfl) ?_) | (with_reducible refine AW.cond ?_) | (with_reducible refine AW.block ?_) | (with_reducible refine AW.ret ?_) | (with_reducible refine AW.exit ?_) | (with_reducible refine AW.skip ?_)
      | ((conv => whnf); (first
         | (with_reducible refine Br.t ?_)
         | (with_reducible refine Br.f ?_)
         | ((with_reducible refine Or.inl ?_); (conv => whnf); (with_reducible refine And.intro LitSl.mk ?_))
         | (refine Br.t ?_)
         | (refine Br.f ?_)
         | (with_reducible refine Or.inl ⟨_, frameWrap_fn _ (by first | omega | exact hl _ (List.mem_of_getElem? hp) | fail), ?_⟩)
         | ((with_reducible refine Or.inl ?_); (conv => whnf); (with_reducible refine ⟨_, frameWrap_fn _ (by first | omega | exact hl _ (List.mem_of_getElem? hp) | fail), ?_⟩))
         | ((with_reducible refine Or.inr ⟨[?_], _, _, _, _, jreplace_of ?_ ?_ (wraps l) ?_ ?_ ?_, ?_⟩); rotate_right; (repeat ((conv => whnf); (with_reducible refine And.intro ?_ ?_); (focus (first | with_reducible rfl | exact trivial | (exact ⟨rfl, trivial⟩) | (exact ⟨rfl, rfl, trivial⟩) | omega | (intro r hr; simp only [List.mem_singleton] at hr; subst hr; rfl)  | (simp only [in64]; omega) | assumption | (simp; done) | (simp [V.cells]; done) | (simp [in64, maxLen, limK] at *; omega) | ((show confB _ _ = true); kernel_rfl) | rfl)))); rotate_left; (first | omega | rw [List.take_length] | fail); (first | omega | rw [List.take_length] | fail))
         | ((with_reducible refine Or.inr (Or.inr ⟨[?_], _, _, _, _, jreplace_of ?_ ?_ (wraps l) ?_ ?_ ?_, ?_⟩)); rotate_right; (repeat ((conv => whnf); (with_reducible refine And.intro ?_ ?_); (focus (first | with_reducible rfl | exact trivial | (exact ⟨rfl, trivial⟩) | (exact ⟨rfl, rfl, trivial⟩) | omega | (intro r hr; simp only [List.mem_singleton] at hr; subst hr; rfl)  | (simp only [in64]; omega) | assumption | (simp; done) | (simp [V.cells]; done) | (simp [in64, maxLen, limK] at *; omega) | ((show confB _ _ = true); kernel_rfl) | rfl)))); rotate_left; (first | omega | rw [List.take_length] | fail); (first | omega | rw [List.take_length] | fail))
         | (with_reducible refine Br.mk (fun hb => ?_) (fun hb => ?_) <;> (try rw [hb]) <;> (try simp only [List.length_map, decide_eq_true_eq, decide_eq_false_iff_not, Bool.not_eq_true', Bool.not_eq_false', Int.ofNat_lt, Int.ofNat_le, Int.not_lt, Int.not_le, Int.toNat_natCast] at hb))
         | (with_reducible refine ⟨_, (by first | exact ByteRows.map _ | (repeat (first | exact ByteRows.nil | exact ByteRows.map _ | refine ByteRows.cons ?_ | refine ByteRows.app ?_ ?_))), ?_⟩)
         | (refine Exists.intro _ (And.intro (ByteRows.rep _) ?_))
         | (refine Exists.intro _ (And.intro (ByteRows.app (ByteRows.map _) (ByteRows.cons ByteRows.nil)) ?_))
         | ((with_reducible refine And.intro ?_ ?_); (focus (first | with_reducible rfl | exact trivial | (exact ⟨rfl, trivial⟩) | (exact ⟨rfl, rfl, trivial⟩) | omega | (intro r hr; simp only [List.mem_singleton] at hr; subst hr; rfl)  | ((simp only [in64, maxLen] at *; omega)) | ((have hmm := wraps_take_len l (i + 1); rw [hstep, List.length_append] at hmm; simp only [maxLen]; omega)) | ((simp only [List.length_map] at *; omega)) | (simp only [in64]; omega) | assumption | (simp; done) | (simp [V.cells]; done) | (simp [in64, maxLen, limK] at *; omega) | ((show confB _ _ = true); kernel_rfl) | rfl)))
         | (intro row hrow; (try simp only [Int.toNat_natCast, List.length_map, toNat_pred, toNat_succ', toNat_zero', toNat_one'] at hrow); (first | (have hsm := same_map (by assumption) hrow; subst hsm; clear hrow) | (obtain ⟨p, hp, rfl⟩ := of_map hrow; clear hrow)))
         | (with_reducible refine AW.seq ?_) | (with_reducible refine AW.region base (by kernel_rfl) ?_) | (with_reducible refine AW.cond ?_) | (with_reducible refine AW.block ?_) | (with_reducible refine AW.ret ?_) | (with_reducible refine AW.exit ?_) | (with_reducible refine AW.skip ?_))))
  refine AW.loop (fun (i : Nat) => i ≤ l.length) (fun (i : Nat) => ⟨[(0, .ptr 0 0), (1, .sl (l.map encT)), (5, .str (wraps (l.take i))), (9, .sl (l.map encT)), (10, .int .i64 (l.length : Int)), (11, .int .i64 (i : Int))], [.cells [.ptr 1 0, .int .i64 n], .cells [.str b, .int .i64 c]]⟩) (fun (i : Nat) => l.length - i) 0 ?_ ?_ ?_
  · omega
  · (refine ⟨⟨[0, 1], ?_⟩⟩; repeat' (first | (with_reducible rfl) | exact trivial | ((conv => whnf); (first | (with_reducible refine And.intro ?_ ?_) | (first | with_reducible rfl | (refine congrArg V.str ?_; (first | with_reducible rfl | omega | (rw [hstep]; done) | (exact congrArg (fun n : Nat => (n : Int)) (List.length_map ..)) | rfl | (simp; done))) | (refine congrArg (V.int _) ?_; (first | with_reducible rfl | omega | (rw [hstep]; done) | (exact congrArg (fun n : Nat => (n : Int)) (List.length_map ..)) | rfl | (simp; done))) | (refine congrArg V.bool ?_; (first | with_reducible rfl | omega | (rw [hstep]; done) | (exact congrArg (fun n : Nat => (n : Int)) (List.length_map ..)) | rfl | (simp; done))) | (refine congrArg V.sl ?_; (first | with_reducible rfl | omega | (rw [hstep]; done) | (exact congrArg (fun n : Nat => (n : Int)) (List.length_map ..)) | rfl | (simp; done))) | (first | with_reducible rfl | omega | (rw [hstep]; done) | (exact congrArg (fun n : Nat => (n : Int)) (List.length_map ..)) | rfl | (simp; done)) | rfl)))))
  · rintro i hk
    rcases (by omega : i = l.length ∨ i < l.length) with hi | hi
    · subst hi
      repeat' (first
          | (with_reducible refine AW.seq ?_) | (with_reducible refine AW.region base (by kernel_rfl) ?_) | (with_reducible refine AW.cond ?_) | (with_reducible refine AW.block ?_) | (with_reducible refine AW.ret ?_) | (with_reducible refine AW.exit ?_) | (with_reducible refine AW.skip ?_)
          | ((conv => whnf); (first
             | (with_reducible refine Br.t ?_)
             | (with_reducible refine Br.f ?_)
             | ((with_reducible refine Or.inl ?_); (conv => whnf); (with_reducible refine And.intro LitSl.mk ?_))
             | (refine Br.t ?_)
             | (refine Br.f ?_)
             | (with_reducible refine Br.mk (fun hb => ?_) (fun hb => (by exfalso; (first | (simp at hb; done) | omega | (simp only [List.length_map] at hb; omega) | (simp only [decide_eq_false_iff_not, decide_eq_true_eq, List.length_map] at hb; omega) | fail))))
             | (with_reducible refine Br.mk (fun hb => (by exfalso; (first | (simp at hb; done) | omega | (simp only [List.length_map] at hb; omega) | (simp only [decide_eq_false_iff_not, decide_eq_true_eq, List.length_map] at hb; omega) | fail))) (fun hb => ?_))
             | (with_reducible refine Or.inl ⟨_, frameWrap_fn _ (by first | omega | exact hl _ (List.mem_of_getElem? hp) | fail), ?_⟩)
             | ((with_reducible refine Or.inl ?_); (conv => whnf); (with_reducible refine ⟨_, frameWrap_fn _ (by first | omega | exact hl _ (List.mem_of_getElem? hp) | fail), ?_⟩))
             | ((with_reducible refine Or.inr ⟨[?_], _, _, _, _, jreplace_of ?_ ?_ (wraps l) ?_ ?_ ?_, ?_⟩); rotate_right; (repeat ((conv => whnf); (with_reducible refine And.intro ?_ ?_); (focus (first | with_reducible rfl | exact trivial | (exact ⟨rfl, trivial⟩) | (exact ⟨rfl, rfl, trivial⟩) | omega | (intro r hr; simp only [List.mem_singleton] at hr; subst hr; rfl)  | (simp only [in64]; omega) | assumption | (simp; done) | (simp [V.cells]; done) | (simp [in64, maxLen, limK] at *; omega) | ((show confB _ _ = true); kernel_rfl) | rfl)))); rotate_left; (first | omega | rw [List.take_length] | fail); (first | omega | rw [List.take_length] | fail))
             | ((with_reducible refine Or.inr (Or.inr ⟨[?_], _, _, _, _, jreplace_of ?_ ?_ (wraps l) ?_ ?_ ?_, ?_⟩)); rotate_right; (repeat ((conv => whnf); (with_reducible refine And.intro ?_ ?_); (focus (first | with_reducible rfl | exact trivial | (exact ⟨rfl, trivial⟩) | (exact ⟨rfl, rfl, trivial⟩) | omega | (intro r hr; simp only [List.mem_singleton] at hr; subst hr; rfl)  | (simp only [in64]; omega) | assumption | (simp; done) | (simp [V.cells]; done) | (simp [in64, maxLen, limK] at *; omega) | ((show confB _ _ = true); kernel_rfl) | rfl)))); rotate_left; (first | omega | rw [List.take_length] | fail); (first | omega | rw [List.take_length] | fail))
             | (with_reducible refine Br.mk (fun hb => ?_) (fun hb => ?_) <;> (try rw [hb]) <;> (try simp only [List.length_map, decide_eq_true_eq, decide_eq_false_iff_not, Bool.not_eq_true', Bool.not_eq_false', Int.ofNat_lt, Int.ofNat_le, Int.not_lt, Int.not_le, Int.toNat_natCast] at hb))
             | (with_reducible refine ⟨_, (by first | exact ByteRows.map _ | (repeat (first | exact ByteRows.nil | exact ByteRows.map _ | refine ByteRows.cons ?_ | refine ByteRows.app ?_ ?_))), ?_⟩)
             | (refine Exists.intro _ (And.intro (ByteRows.rep _) ?_))
             | (refine Exists.intro _ (And.intro (ByteRows.app (ByteRows.map _) (ByteRows.cons ByteRows.nil)) ?_))
             | ((with_reducible refine And.intro ?_ ?_); (focus (first | with_reducible rfl | exact trivial | (exact ⟨rfl, trivial⟩) | (exact ⟨rfl, rfl, trivial⟩) | omega | (intro r hr; simp only [List.mem_singleton] at hr; subst hr; rfl)  | ((simp only [in64, maxLen] at *; omega)) | ((have hmm := wraps_take_len l (i + 1); rw [hstep, List.length_append] at hmm; simp only [maxLen]; omega)) | ((simp only [List.length_map] at *; omega)) | (simp only [in64]; omega) | assumption | (simp; done) | (simp [V.cells]; done) | (simp [in64, maxLen, limK] at *; omega) | ((show confB _ _ = true); kernel_rfl) | rfl)))
             | (intro row hrow; (try simp only [Int.toNat_natCast, List.length_map, toNat_pred, toNat_succ', toNat_zero', toNat_one'] at hrow); (first | (have hsm := same_map (by assumption) hrow; subst hsm; clear hrow) | (obtain ⟨p, hp, rfl⟩ := of_map hrow; clear hrow)))
             | (with_reducible refine AW.seq ?_) | (with_reducible refine AW.region base (by kernel_rfl) ?_) | (with_reducible refine AW.cond ?_) | (with_reducible refine AW.block ?_) | (with_reducible refine AW.ret ?_) | (with_reducible refine AW.exit ?_) | (with_reducible refine AW.skip ?_))))
      all_goals (conv => whnf)
      all_goals (refine ⟨[0, 1], ?_⟩)
      all_goals (repeat' (first | (with_reducible rfl) | exact trivial | ((conv => whnf); (first | (with_reducible refine And.intro ?_ ?_) | exact trivial | (intro hb; first | (exfalso; simp_all; done) | skip)))))
      all_goals (first | rfl | (exact congrArg (V.int _) (congrArg (fun n : Nat => (n : Int)) (List.length_map ..))))
    obtain ⟨p, hp⟩ : ∃ p, l[i]? = some p := ⟨_, List.getElem?_eq_getElem hi⟩
    have hstep := wraps_step hp
    repeat' (first
        | (with_reducible refine AW.seq ?_) | (with_reducible refine AW.region base (by kernel_rfl) ?_) | (with_reducible refine AW.cond ?_) | (with_reducible refine AW.block ?_) | (with_reducible refine AW.ret ?_) | (with_reducible refine AW.exit ?_) | (with_reducible refine AW.skip ?_)
        | ((conv => whnf); (first
           | (with_reducible refine Br.t ?_)
           | (with_reducible refine Br.f ?_)
           | ((with_reducible refine Or.inl ?_); (conv => whnf); (with_reducible refine And.intro LitSl.mk ?_))
           | (refine Br.t ?_)
           | (refine Br.f ?_)
           | (with_reducible refine Br.mk (fun hb => ?_) (fun hb => (by exfalso; (first | (simp at hb; done) | omega | (simp only [List.length_map] at hb; omega) | (simp only [decide_eq_false_iff_not, decide_eq_true_eq, List.length_map] at hb; omega) | fail))))
           | (with_reducible refine Br.mk (fun hb => (by exfalso; (first | (simp at hb; done) | omega | (simp only [List.length_map] at hb; omega) | (simp only [decide_eq_false_iff_not, decide_eq_true_eq, List.length_map] at hb; omega) | fail))) (fun hb => ?_))
           | (with_reducible refine Or.inl ⟨_, frameWrap_fn _ (by first | omega | exact hl _ (List.mem_of_getElem? hp) | fail), ?_⟩)
           | ((with_reducible refine Or.inl ?_); (conv => whnf); (with_reducible refine ⟨_, frameWrap_fn _ (by first | omega | exact hl _ (List.mem_of_getElem? hp) | fail), ?_⟩))
           | ((with_reducible refine Or.inr ⟨[?_], _, _, _, _, jreplace_of ?_ ?_ (wraps l) ?_ ?_ ?_, ?_⟩); rotate_right; (repeat ((conv => whnf); (with_reducible refine And.intro ?_ ?_); (focus (first | with_reducible rfl | exact trivial | (exact ⟨rfl, trivial⟩) | (exact ⟨rfl, rfl, trivial⟩) | omega | (intro r hr; simp only [List.mem_singleton] at hr; subst hr; rfl)  | (simp only [in64]; omega) | assumption | (simp; done) | (simp [V.cells]; done) | (simp [in64, maxLen, limK] at *; omega) | ((show confB _ _ = true); kernel_rfl) | rfl)))); rotate_left; (first | omega | rw [List.take_length] | fail); (first | omega | rw [List.take_length] | fail))
           | ((with_reducible refine Or.inr (Or.inr ⟨[?_], _, _, _, _, jreplace_of ?_ ?_ (wraps l) ?_ ?_ ?_, ?_⟩)); rotate_right; (repeat ((conv => whnf); (with_reducible refine And.intro ?_ ?_); (focus (first | with_reducible rfl | exact trivial | (exact ⟨rfl, trivial⟩) | (exact ⟨rfl, rfl, trivial⟩) | omega | (intro r hr; simp only [List.mem_singleton] at hr; subst hr; rfl)  | (simp only [in64]; omega) | assumption | (simp; done) | (simp [V.cells]; done) | (simp [in64, maxLen, limK] at *; omega) | ((show confB _ _ = true); kernel_rfl) | rfl)))); rotate_left; (first | omega | rw [List.take_length] | fail); (first | omega | rw [List.take_length] | fail))
           | (with_reducible refine Br.mk (fun hb => ?_) (fun hb => ?_) <;> (try rw [hb]) <;> (try simp only [List.length_map, decide_eq_true_eq, decide_eq_false_iff_not, Bool.not_eq_true', Bool.not_eq_false', Int.ofNat_lt, Int.ofNat_le, Int.not_lt, Int.not_le, Int.toNat_natCast] at hb))
           | (with_reducible refine ⟨_, (by first | exact ByteRows.map _ | (repeat (first | exact ByteRows.nil | exact ByteRows.map _ | refine ByteRows.cons ?_ | refine ByteRows.app ?_ ?_))), ?_⟩)
           | (refine Exists.intro _ (And.intro (ByteRows.rep _) ?_))
           | (refine Exists.intro _ (And.intro (ByteRows.app (ByteRows.map _) (ByteRows.cons ByteRows.nil)) ?_))
           | ((with_reducible refine And.intro ?_ ?_); (focus (first | with_reducible rfl | exact trivial | (exact ⟨rfl, trivial⟩) | (exact ⟨rfl, rfl, trivial⟩) | omega | (intro r hr; simp only [List.mem_singleton] at hr; subst hr; rfl)  | ((simp only [in64, maxLen] at *; omega)) | ((have hmm := wraps_take_len l (i + 1); rw [hstep, List.length_append] at hmm; simp only [maxLen]; omega)) | ((simp only [List.length_map] at *; omega)) | (simp only [in64]; omega) | assumption | (simp; done) | (simp [V.cells]; done) | (simp [in64, maxLen, limK] at *; omega) | ((show confB _ _ = true); kernel_rfl) | rfl)))
           | (intro row hrow; (try simp only [Int.toNat_natCast, List.length_map, toNat_pred, toNat_succ', toNat_zero', toNat_one'] at hrow); (first | (have hsm := same_map (by assumption) hrow; subst hsm; clear hrow) | (obtain ⟨p, hp, rfl⟩ := of_map hrow; clear hrow)))
           | (with_reducible refine AW.seq ?_) | (with_reducible refine AW.region base (by kernel_rfl) ?_) | (with_reducible refine AW.cond ?_) | (with_reducible refine AW.block ?_) | (with_reducible refine AW.ret ?_) | (with_reducible refine AW.exit ?_) | (with_reducible refine AW.skip ?_))))
    all_goals (try first | with_reducible assumption | ((show (_ : Int) ≤ _); (first | omega | (simp at *; omega))) | ((show (_ : Nat) ≤ _); (first | omega | (simp at *; omega))) | ((show in64 _); (simp only [in64] at *; (first | omega | (simp at *; omega)))) | ((show (_ : Int) < _); (first | omega | (simp at *; omega))) | ((show ¬ (_ : Int) = _); (first | omega | (simp at *; omega))) | ((with_reducible refine And.intro ?_ ?_) <;> (first | omega | (simp at *; omega))))
    all_goals (first
      | (with_reducible exact absurd rfl (by assumption))
      | ((conv => whnf); (refine ⟨(i + 1), ?_⟩); (refine And.intro ?_ (And.intro ?_ ?_)); (focus (refine ⟨⟨[0, 1], ?_⟩⟩; repeat' (first | (with_reducible rfl) | exact trivial | ((conv => whnf); (first | (with_reducible refine And.intro ?_ ?_) | (first | with_reducible rfl | (refine congrArg V.str ?_; (first | with_reducible rfl | omega | (rw [hstep]; done) | (exact congrArg (fun n : Nat => (n : Int)) (List.length_map ..)) | rfl | (simp; done))) | (refine congrArg (V.int _) ?_; (first | with_reducible rfl | omega | (rw [hstep]; done) | (exact congrArg (fun n : Nat => (n : Int)) (List.length_map ..)) | rfl | (simp; done))) | (refine congrArg V.bool ?_; (first | with_reducible rfl | omega | (rw [hstep]; done) | (exact congrArg (fun n : Nat => (n : Int)) (List.length_map ..)) | rfl | (simp; done))) | (refine congrArg V.sl ?_; (first | with_reducible rfl | omega | (rw [hstep]; done) | (exact congrArg (fun n : Nat => (n : Int)) (List.length_map ..)) | rfl | (simp; done))) | (first | with_reducible rfl | omega | (rw [hstep]; done) | (exact congrArg (fun n : Nat => (n : Int)) (List.length_map ..)) | rfl | (simp; done)) | rfl)))))); (focus omega); (focus (first | omega | (dsimp only; omega) | (simp; done) | (simp; omega) | (simp at *; omega))))
      | ((conv => whnf); (try (first | rfl | (exfalso; simp_all; done) | (exfalso; simp at *; omega))); done))

end Go.Proofs.YtciiiceloghkmaaDoor
