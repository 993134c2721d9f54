/-
  Walks of package frame: what is wrapped, opened; all that is wrapped one behind the other. No conditions.
-/
import Derived.Test.YtciiiceloghkmaaDoorPack
import Derived.Test.YtciiiceloghkmaaDoorFrame0
namespace Go.Proofs.YtciiiceloghkmaaDoor
open Go.RowKit
set_option linter.unusedSimpArgs false
set_option linter.unusedVariables false
def wrap (t : Bs) : Bs := bytes4 (sum (text t)) ++ text t
def wraps (l : List Bs) : Bs := l.flatMap wrap
abbrev encT (s : Bs) : List V := [.str s]
theorem wrap_len (t : Bs) : (wrap t).length = 4 + (text t).length := by rw [wrap, List.length_append, bytes4_len]
theorem text_len8 (s : Bs) (h : s.length ≤ 1000000) : (text s).length ≤ 8 + s.length := by rw [text_len]; have := num_len 7 s.length (by omega); omega
theorem num_pos (k : Nat) : 0 < (num k).length := List.length_pos_iff.2 (num_ne k)
theorem text_pos (s : Bs) : 0 < (text s).length := by rw [text_len]; have := num_pos s.length; omega
theorem wraps_cons (t : Bs) (l : List Bs) : wraps (t :: l) = wrap t ++ wraps l := by simp [wraps]
theorem wraps_app (a b : List Bs) : wraps (a ++ b) = wraps a ++ wraps b := by simp [wraps]
theorem wraps_cons_app (t : Bs) (l : List Bs) (x : Bs) : wraps (t :: l) ++ x = wrap t ++ (wraps l ++ x) := by rw [wraps_cons, List.append_assoc]
theorem wraps_one (t : Bs) : wraps [t] = wrap t := by simp [wraps]
theorem drop4 {s b u : Bs} (h : s = b ++ u) (hb : b.length = 4) : List.drop (4 : Int).toNat (List.take s.length s) = u := by
  rw [List.take_length, h, show (4 : Int).toNat = b.length by rw [hb]; rfl, List.drop_left]
theorem take4 {s b u : Bs} (h : s = b ++ u) (hb : b.length = 4) : List.drop 0 (List.take (4 : Int).toNat s) = b := by
  rw [List.drop_zero, h, show (4 : Int).toNat = b.length by rw [hb]; rfl, List.take_left]
theorem mid4 {s b u r : Bs} (h : s = b ++ (u ++ r)) (hb : b.length = 4) : List.drop (4 : Int).toNat (List.take ((s.length : Int) - (r.length : Int)).toNat s) = u := by
  rw [show ((s.length : Int) - (r.length : Int)).toNat = (b ++ u).length by rw [h]; simp only [List.length_append]; omega, h, ← List.append_assoc, List.take_left, show (4 : Int).toNat = b.length by rw [hb]; rfl, List.drop_left]

set_option maxRecDepth 100000 in
set_option maxHeartbeats 400000 in
theorem sum_of (s u : Bs) (h : s = u) (hl : u.length ≤ 1000000) : Fn Tryd.prog 46 [.str s] (.int .u32 (sum u : Int)) := by
  subst h; exact sum_fn s hl

set_option maxRecDepth 100000 in
set_option maxHeartbeats 400000 in
theorem frameWrap_fn (s : Bs) (h : s.length ≤ 200000) : Fn Tryd.prog 20 [.str s] (.str (wrap s)) := by
  refine Fn.mk' base Tryd.func20 rfl rfl rfl ?_
  repeat' (first
      | (with_reducible refine AW.seq ?_) | (with_reducible refine AW.region base (by kernel_rfl) ?_) | (with_reducible refine AW.cond ?_) | (with_reducible refine AW.block ?_) | (with_reducible refine AW.ret ?_) | (with_reducible refine AW.exit ?_) | (with_reducible refine AW.skip ?_)
      | ((conv => whnf); (first
         | (with_reducible refine Br.t ?_)
         | (with_reducible refine Br.f ?_)
         | ((with_reducible refine Or.inl ?_); (conv => whnf); (with_reducible refine And.intro LitSl.mk ?_))
         | (refine Br.t ?_)
         | (refine Br.f ?_)
         | (with_reducible refine Or.inl ⟨_, text_fn _ (by omega), ?_⟩)
         | ((with_reducible refine Or.inl ?_); (conv => whnf); (with_reducible refine ⟨_, text_fn _ (by omega), ?_⟩))
         | (with_reducible refine Or.inl ⟨_, sum_fn _ (by have := text_len8 s (by omega); omega), ?_⟩)
         | ((with_reducible refine Or.inl ?_); (conv => whnf); (with_reducible refine ⟨_, sum_fn _ (by have := text_len8 s (by omega); omega), ?_⟩))
         | (with_reducible refine Or.inl ⟨_, bytes_fn _, ?_⟩)
         | ((with_reducible refine Or.inl ?_); (conv => whnf); (with_reducible refine ⟨_, bytes_fn _, ?_⟩))
         | (with_reducible refine Br.mk (fun hb => ?_) (fun hb => ?_) <;> (try rw [hb]) <;> (try simp only [List.length_map, decide_eq_true_eq, decide_eq_false_iff_not, Bool.not_eq_true', Bool.not_eq_false', Int.ofNat_lt, Int.ofNat_le, Int.not_lt, Int.not_le, Int.toNat_natCast] at hb))
         | (with_reducible refine ⟨_, (by first | exact ByteRows.map _ | (repeat (first | exact ByteRows.nil | exact ByteRows.map _ | refine ByteRows.cons ?_ | refine ByteRows.app ?_ ?_))), ?_⟩)
         | (refine Exists.intro _ (And.intro (ByteRows.rep _) ?_))
         | (refine Exists.intro _ (And.intro (ByteRows.app (ByteRows.map _) (ByteRows.cons ByteRows.nil)) ?_))
         | ((with_reducible refine And.intro ?_ ?_); (focus (first | with_reducible rfl | exact trivial | (exact ⟨rfl, trivial⟩) | (exact ⟨rfl, rfl, trivial⟩) | omega | (intro r hr; simp only [List.mem_singleton] at hr; subst hr; rfl)  | ((simp only [List.length_append, maxLen] at *; omega)) | ((simp only [in64] at *; omega)) | ((rw [bytes4_len]; have := text_len8 s (by omega); simp only [maxLen]; omega)) | ((rw [hs]; simp only [List.length_append, hb4]; omega)) | ((rw [hs]; simp only [List.length_append, hb4, in64]; omega)) | ((simp only [in64]; rw [hs]; simp only [List.length_append, hb4]; omega)) | (simp only [in64]; omega) | assumption | (simp; done) | (simp [V.cells]; done) | (simp [in64, maxLen, limK] at *; omega) | ((show confB _ _ = true); kernel_rfl) | rfl)))
         | (intro row hrow; (try simp only [Int.toNat_natCast, List.length_map, toNat_pred, toNat_succ', toNat_zero', toNat_one'] at hrow); (first | (have hsm := same_map (by assumption) hrow; subst hsm; clear hrow) | (obtain ⟨p, hp, rfl⟩ := of_map hrow; clear hrow)))
         | (with_reducible refine AW.seq ?_) | (with_reducible refine AW.region base (by kernel_rfl) ?_) | (with_reducible refine AW.cond ?_) | (with_reducible refine AW.block ?_) | (with_reducible refine AW.ret ?_) | (with_reducible refine AW.exit ?_) | (with_reducible refine AW.skip ?_))))
  all_goals (conv => whnf)
  all_goals (first | rfl | (simp only [V.bool.injEq, V.tup.injEq, V.agg.injEq, V.str.injEq, V.int.injEq, V.sl.injEq, V.ifc.injEq, List.cons.injEq, and_true, true_and, and_self]; done) | (simp only [V.bool.injEq, V.tup.injEq, V.agg.injEq, V.str.injEq, V.int.injEq, V.sl.injEq, V.ifc.injEq, List.cons.injEq, and_true, true_and, and_self]; grind) | (simp  at *; done) | (simp  at *; grind) | (exact congrArg V.str rfl))

set_option maxRecDepth 100000 in
set_option maxHeartbeats 400000 in
theorem open_ok' (s t rest : Bs) (hs : s = bytes4 (sum (text t)) ++ (text t ++ rest)) (h : t.length ≤ 200000) (hr : rest.length ≤ 1000000000) : Fn Tryd.prog 45 [.str s] (.tup [.str t, .str rest, noErr]) := by
  refine Fn.mk' base Tryd.func45 rfl rfl rfl ?_
  have hb4 : (bytes4 (sum (text t))).length = 4 := bytes4_len _
  have htp := text_len8 t (by omega)
  have hd := (drop4 hs hb4).trans (text_app t rest)
  have hm := mid4 hs hb4
  have hq : bytes4 (sum (text t)) = List.drop 0 (List.take (4 : Int).toNat s) := (take4 hs hb4).symm
  repeat' (first
      | (with_reducible refine AW.seq ?_) | (with_reducible refine AW.region base (by kernel_rfl) ?_) | (with_reducible refine AW.cond ?_) | (with_reducible refine AW.block ?_) | (with_reducible refine AW.ret ?_) | (with_reducible refine AW.exit ?_) | (with_reducible refine AW.skip ?_)
      | ((conv => whnf); (first
         | (with_reducible refine Br.t ?_)
         | (with_reducible refine Br.f ?_)
         | ((with_reducible refine Or.inl ?_); (conv => whnf); (with_reducible refine And.intro LitSl.mk ?_))
         | (refine Br.t ?_)
         | (refine Br.f ?_)
         | (with_reducible refine Br.mk (fun hb => ?_) (fun hb => (by exfalso; (first | omega | (simp at hb; done) | (simp at hb; omega) | (rw [hs] at hb; simp only [List.length_append, hb4] at hb; simp at hb; omega) | (exact absurd hq (by simpa using hb))))))
         | (with_reducible refine Br.mk (fun hb => (by exfalso; (first | omega | (simp at hb; done) | (simp at hb; omega) | (rw [hs] at hb; simp only [List.length_append, hb4] at hb; simp at hb; omega) | (exact absurd hq (by simpa using hb))))) (fun hb => ?_))
         | (with_reducible refine Or.inl ⟨_, takeText_ok' _ t rest _ hd (by omega) (by omega), ?_⟩)
         | ((with_reducible refine Or.inl ?_); (conv => whnf); (with_reducible refine ⟨_, takeText_ok' _ t rest _ hd (by omega) (by omega), ?_⟩))
         | (with_reducible refine Or.inl ⟨_, sum_of _ (text t) hm (by omega), ?_⟩)
         | ((with_reducible refine Or.inl ?_); (conv => whnf); (with_reducible refine ⟨_, sum_of _ (text t) hm (by omega), ?_⟩))
         | (with_reducible refine Or.inl ⟨_, bytes_fn _, ?_⟩)
         | ((with_reducible refine Or.inl ?_); (conv => whnf); (with_reducible refine ⟨_, bytes_fn _, ?_⟩))
         | (with_reducible refine Br.mk (fun hb => ?_) (fun hb => ?_) <;> (try rw [hb]) <;> (try simp only [List.length_map, decide_eq_true_eq, decide_eq_false_iff_not, Bool.not_eq_true', Bool.not_eq_false', Int.ofNat_lt, Int.ofNat_le, Int.not_lt, Int.not_le, Int.toNat_natCast] at hb))
         | (with_reducible refine ⟨_, (by first | exact ByteRows.map _ | (repeat (first | exact ByteRows.nil | exact ByteRows.map _ | refine ByteRows.cons ?_ | refine ByteRows.app ?_ ?_))), ?_⟩)
         | (refine Exists.intro _ (And.intro (ByteRows.rep _) ?_))
         | (refine Exists.intro _ (And.intro (ByteRows.app (ByteRows.map _) (ByteRows.cons ByteRows.nil)) ?_))
         | ((with_reducible refine And.intro ?_ ?_); (focus (first | with_reducible rfl | exact trivial | (exact ⟨rfl, trivial⟩) | (exact ⟨rfl, rfl, trivial⟩) | omega | (intro r hr; simp only [List.mem_singleton] at hr; subst hr; rfl)  | ((simp only [List.length_append, maxLen] at *; omega)) | ((simp only [in64] at *; omega)) | ((rw [bytes4_len]; have := text_len8 s (by omega); simp only [maxLen]; omega)) | ((rw [hs]; simp only [List.length_append, hb4]; omega)) | ((rw [hs]; simp only [List.length_append, hb4, in64]; omega)) | ((simp only [in64]; rw [hs]; simp only [List.length_append, hb4]; omega)) | (simp only [in64]; omega) | assumption | (simp; done) | (simp [V.cells]; done) | (simp [in64, maxLen, limK] at *; omega) | ((show confB _ _ = true); kernel_rfl) | rfl)))
         | (intro row hrow; (try simp only [Int.toNat_natCast, List.length_map, toNat_pred, toNat_succ', toNat_zero', toNat_one'] at hrow); (first | (have hsm := same_map (by assumption) hrow; subst hsm; clear hrow) | (obtain ⟨p, hp, rfl⟩ := of_map hrow; clear hrow)))
         | (with_reducible refine AW.seq ?_) | (with_reducible refine AW.region base (by kernel_rfl) ?_) | (with_reducible refine AW.cond ?_) | (with_reducible refine AW.block ?_) | (with_reducible refine AW.ret ?_) | (with_reducible refine AW.exit ?_) | (with_reducible refine AW.skip ?_))))
  all_goals (conv => whnf)
  all_goals (first | rfl | (simp only [V.bool.injEq, V.tup.injEq, V.agg.injEq, V.str.injEq, V.int.injEq, V.sl.injEq, V.ifc.injEq, List.cons.injEq, and_true, true_and, and_self]; done) | (simp only [V.bool.injEq, V.tup.injEq, V.agg.injEq, V.str.injEq, V.int.injEq, V.sl.injEq, V.ifc.injEq, List.cons.injEq, and_true, true_and, and_self]; grind) | (simp  at *; done) | (simp  at *; grind))

theorem open_ok (s t rest : Bs) (hs : s = wrap t ++ rest) (h : t.length ≤ 200000) (hr : rest.length ≤ 1000000000) : Fn Tryd.prog 45 [.str s] (.tup [.str t, .str rest, noErr]) :=
  open_ok' s t rest (by rw [hs, wrap, List.append_assoc]) h hr

set_option maxRecDepth 100000 in
set_option maxHeartbeats 400000 in
theorem open_short (s : Bs) (h : s.length < 4) : Fn Tryd.prog 45 [.str s] (.tup [.str [], .str s, errV [] 11]) := by
  refine Fn.mk' base Tryd.func45 rfl rfl rfl ?_
  repeat' (first
      | (with_reducible refine AW.seq ?_) | (with_reducible refine AW.region base (by kernel_rfl) ?_) | (with_reducible refine AW.cond ?_) | (with_reducible refine AW.block ?_) | (with_reducible refine AW.ret ?_) | (with_reducible refine AW.exit ?_) | (with_reducible refine AW.skip ?_)
      | ((conv => whnf); (first
         | (with_reducible refine Br.t ?_)
         | (with_reducible refine Br.f ?_)
         | ((with_reducible refine Or.inl ?_); (conv => whnf); (with_reducible refine And.intro LitSl.mk ?_))
         | (refine Br.t ?_)
         | (refine Br.f ?_)
         | (with_reducible refine Br.mk (fun hb => ?_) (fun hb => (by exfalso; (first | omega | (simp at hb; done) | (simp at hb; omega)))))
         | (with_reducible refine Br.mk (fun hb => (by exfalso; (first | omega | (simp at hb; done) | (simp at hb; omega)))) (fun hb => ?_))
         | (with_reducible refine Br.mk (fun hb => ?_) (fun hb => ?_) <;> (try rw [hb]) <;> (try simp only [List.length_map, decide_eq_true_eq, decide_eq_false_iff_not, Bool.not_eq_true', Bool.not_eq_false', Int.ofNat_lt, Int.ofNat_le, Int.not_lt, Int.not_le, Int.toNat_natCast] at hb))
         | (with_reducible refine ⟨_, (by first | exact ByteRows.map _ | (repeat (first | exact ByteRows.nil | exact ByteRows.map _ | refine ByteRows.cons ?_ | refine ByteRows.app ?_ ?_))), ?_⟩)
         | (refine Exists.intro _ (And.intro (ByteRows.rep _) ?_))
         | (refine Exists.intro _ (And.intro (ByteRows.app (ByteRows.map _) (ByteRows.cons ByteRows.nil)) ?_))
         | ((with_reducible refine And.intro ?_ ?_); (focus (first | with_reducible rfl | exact trivial | (exact ⟨rfl, trivial⟩) | (exact ⟨rfl, rfl, trivial⟩) | omega | (intro r hr; simp only [List.mem_singleton] at hr; subst hr; rfl)  | ((simp only [List.length_append, maxLen] at *; omega)) | ((simp only [in64] at *; omega)) | ((rw [bytes4_len]; have := text_len8 s (by omega); simp only [maxLen]; omega)) | ((rw [hs]; simp only [List.length_append, hb4]; omega)) | ((rw [hs]; simp only [List.length_append, hb4, in64]; omega)) | ((simp only [in64]; rw [hs]; simp only [List.length_append, hb4]; omega)) | (simp only [in64]; omega) | assumption | (simp; done) | (simp [V.cells]; done) | (simp [in64, maxLen, limK] at *; omega) | ((show confB _ _ = true); kernel_rfl) | rfl)))
         | (intro row hrow; (try simp only [Int.toNat_natCast, List.length_map, toNat_pred, toNat_succ', toNat_zero', toNat_one'] at hrow); (first | (have hsm := same_map (by assumption) hrow; subst hsm; clear hrow) | (obtain ⟨p, hp, rfl⟩ := of_map hrow; clear hrow)))
         | (with_reducible refine AW.seq ?_) | (with_reducible refine AW.region base (by kernel_rfl) ?_) | (with_reducible refine AW.cond ?_) | (with_reducible refine AW.block ?_) | (with_reducible refine AW.ret ?_) | (with_reducible refine AW.exit ?_) | (with_reducible refine AW.skip ?_))))
  all_goals (conv => whnf)
  all_goals (first | rfl | (simp only [V.bool.injEq, V.tup.injEq, V.agg.injEq, V.str.injEq, V.int.injEq, V.sl.injEq, V.ifc.injEq, List.cons.injEq, and_true, true_and, and_self, errV]; done) | (simp only [V.bool.injEq, V.tup.injEq, V.agg.injEq, V.str.injEq, V.int.injEq, V.sl.injEq, V.ifc.injEq, List.cons.injEq, and_true, true_and, and_self, errV]; grind) | (simp [errV] at *; done) | (simp [errV] at *; grind))

set_option maxRecDepth 100000 in
set_option maxHeartbeats 400000 in
theorem open_fail (s : Bs) (c : Int) (hl : 4 ≤ s.length) (hT : Fn Tryd.prog 17 [.str (List.drop (4 : Int).toNat (List.take s.length s)), .int .i64 200000] (.tup [.str [], .str (List.drop (4 : Int).toNat (List.take s.length s)), errV [[112, 97, 99, 107]] c])) : Fn Tryd.prog 45 [.str s] (.tup [.str [], .str s, errV [[112, 97, 99, 107]] c]) := by
  refine Fn.mk' base Tryd.func45 rfl rfl rfl ?_
  repeat' (first
      | (with_reducible refine AW.seq ?_) | (with_reducible refine AW.region base (by kernel_rfl) ?_) | (with_reducible refine AW.cond ?_) | (with_reducible refine AW.block ?_) | (with_reducible refine AW.ret ?_) | (with_reducible refine AW.exit ?_) | (with_reducible refine AW.skip ?_)
      | ((conv => whnf); (first
         | (with_reducible refine Br.t ?_)
         | (with_reducible refine Br.f ?_)
         | ((with_reducible refine Or.inl ?_); (conv => whnf); (with_reducible refine And.intro LitSl.mk ?_))
         | (refine Br.t ?_)
         | (refine Br.f ?_)
         | (with_reducible refine Br.mk (fun hb => ?_) (fun hb => (by exfalso; (first | omega | (simp at hb; done) | (simp at hb; omega)))))
         | (with_reducible refine Br.mk (fun hb => (by exfalso; (first | omega | (simp at hb; done) | (simp at hb; omega)))) (fun hb => ?_))
         | (with_reducible refine Or.inl ⟨_, hT, ?_⟩)
         | ((with_reducible refine Or.inl ?_); (conv => whnf); (with_reducible refine ⟨_, hT, ?_⟩))
         | (with_reducible refine Br.mk (fun hb => ?_) (fun hb => ?_) <;> (try rw [hb]) <;> (try simp only [List.length_map, decide_eq_true_eq, decide_eq_false_iff_not, Bool.not_eq_true', Bool.not_eq_false', Int.ofNat_lt, Int.ofNat_le, Int.not_lt, Int.not_le, Int.toNat_natCast] at hb))
         | (with_reducible refine ⟨_, (by first | exact ByteRows.map _ | (repeat (first | exact ByteRows.nil | exact ByteRows.map _ | refine ByteRows.cons ?_ | refine ByteRows.app ?_ ?_))), ?_⟩)
         | (refine Exists.intro _ (And.intro (ByteRows.rep _) ?_))
         | (refine Exists.intro _ (And.intro (ByteRows.app (ByteRows.map _) (ByteRows.cons ByteRows.nil)) ?_))
         | ((with_reducible refine And.intro ?_ ?_); (focus (first | with_reducible rfl | exact trivial | (exact ⟨rfl, trivial⟩) | (exact ⟨rfl, rfl, trivial⟩) | omega | (intro r hr; simp only [List.mem_singleton] at hr; subst hr; rfl)  | ((simp only [List.length_append, maxLen] at *; omega)) | ((simp only [in64] at *; omega)) | ((rw [bytes4_len]; have := text_len8 s (by omega); simp only [maxLen]; omega)) | ((rw [hs]; simp only [List.length_append, hb4]; omega)) | ((rw [hs]; simp only [List.length_append, hb4, in64]; omega)) | ((simp only [in64]; rw [hs]; simp only [List.length_append, hb4]; omega)) | (simp only [in64]; omega) | assumption | (simp; done) | (simp [V.cells]; done) | (simp [in64, maxLen, limK] at *; omega) | ((show confB _ _ = true); kernel_rfl) | rfl)))
         | (intro row hrow; (try simp only [Int.toNat_natCast, List.length_map, toNat_pred, toNat_succ', toNat_zero', toNat_one'] at hrow); (first | (have hsm := same_map (by assumption) hrow; subst hsm; clear hrow) | (obtain ⟨p, hp, rfl⟩ := of_map hrow; clear hrow)))
         | (with_reducible refine AW.seq ?_) | (with_reducible refine AW.region base (by kernel_rfl) ?_) | (with_reducible refine AW.cond ?_) | (with_reducible refine AW.block ?_) | (with_reducible refine AW.ret ?_) | (with_reducible refine AW.exit ?_) | (with_reducible refine AW.skip ?_))))
  all_goals (conv => whnf)
  all_goals (first | rfl | (simp only [V.bool.injEq, V.tup.injEq, V.agg.injEq, V.str.injEq, V.int.injEq, V.sl.injEq, V.ifc.injEq, List.cons.injEq, and_true, true_and, and_self, errV]; done) | (simp only [V.bool.injEq, V.tup.injEq, V.agg.injEq, V.str.injEq, V.int.injEq, V.sl.injEq, V.ifc.injEq, List.cons.injEq, and_true, true_and, and_self, errV]; grind) | (simp [errV] at *; done) | (simp [errV] at *; grind))

set_option maxRecDepth 100000 in
set_option maxHeartbeats 400000 in
theorem open_spoilt (s t rest b4 : Bs) (hs : s = b4 ++ (text t ++ rest)) (hb4 : b4.length = 4) (hne : ¬ bytes4 (sum (text t)) = b4) (h : t.length ≤ 200000) (hr : rest.length ≤ 1000000000) : Fn Tryd.prog 45 [.str s] (.tup [.str [], .str s, errV [] 12]) := by
  refine Fn.mk' base Tryd.func45 rfl rfl rfl ?_
  skip
  have htp := text_len8 t (by omega)
  have hd := (drop4 hs hb4).trans (text_app t rest)
  have hm := mid4 hs hb4
  have hq : ¬ bytes4 (sum (text t)) = List.drop 0 (List.take (4 : Int).toNat s) := by rw [take4 hs hb4]; exact hne
  repeat' (first
      | (with_reducible refine AW.seq ?_) | (with_reducible refine AW.region base (by kernel_rfl) ?_) | (with_reducible refine AW.cond ?_) | (with_reducible refine AW.block ?_) | (with_reducible refine AW.ret ?_) | (with_reducible refine AW.exit ?_) | (with_reducible refine AW.skip ?_)
      | ((conv => whnf); (first
         | (with_reducible refine Br.t ?_)
         | (with_reducible refine Br.f ?_)
         | ((with_reducible refine Or.inl ?_); (conv => whnf); (with_reducible refine And.intro LitSl.mk ?_))
         | (refine Br.t ?_)
         | (refine Br.f ?_)
         | (with_reducible refine Br.mk (fun hb => ?_) (fun hb => (by exfalso; (first | omega | (simp at hb; done) | (simp at hb; omega) | (rw [hs] at hb; simp only [List.length_append, hb4] at hb; simp at hb; omega) | (exact hq (by simpa using hb))))))
         | (with_reducible refine Br.mk (fun hb => (by exfalso; (first | omega | (simp at hb; done) | (simp at hb; omega) | (rw [hs] at hb; simp only [List.length_append, hb4] at hb; simp at hb; omega) | (exact hq (by simpa using hb))))) (fun hb => ?_))
         | (with_reducible refine Or.inl ⟨_, takeText_ok' _ t rest _ hd (by omega) (by omega), ?_⟩)
         | ((with_reducible refine Or.inl ?_); (conv => whnf); (with_reducible refine ⟨_, takeText_ok' _ t rest _ hd (by omega) (by omega), ?_⟩))
         | (with_reducible refine Or.inl ⟨_, sum_of _ (text t) hm (by omega), ?_⟩)
         | ((with_reducible refine Or.inl ?_); (conv => whnf); (with_reducible refine ⟨_, sum_of _ (text t) hm (by omega), ?_⟩))
         | (with_reducible refine Or.inl ⟨_, bytes_fn _, ?_⟩)
         | ((with_reducible refine Or.inl ?_); (conv => whnf); (with_reducible refine ⟨_, bytes_fn _, ?_⟩))
         | (with_reducible refine Br.mk (fun hb => ?_) (fun hb => ?_) <;> (try rw [hb]) <;> (try simp only [List.length_map, decide_eq_true_eq, decide_eq_false_iff_not, Bool.not_eq_true', Bool.not_eq_false', Int.ofNat_lt, Int.ofNat_le, Int.not_lt, Int.not_le, Int.toNat_natCast] at hb))
         | (with_reducible refine ⟨_, (by first | exact ByteRows.map _ | (repeat (first | exact ByteRows.nil | exact ByteRows.map _ | refine ByteRows.cons ?_ | refine ByteRows.app ?_ ?_))), ?_⟩)
         | (refine Exists.intro _ (And.intro (ByteRows.rep _) ?_))
         | (refine Exists.intro _ (And.intro (ByteRows.app (ByteRows.map _) (ByteRows.cons ByteRows.nil)) ?_))
         | ((with_reducible refine And.intro ?_ ?_); (focus (first | with_reducible rfl | exact trivial | (exact ⟨rfl, trivial⟩) | (exact ⟨rfl, rfl, trivial⟩) | omega | (intro r hr; simp only [List.mem_singleton] at hr; subst hr; rfl)  | ((simp only [List.length_append, maxLen] at *; omega)) | ((simp only [in64] at *; omega)) | ((rw [bytes4_len]; have := text_len8 s (by omega); simp only [maxLen]; omega)) | ((rw [hs]; simp only [List.length_append, hb4]; omega)) | ((rw [hs]; simp only [List.length_append, hb4, in64]; omega)) | ((simp only [in64]; rw [hs]; simp only [List.length_append, hb4]; omega)) | (simp only [in64]; omega) | assumption | (simp; done) | (simp [V.cells]; done) | (simp [in64, maxLen, limK] at *; omega) | ((show confB _ _ = true); kernel_rfl) | rfl)))
         | (intro row hrow; (try simp only [Int.toNat_natCast, List.length_map, toNat_pred, toNat_succ', toNat_zero', toNat_one'] at hrow); (first | (have hsm := same_map (by assumption) hrow; subst hsm; clear hrow) | (obtain ⟨p, hp, rfl⟩ := of_map hrow; clear hrow)))
         | (with_reducible refine AW.seq ?_) | (with_reducible refine AW.region base (by kernel_rfl) ?_) | (with_reducible refine AW.cond ?_) | (with_reducible refine AW.block ?_) | (with_reducible refine AW.ret ?_) | (with_reducible refine AW.exit ?_) | (with_reducible refine AW.skip ?_))))
  all_goals (conv => whnf)
  all_goals (first | rfl | (simp only [V.bool.injEq, V.tup.injEq, V.agg.injEq, V.str.injEq, V.int.injEq, V.sl.injEq, V.ifc.injEq, List.cons.injEq, and_true, true_and, and_self, errV]; done) | (simp only [V.bool.injEq, V.tup.injEq, V.agg.injEq, V.str.injEq, V.int.injEq, V.sl.injEq, V.ifc.injEq, List.cons.injEq, and_true, true_and, and_self, errV]; grind) | (simp [errV] at *; done) | (simp [errV] at *; grind))

/-- bytes at whose front nothing is wrapped -/
def Bad (s : Bs) : Prop := ∃ ws c, Fn Tryd.prog 45 [.str s] (.tup [.str [], .str s, errV ws c])
theorem bad_short {s : Bs} (h : s.length < 4) : Bad s := ⟨_, _, open_short s h⟩
theorem bad_spoilt {t rest b4 : Bs} (hb4 : b4.length = 4) (hne : ¬ bytes4 (sum (text t)) = b4) (h : t.length ≤ 200000) (hr : rest.length ≤ 1000000000) : Bad (b4 ++ (text t ++ rest)) := ⟨_, _, open_spoilt _ t rest b4 rfl hb4 hne h hr⟩
theorem bad_cut {t : Bs} (h : t.length ≤ 200000) {c : Nat} (hc : c < (wrap t).length) : Bad ((wrap t).take c) := by
  rw [wrap_len] at hc
  rcases Nat.lt_or_ge c 4 with h4 | h4
  · exact bad_short (by rw [List.length_take]; omega)
  · have e : (wrap t).take c = bytes4 (sum (text t)) ++ (text t).take (c - 4) := by
      rw [wrap, List.take_append, bytes4_len, List.take_of_length_le (by rw [bytes4_len]; omega)]
    refine ⟨_, 11, open_fail _ 11 (by rw [List.length_take, wrap_len]; omega) ?_⟩
    rw [drop4 e (bytes4_len _)]
    have := takeText_cut t (c - 4) 200000 (by omega) (by omega) (by omega)
    rwa [List.drop_zero] at this

set_option maxRecDepth 100000 in
set_option maxHeartbeats 400000 in
theorem all_fn (l : List Bs) (x : Bs) (hx : Bad x) (hl : ∀ t ∈ l, t.length ≤ 200000) (hlen : (wraps l ++ x).length ≤ 1000000000) (hll : l.length ≤ 1000000) : Fn Tryd.prog 21 [.str (wraps l ++ x)] (.tup [.sl (l.map encT), .int .i64 ((wraps l).length : Int)]) := by
  refine Fn.mk' base Tryd.func21 rfl rfl rfl ?_
  repeat' (first
      | (with_reducible refine AW.seq ?_) | (with_reducible refine AW.region base (by kernel_rfl) ?_) | (with_reducible refine AW.cond ?_) | (with_reducible refine AW.block ?_) | (with_reducible refine AW.ret ?_) | (with_reducible refine AW.exit ?_) | (with_reducible refine AW.skip ?_)
      | ((conv => whnf); (first
         | (with_reducible refine Br.t ?_)
         | (with_reducible refine Br.f ?_)
         | ((with_reducible refine Or.inl ?_); (conv => whnf); (with_reducible refine And.intro LitSl.mk ?_))
         | (refine Br.t ?_)
         | (refine Br.f ?_)
         | (with_reducible refine Br.mk (fun hb => ?_) (fun hb => ?_) <;> (try rw [hb]) <;> (try simp only [List.length_map, decide_eq_true_eq, decide_eq_false_iff_not, Bool.not_eq_true', Bool.not_eq_false', Int.ofNat_lt, Int.ofNat_le, Int.not_lt, Int.not_le, Int.toNat_natCast] at hb))
         | (with_reducible refine ⟨_, (by first | exact ByteRows.map _ | (repeat (first | exact ByteRows.nil | exact ByteRows.map _ | refine ByteRows.cons ?_ | refine ByteRows.app ?_ ?_))), ?_⟩)
         | (refine Exists.intro _ (And.intro (ByteRows.rep _) ?_))
         | (refine Exists.intro _ (And.intro (ByteRows.app (ByteRows.map _) (ByteRows.cons ByteRows.nil)) ?_))
         | ((with_reducible refine And.intro ?_ ?_); (focus (first | with_reducible rfl | exact trivial | (exact ⟨rfl, trivial⟩) | (exact ⟨rfl, rfl, trivial⟩) | omega | (intro r hr; simp only [List.mem_singleton] at hr; subst hr; rfl)  | ((simp only [List.length_map] at *; omega)) | ((simp only [in64]; omega)) | ((simp only [List.length_map, List.length_cons, List.length_append] at *; omega)) | (simp only [in64]; omega) | assumption | (simp; done) | (simp [V.cells]; done) | (simp [in64, maxLen, limK] at *; omega) | ((show confB _ _ = true); kernel_rfl) | rfl)))
         | (intro row hrow; (try simp only [Int.toNat_natCast, List.length_map, toNat_pred, toNat_succ', toNat_zero', toNat_one'] at hrow); (first | (have hsm := same_map (by assumption) hrow; subst hsm; clear hrow) | (obtain ⟨p, hp, rfl⟩ := of_map hrow; clear hrow)))
         | (with_reducible refine AW.seq ?_) | (with_reducible refine AW.region base (by kernel_rfl) ?_) | (with_reducible refine AW.cond ?_) | (with_reducible refine AW.block ?_) | (with_reducible refine AW.ret ?_) | (with_reducible refine AW.exit ?_) | (with_reducible refine AW.skip ?_))))
  refine AW.adopt 4 999999999 (el := 9) rfl rfl (rows_of 23 rfl) ?_
  refine AW.loop (fun (⟨a, b⟩ : List Bs × List Bs) => l = a ++ b) (fun (⟨a, b⟩ : List Bs × List Bs) => ⟨[(0, .str (wraps l ++ x)), (4, .own 0), (5, .str (wraps b ++ x))], [.rows 9 (a.map encT)]⟩) (fun (⟨a, b⟩ : List Bs × List Bs) => b.length) ([], l) ?_ ?_ ?_
  · rfl
  · (refine ⟨⟨[999999999], ?_⟩⟩; repeat' (first | (with_reducible rfl) | exact trivial | ((conv => whnf); (first | (with_reducible refine And.intro ?_ ?_) | (first | with_reducible rfl | (refine congrArg V.str ?_; (first | with_reducible rfl | omega | (rw [List.map_append]; rfl) | rfl | (simp; done))) | (refine congrArg (V.int _) ?_; (first | with_reducible rfl | omega | (rw [List.map_append]; rfl) | rfl | (simp; done))) | (refine congrArg V.bool ?_; (first | with_reducible rfl | omega | (rw [List.map_append]; rfl) | rfl | (simp; done))) | (refine congrArg V.sl ?_; (first | with_reducible rfl | omega | (rw [List.map_append]; rfl) | rfl | (simp; done))) | (first | with_reducible rfl | omega | (rw [List.map_append]; rfl) | rfl | (simp; done)) | rfl)))))
  · rintro ⟨a, b⟩ hk
    rcases b with _ | ⟨t, b⟩
    · obtain ⟨ws, c, hxx⟩ := hx
      have hxx : Fn Tryd.prog 45 [.str (wraps [] ++ x)] (.tup [.str [], .str (wraps [] ++ x), errV ws c]) := hxx
      have hxl : (wraps l ++ x).length = (wraps l).length + (wraps [] ++ x).length := by simp [wraps]
      have hk : l = a ++ [] := hk
      rw [List.append_nil] at hk
      subst hk
      rcases ws with _ | ⟨w1, ws⟩
      · skip
        repeat' (first
            | (with_reducible refine AW.seq ?_) | (with_reducible refine AW.region base (by kernel_rfl) ?_) | (with_reducible refine AW.cond ?_) | (with_reducible refine AW.block ?_) | (with_reducible refine AW.ret ?_) | (with_reducible refine AW.exit ?_) | (with_reducible refine AW.skip ?_)
            | ((conv => whnf); (first
               | (with_reducible refine Br.t ?_)
               | (with_reducible refine Br.f ?_)
               | ((with_reducible refine Or.inl ?_); (conv => whnf); (with_reducible refine And.intro LitSl.mk ?_))
               | (refine Br.t ?_)
               | (refine Br.f ?_)
               | (with_reducible refine Or.inl ⟨_, hxx, ?_⟩)
               | ((with_reducible refine Or.inl ?_); (conv => whnf); (with_reducible refine ⟨_, hxx, ?_⟩))
               | (with_reducible refine Or.inr ⟨[?_], _, _, _, _, asE_fn [] ?_ ?_, ?_⟩)
               | (with_reducible refine Or.inr (Or.inr ⟨[?_], _, _, _, _, asE_fn [] ?_ ?_, ?_⟩))
               | (with_reducible refine Br.mk (fun hb => ?_) (fun hb => ?_) <;> (try rw [hb]) <;> (try simp only [List.length_map, decide_eq_true_eq, decide_eq_false_iff_not, Bool.not_eq_true', Bool.not_eq_false', Int.ofNat_lt, Int.ofNat_le, Int.not_lt, Int.not_le, Int.toNat_natCast] at hb))
               | (with_reducible refine ⟨_, (by first | exact ByteRows.map _ | (repeat (first | exact ByteRows.nil | exact ByteRows.map _ | refine ByteRows.cons ?_ | refine ByteRows.app ?_ ?_))), ?_⟩)
               | (refine Exists.intro _ (And.intro (ByteRows.rep _) ?_))
               | (refine Exists.intro _ (And.intro (ByteRows.app (ByteRows.map _) (ByteRows.cons ByteRows.nil)) ?_))
               | ((with_reducible refine And.intro ?_ ?_); (focus (first | with_reducible rfl | exact trivial | (exact ⟨rfl, trivial⟩) | (exact ⟨rfl, rfl, trivial⟩) | omega | (intro r hr; simp only [List.mem_singleton] at hr; subst hr; rfl)  | ((simp only [List.length_map] at *; omega)) | ((simp only [in64]; omega)) | ((simp only [List.length_map, List.length_cons, List.length_append] at *; omega)) | (simp only [in64]; omega) | assumption | (simp; done) | (simp [V.cells]; done) | (simp [in64, maxLen, limK] at *; omega) | ((show confB _ _ = true); kernel_rfl) | rfl)))
               | (intro row hrow; (try simp only [Int.toNat_natCast, List.length_map, toNat_pred, toNat_succ', toNat_zero', toNat_one'] at hrow); (first | (have hsm := same_map (by assumption) hrow; subst hsm; clear hrow) | (obtain ⟨p, hp, rfl⟩ := of_map hrow; clear hrow)))
               | (with_reducible refine AW.seq ?_) | (with_reducible refine AW.region base (by kernel_rfl) ?_) | (with_reducible refine AW.cond ?_) | (with_reducible refine AW.block ?_) | (with_reducible refine AW.ret ?_) | (with_reducible refine AW.exit ?_) | (with_reducible refine AW.skip ?_))))
        all_goals ((conv => whnf); first | rfl | (refine congrArg V.tup ?_; refine congrArg (fun z => [V.sl (List.map encT l), V.int .i64 z]) ?_; rw [hxl]; omega))
      · skip
        repeat' (first
            | (with_reducible refine AW.seq ?_) | (with_reducible refine AW.region base (by kernel_rfl) ?_) | (with_reducible refine AW.cond ?_) | (with_reducible refine AW.block ?_) | (with_reducible refine AW.ret ?_) | (with_reducible refine AW.exit ?_) | (with_reducible refine AW.skip ?_)
            | ((conv => whnf); (first
               | (with_reducible refine Br.t ?_)
               | (with_reducible refine Br.f ?_)
               | ((with_reducible refine Or.inl ?_); (conv => whnf); (with_reducible refine And.intro LitSl.mk ?_))
               | (refine Br.t ?_)
               | (refine Br.f ?_)
               | (with_reducible refine Or.inl ⟨_, hxx, ?_⟩)
               | ((with_reducible refine Or.inl ?_); (conv => whnf); (with_reducible refine ⟨_, hxx, ?_⟩))
               | (with_reducible refine Or.inr ⟨[?_], _, _, _, _, asE_fn (w1 :: ws) ?_ ?_, ?_⟩)
               | (with_reducible refine Or.inr (Or.inr ⟨[?_], _, _, _, _, asE_fn (w1 :: ws) ?_ ?_, ?_⟩))
               | (with_reducible refine Br.mk (fun hb => ?_) (fun hb => ?_) <;> (try rw [hb]) <;> (try simp only [List.length_map, decide_eq_true_eq, decide_eq_false_iff_not, Bool.not_eq_true', Bool.not_eq_false', Int.ofNat_lt, Int.ofNat_le, Int.not_lt, Int.not_le, Int.toNat_natCast] at hb))
               | (with_reducible refine ⟨_, (by first | exact ByteRows.map _ | (repeat (first | exact ByteRows.nil | exact ByteRows.map _ | refine ByteRows.cons ?_ | refine ByteRows.app ?_ ?_))), ?_⟩)
               | (refine Exists.intro _ (And.intro (ByteRows.rep _) ?_))
               | (refine Exists.intro _ (And.intro (ByteRows.app (ByteRows.map _) (ByteRows.cons ByteRows.nil)) ?_))
               | ((with_reducible refine And.intro ?_ ?_); (focus (first | with_reducible rfl | exact trivial | (exact ⟨rfl, trivial⟩) | (exact ⟨rfl, rfl, trivial⟩) | omega | (intro r hr; simp only [List.mem_singleton] at hr; subst hr; rfl)  | ((simp only [List.length_map] at *; omega)) | ((simp only [in64]; omega)) | ((simp only [List.length_map, List.length_cons, List.length_append] at *; omega)) | (simp only [in64]; omega) | assumption | (simp; done) | (simp [V.cells]; done) | (simp [in64, maxLen, limK] at *; omega) | ((show confB _ _ = true); kernel_rfl) | rfl)))
               | (intro row hrow; (try simp only [Int.toNat_natCast, List.length_map, toNat_pred, toNat_succ', toNat_zero', toNat_one'] at hrow); (first | (have hsm := same_map (by assumption) hrow; subst hsm; clear hrow) | (obtain ⟨p, hp, rfl⟩ := of_map hrow; clear hrow)))
               | (with_reducible refine AW.seq ?_) | (with_reducible refine AW.region base (by kernel_rfl) ?_) | (with_reducible refine AW.cond ?_) | (with_reducible refine AW.block ?_) | (with_reducible refine AW.ret ?_) | (with_reducible refine AW.exit ?_) | (with_reducible refine AW.skip ?_))))
        all_goals ((conv => whnf); first | rfl | (refine congrArg V.tup ?_; refine congrArg (fun z => [V.sl (List.map encT l), V.int .i64 z]) ?_; rw [hxl]; omega))
    have hk : l = a ++ t :: b := hk
    have ht : t.length ≤ 200000 := hl t (by rw [hk]; simp)
    have hbl : (wraps b ++ x).length ≤ 1000000000 := by
      rw [hk, wraps_app, wraps_cons] at hlen
      simp only [List.length_append] at *
      omega
    have hal : a.length + 1 ≤ l.length := by rw [hk]; simp
    repeat' (first
        | (with_reducible refine AW.seq ?_) | (with_reducible refine AW.region base (by kernel_rfl) ?_) | (with_reducible refine AW.cond ?_) | (with_reducible refine AW.block ?_) | (with_reducible refine AW.ret ?_) | (with_reducible refine AW.exit ?_) | (with_reducible refine AW.skip ?_)
        | ((conv => whnf); (first
           | (with_reducible refine Br.t ?_)
           | (with_reducible refine Br.f ?_)
           | ((with_reducible refine Or.inl ?_); (conv => whnf); (with_reducible refine And.intro LitSl.mk ?_))
           | (refine Br.t ?_)
           | (refine Br.f ?_)
           | (with_reducible refine Or.inl ⟨_, open_ok _ t (wraps b ++ x) (wraps_cons_app t b x) ht hbl, ?_⟩)
           | ((with_reducible refine Or.inl ?_); (conv => whnf); (with_reducible refine ⟨_, open_ok _ t (wraps b ++ x) (wraps_cons_app t b x) ht hbl, ?_⟩))
           | (with_reducible refine Or.inr ⟨[?_], _, _, _, _, asE_nil ?_, ?_⟩)
           | (with_reducible refine Or.inr (Or.inr ⟨[?_], _, _, _, _, asE_nil ?_, ?_⟩))
           | (with_reducible refine Br.mk (fun hb => ?_) (fun hb => ?_) <;> (try rw [hb]) <;> (try simp only [List.length_map, decide_eq_true_eq, decide_eq_false_iff_not, Bool.not_eq_true', Bool.not_eq_false', Int.ofNat_lt, Int.ofNat_le, Int.not_lt, Int.not_le, Int.toNat_natCast] at hb))
           | (with_reducible refine ⟨_, (by first | exact ByteRows.map _ | (repeat (first | exact ByteRows.nil | exact ByteRows.map _ | refine ByteRows.cons ?_ | refine ByteRows.app ?_ ?_))), ?_⟩)
           | (refine Exists.intro _ (And.intro (ByteRows.rep _) ?_))
           | (refine Exists.intro _ (And.intro (ByteRows.app (ByteRows.map _) (ByteRows.cons ByteRows.nil)) ?_))
           | ((with_reducible refine And.intro ?_ ?_); (focus (first | with_reducible rfl | exact trivial | (exact ⟨rfl, trivial⟩) | (exact ⟨rfl, rfl, trivial⟩) | omega | (intro r hr; simp only [List.mem_singleton] at hr; subst hr; rfl)  | ((simp only [List.length_map] at *; omega)) | ((simp only [in64]; omega)) | ((simp only [List.length_map, List.length_cons, List.length_append] at *; omega)) | (simp only [in64]; omega) | assumption | (simp; done) | (simp [V.cells]; done) | (simp [in64, maxLen, limK] at *; omega) | ((show confB _ _ = true); kernel_rfl) | rfl)))
           | (intro row hrow; (try simp only [Int.toNat_natCast, List.length_map, toNat_pred, toNat_succ', toNat_zero', toNat_one'] at hrow); (first | (have hsm := same_map (by assumption) hrow; subst hsm; clear hrow) | (obtain ⟨p, hp, rfl⟩ := of_map hrow; clear hrow)))
           | (with_reducible refine AW.seq ?_) | (with_reducible refine AW.region base (by kernel_rfl) ?_) | (with_reducible refine AW.cond ?_) | (with_reducible refine AW.block ?_) | (with_reducible refine AW.ret ?_) | (with_reducible refine AW.exit ?_) | (with_reducible refine AW.skip ?_))))
    all_goals (try first | with_reducible assumption | ((show (_ : Int) ≤ _); (first | omega | (simp at *; omega))) | ((show (_ : Nat) ≤ _); (first | omega | (simp at *; omega))) | ((show in64 _); (simp only [in64] at *; (first | omega | (simp at *; omega)))) | ((show (_ : Int) < _); (first | omega | (simp at *; omega))) | ((show ¬ (_ : Int) = _); (first | omega | (simp at *; omega))) | ((with_reducible refine And.intro ?_ ?_) <;> (first | omega | (simp at *; omega))))
    all_goals (first
      | (with_reducible exact absurd rfl (by assumption))
      | ((conv => whnf); (refine ⟨(a ++ [t], b), ?_⟩); (refine And.intro ?_ (And.intro ?_ ?_)); (focus (refine ⟨⟨[?_], ?_⟩⟩; rotate_left 1; repeat' (first | (with_reducible rfl) | exact trivial | ((conv => whnf); (first | (with_reducible refine And.intro ?_ ?_) | (first | with_reducible rfl | (refine congrArg V.str ?_; (first | with_reducible rfl | omega | (rw [List.map_append]; rfl) | rfl | (simp; done))) | (refine congrArg (V.int _) ?_; (first | with_reducible rfl | omega | (rw [List.map_append]; rfl) | rfl | (simp; done))) | (refine congrArg V.bool ?_; (first | with_reducible rfl | omega | (rw [List.map_append]; rfl) | rfl | (simp; done))) | (refine congrArg V.sl ?_; (first | with_reducible rfl | omega | (rw [List.map_append]; rfl) | rfl | (simp; done))) | (first | with_reducible rfl | omega | (rw [List.map_append]; rfl) | rfl | (simp; done)) | rfl)))))); (focus (show l = (a ++ [t]) ++ b; rw [hk]; simp)); (focus (first | omega | (dsimp only; omega) | (simp; done) | (simp; omega) | (simp at *; omega))))
      | ((conv => whnf); (try (first | rfl | (exfalso; simp_all; done) | (exfalso; simp at *; omega))); done))

end Go.Proofs.YtciiiceloghkmaaDoor
