/-
  The laws of frames: their walks. No conditions.
-/
import Derived.Test.YtciiiceloghkmaaDoorFrame
namespace Go.Proofs.YtciiiceloghkmaaDoor
open Go.RowKit
set_option linter.unusedSimpArgs false
set_option linter.unusedVariables false

set_option maxRecDepth 100000 in
set_option maxHeartbeats 400000 in
theorem same_self (a : List Bs) : Fn Tryd.prog 22 [.sl (a.map encT), .sl (a.map encT)] (.bool true) := by
  refine Fn.mk' base Tryd.func22 rfl rfl rfl ?_
  refine AW.len 0 rfl (fun hlen => ?_)
  simp only [List.length_map, maxLen] at hlen
  repeat' (first
      | (with_reducible refine AW.seq ?_) | (with_reducible refine AW.region base (by kernel_rfl) ?_) | (with_reducible refine AW.cond ?_) | (with_reducible refine AW.block ?_) | (with_reducible refine AW.ret ?_) | (with_reducible refine AW.exit ?_) | (with_reducible refine AW.skip ?_)
      | ((conv => whnf); (first
         | (with_reducible refine Br.t ?_)
         | (with_reducible refine Br.f ?_)
         | ((with_reducible refine Or.inl ?_); (conv => whnf); (with_reducible refine And.intro LitSl.mk ?_))
         | (refine Br.t ?_)
         | (refine Br.f ?_)
         | (with_reducible refine Br.mk (fun hb => ?_) (fun hb => (by exfalso; (first | (simp at hb; done) | omega | (simp at hb; omega)))))
         | (with_reducible refine Br.mk (fun hb => (by exfalso; (first | (simp at hb; done) | omega | (simp at hb; omega)))) (fun hb => ?_))
         | (with_reducible refine Br.mk (fun hb => ?_) (fun hb => ?_) <;> (try rw [hb]) <;> (try simp only [List.length_map, decide_eq_true_eq, decide_eq_false_iff_not, Bool.not_eq_true', Bool.not_eq_false', Int.ofNat_lt, Int.ofNat_le, Int.not_lt, Int.not_le, Int.toNat_natCast] at hb))
         | (with_reducible refine ⟨_, (by first | exact ByteRows.map _ | (repeat (first | exact ByteRows.nil | exact ByteRows.map _ | refine ByteRows.cons ?_ | refine ByteRows.app ?_ ?_))), ?_⟩)
         | (refine Exists.intro _ (And.intro (ByteRows.rep _) ?_))
         | (refine Exists.intro _ (And.intro (ByteRows.app (ByteRows.map _) (ByteRows.cons ByteRows.nil)) ?_))
         | ((with_reducible refine And.intro ?_ ?_); (focus (first | with_reducible rfl | exact trivial | (exact ⟨rfl, trivial⟩) | (exact ⟨rfl, rfl, trivial⟩) | omega | (intro r hr; simp only [List.mem_singleton] at hr; subst hr; rfl)  | ((simp only [List.length_map] at *; omega)) | ((simp only [in64, maxLen] at *; omega)) | (simp only [in64]; omega) | assumption | (simp; done) | (simp [V.cells]; done) | (simp [in64, maxLen, limK] at *; omega) | ((show confB _ _ = true); kernel_rfl) | rfl)))
         | (intro row hrow; (try simp only [Int.toNat_natCast, List.length_map, toNat_pred, toNat_succ', toNat_zero', toNat_one'] at hrow); (first | (have hsm := same_map (by assumption) hrow; subst hsm; clear hrow) | (obtain ⟨p, hp, rfl⟩ := of_map hrow; clear hrow)))
         | (with_reducible refine AW.seq ?_) | (with_reducible refine AW.region base (by kernel_rfl) ?_) | (with_reducible refine AW.cond ?_) | (with_reducible refine AW.block ?_) | (with_reducible refine AW.ret ?_) | (with_reducible refine AW.exit ?_) | (with_reducible refine AW.skip ?_))))
  refine AW.loop (fun (i : Nat) => i ≤ a.length) (fun (i : Nat) => ⟨[(0, .sl (a.map encT)), (1, .sl (a.map encT)), (5, .int .i64 (i : Int))], []⟩) (fun (i : Nat) => a.length - i) 0 ?_ ?_ ?_
  · omega
  · (refine ⟨⟨[], ?_⟩⟩; repeat' (first | (with_reducible rfl) | exact trivial | ((conv => whnf); (first | (with_reducible refine And.intro ?_ ?_) | (first | with_reducible rfl | (refine congrArg V.str ?_; (first | with_reducible rfl | omega | rfl | (simp; done))) | (refine congrArg (V.int _) ?_; (first | with_reducible rfl | omega | rfl | (simp; done))) | (refine congrArg V.bool ?_; (first | with_reducible rfl | omega | rfl | (simp; done))) | (refine congrArg V.sl ?_; (first | with_reducible rfl | omega | rfl | (simp; done))) | (first | with_reducible rfl | omega | rfl | (simp; done)) | rfl)))))
  · rintro i hk
    repeat' (first
        | (with_reducible refine AW.seq ?_) | (with_reducible refine AW.region base (by kernel_rfl) ?_) | (with_reducible refine AW.cond ?_) | (with_reducible refine AW.block ?_) | (with_reducible refine AW.ret ?_) | (with_reducible refine AW.exit ?_) | (with_reducible refine AW.skip ?_)
        | ((conv => whnf); (first
           | (with_reducible refine Br.t ?_)
           | (with_reducible refine Br.f ?_)
           | ((with_reducible refine Or.inl ?_); (conv => whnf); (with_reducible refine And.intro LitSl.mk ?_))
           | (refine Br.t ?_)
           | (refine Br.f ?_)
           | (with_reducible refine Br.mk (fun hb => ?_) (fun hb => (by exfalso; (first | (simp at hb; done) | omega | (simp at hb; omega)))))
           | (with_reducible refine Br.mk (fun hb => (by exfalso; (first | (simp at hb; done) | omega | (simp at hb; omega)))) (fun hb => ?_))
           | (with_reducible refine Br.mk (fun hb => ?_) (fun hb => ?_) <;> (try rw [hb]) <;> (try simp only [List.length_map, decide_eq_true_eq, decide_eq_false_iff_not, Bool.not_eq_true', Bool.not_eq_false', Int.ofNat_lt, Int.ofNat_le, Int.not_lt, Int.not_le, Int.toNat_natCast] at hb))
           | (with_reducible refine ⟨_, (by first | exact ByteRows.map _ | (repeat (first | exact ByteRows.nil | exact ByteRows.map _ | refine ByteRows.cons ?_ | refine ByteRows.app ?_ ?_))), ?_⟩)
           | (refine Exists.intro _ (And.intro (ByteRows.rep _) ?_))
           | (refine Exists.intro _ (And.intro (ByteRows.app (ByteRows.map _) (ByteRows.cons ByteRows.nil)) ?_))
           | ((with_reducible refine And.intro ?_ ?_); (focus (first | with_reducible rfl | exact trivial | (exact ⟨rfl, trivial⟩) | (exact ⟨rfl, rfl, trivial⟩) | omega | (intro r hr; simp only [List.mem_singleton] at hr; subst hr; rfl)  | ((simp only [List.length_map] at *; omega)) | ((simp only [in64, maxLen] at *; omega)) | (simp only [in64]; omega) | assumption | (simp; done) | (simp [V.cells]; done) | (simp [in64, maxLen, limK] at *; omega) | ((show confB _ _ = true); kernel_rfl) | rfl)))
           | (intro row hrow; (try simp only [Int.toNat_natCast, List.length_map, toNat_pred, toNat_succ', toNat_zero', toNat_one'] at hrow); (first | (have hsm := same_map (by assumption) hrow; subst hsm; clear hrow) | (obtain ⟨p, hp, rfl⟩ := of_map hrow; clear hrow)))
           | (with_reducible refine AW.seq ?_) | (with_reducible refine AW.region base (by kernel_rfl) ?_) | (with_reducible refine AW.cond ?_) | (with_reducible refine AW.block ?_) | (with_reducible refine AW.ret ?_) | (with_reducible refine AW.exit ?_) | (with_reducible refine AW.skip ?_))))
    all_goals (try first | with_reducible assumption | ((show (_ : Int) ≤ _); (first | omega | (simp at *; omega))) | ((show (_ : Nat) ≤ _); (first | omega | (simp at *; omega))) | ((show in64 _); (simp only [in64] at *; (first | omega | (simp at *; omega)))) | ((show (_ : Int) < _); (first | omega | (simp at *; omega))) | ((show ¬ (_ : Int) = _); (first | omega | (simp at *; omega))) | ((with_reducible refine And.intro ?_ ?_) <;> (first | omega | (simp at *; omega))))
    all_goals (first
      | (with_reducible exact absurd rfl (by assumption))
      | ((conv => whnf); (refine ⟨(i + 1), ?_⟩); (refine And.intro ?_ (And.intro ?_ ?_)); (focus (refine ⟨⟨[], ?_⟩⟩; repeat' (first | (with_reducible rfl) | exact trivial | ((conv => whnf); (first | (with_reducible refine And.intro ?_ ?_) | (first | with_reducible rfl | (refine congrArg V.str ?_; (first | with_reducible rfl | omega | rfl | (simp; done))) | (refine congrArg (V.int _) ?_; (first | with_reducible rfl | omega | rfl | (simp; done))) | (refine congrArg V.bool ?_; (first | with_reducible rfl | omega | rfl | (simp; done))) | (refine congrArg V.sl ?_; (first | with_reducible rfl | omega | rfl | (simp; done))) | (first | with_reducible rfl | omega | rfl | (simp; done)) | rfl)))))); (focus omega); (focus (first | omega | (dsimp only; omega) | (simp; done) | (simp; omega) | (simp at *; omega))))
      | ((conv => whnf); (try (first | rfl | (exfalso; simp_all; done) | (exfalso; simp at *; omega))); done))


theorem same_of (x y : List (List V)) (a : List Bs) (hx : x = a.map encT) (hy : y = a.map encT) : Fn Tryd.prog 22 [.sl x, .sl y] (.bool true) := by
  subst hx; subst hy; exact same_self a
theorem all_of (s : Bs) (l : List Bs) (x : Bs) (hs : s = wraps l ++ x) (hx : Bad x) (hl : ∀ t ∈ l, t.length ≤ 200000) (hlen : s.length ≤ 1000000000) (hll : l.length ≤ 1000000) : Fn Tryd.prog 21 [.str s] (.tup [.sl (l.map encT), .int .i64 ((wraps l).length : Int)]) := by
  subst hs; exact all_fn l x hx hl hlen hll
theorem text_nil : text [] = [0] := by rw [text, List.length_nil, num_lo (by omega)]; rfl
theorem sum_nil : sum [] = 2166136261 := rfl
theorem sum_a : sum [97] = 3826002220 := by kernel_rfl
theorem sum_0 : sum [0] = 84696351 := by kernel_rfl
theorem zero_spoilt : ¬ bytes4 (sum (text [])) = [0, 0, 0, 0] := by rw [text_nil, sum_0]; decide
theorem wrap0_len : (wrap []).length = 5 := by rw [wrap_len, text_nil]; rfl
theorem text_1 (b : UInt8) : (text [b]).length = 2 := by rw [text_len, show [b].length = 1 from rfl, num_lo (by omega)]; rfl
theorem Br.of_t {b : Bool} {p q : Prop} (hb : b = true) (h : p) : Br b p q := hb ▸ .t h
theorem Br.of_f {b : Bool} {p q : Prop} (hb : b = false) (h : q) : Br b p q := hb ▸ .f h
theorem wraps2_len : (wraps [[97], [98]]).length = 12 := by rw [wraps_cons, wraps_one, List.length_append, wrap_len, wrap_len, text_1, text_1]
theorem wraps2_len' : ((wraps [[97], [98]]).length : Int) = 12 := by rw [wraps2_len]; rfl
theorem wrap0_len' : ((wrap []).length : Int) = 5 := by rw [wrap0_len]; rfl
theorem sum_nil' : ((sum [] : Nat) : Int) = 2166136261 := by rw [sum_nil]; rfl
theorem sum_a' : ((sum [97] : Nat) : Int) = 3826002220 := by rw [sum_a]; rfl

set_option maxRecDepth 100000 in
set_option maxHeartbeats 1000000 in
theorem known5_fn  : Fn Tryd.prog 19 [] (.bool true) := by
  refine Fn.mk' base Tryd.func19 rfl rfl rfl ?_
  repeat' (first
      | (with_reducible refine AW.seq ?_) | (with_reducible refine AW.region base (by kernel_rfl) ?_) | (with_reducible refine AW.cond ?_) | (with_reducible refine AW.block ?_) | (with_reducible refine AW.ret ?_) | (with_reducible refine AW.exit ?_) | (with_reducible refine AW.skip ?_)
      | ((conv => whnf); (first
         | (with_reducible refine Br.t ?_)
         | (with_reducible refine Br.f ?_)
         | (with_reducible refine Br.of_t (by first | exact decide_eq_true sum_nil' | exact decide_eq_true sum_a' | exact decide_eq_true wraps2_len' | exact decide_eq_true wrap0_len' | fail) ?_)
         | ((with_reducible refine Or.inl ?_); (conv => whnf); (with_reducible refine And.intro LitSl.mk ?_))
         | (refine Br.t ?_)
         | (refine Br.f ?_)
         | (with_reducible refine Br.mk (fun hb => ?_) (fun hb => (by exfalso; simp only [decide_eq_true_eq, decide_eq_false_iff_not] at hb; (first | (simp at hb; done) | (exact hb sum_nil') | (exact hb sum_a') | (exact hb wraps2_len') | (exact hb wrap0_len') | omega))))
         | (with_reducible refine Or.inl ⟨_, frameWrap_fn _ (by decide), ?_⟩)
         | ((with_reducible refine Or.inl ?_); (conv => whnf); (with_reducible refine ⟨_, frameWrap_fn _ (by decide), ?_⟩))
         | (with_reducible refine Or.inl ⟨_, open_ok _ [97, 98, 99] [120] rfl (by decide) (by decide), ?_⟩)
         | ((with_reducible refine Or.inl ?_); (conv => whnf); (with_reducible refine ⟨_, open_ok _ [97, 98, 99] [120] rfl (by decide) (by decide), ?_⟩))
         | (refine Or.inl ⟨_, open_spoilt [0, 0, 0, 0, 0] [] [] [0, 0, 0, 0] (by rw [text_nil]; rfl) rfl zero_spoilt (by decide) (by decide), ?_⟩)
         | ((with_reducible refine Or.inl ?_); (conv => whnf); (refine ⟨_, open_spoilt [0, 0, 0, 0, 0] [] [] [0, 0, 0, 0] (by rw [text_nil]; rfl) rfl zero_spoilt (by decide) (by decide), ?_⟩))
         | (refine Or.inl ⟨_, open_short [97, 98, 99] (by decide), ?_⟩)
         | ((with_reducible refine Or.inl ?_); (conv => whnf); (refine ⟨_, open_short [97, 98, 99] (by decide), ?_⟩))
         | (with_reducible refine Or.inl ⟨_, all_of _ [[97], [98]] [122] (by simp [wraps]) (bad_short (by decide)) (by decide) (by simp only [List.length_append, wrap_len, text_1]; decide) (by decide), ?_⟩)
         | ((with_reducible refine Or.inl ?_); (conv => whnf); (with_reducible refine ⟨_, all_of _ [[97], [98]] [122] (by simp [wraps]) (bad_short (by decide)) (by decide) (by simp only [List.length_append, wrap_len, text_1]; decide) (by decide), ?_⟩))
         | (with_reducible refine Or.inl ⟨_, sum_fn _ (by decide), ?_⟩)
         | ((with_reducible refine Or.inl ?_); (conv => whnf); (with_reducible refine ⟨_, sum_fn _ (by decide), ?_⟩))
         | (refine Or.inl ⟨_, fis_fn [] 12 _, ?_⟩)
         | ((with_reducible refine Or.inl ?_); (conv => whnf); (refine ⟨_, fis_fn [] 12 _, ?_⟩))
         | (refine Or.inl ⟨_, fis_fn [] 11 _, ?_⟩)
         | ((with_reducible refine Or.inl ?_); (conv => whnf); (refine ⟨_, fis_fn [] 11 _, ?_⟩))
         | (with_reducible refine Br.mk (fun hb => ?_) (fun hb => ?_) <;> (try rw [hb]) <;> (try simp only [List.length_map, decide_eq_true_eq, decide_eq_false_iff_not, Bool.not_eq_true', Bool.not_eq_false', Int.ofNat_lt, Int.ofNat_le, Int.not_lt, Int.not_le, Int.toNat_natCast] at hb))
         | (with_reducible refine ⟨_, (by first | exact ByteRows.map _ | (repeat (first | exact ByteRows.nil | exact ByteRows.map _ | refine ByteRows.cons ?_ | refine ByteRows.app ?_ ?_))), ?_⟩)
         | (refine Exists.intro _ (And.intro (ByteRows.rep _) ?_))
         | (refine Exists.intro _ (And.intro (ByteRows.app (ByteRows.map _) (ByteRows.cons ByteRows.nil)) ?_))
         | ((with_reducible refine And.intro ?_ ?_); (focus (first | with_reducible rfl | exact trivial | (exact ⟨rfl, trivial⟩) | (exact ⟨rfl, rfl, trivial⟩) | omega | (intro r hr; simp only [List.mem_singleton] at hr; subst hr; rfl)  | ((simp only [List.length_append, wrap_len, text_1, maxLen]; decide)) | ((have := text_len8 [97, 98, 99] (by decide); simp only [List.length_append, wrap_len, maxLen] at *; simp at *; omega)) | (simp only [in64]; omega) | assumption | (simp; done) | (simp [V.cells]; done) | (simp [in64, maxLen, limK] at *; omega) | ((show confB _ _ = true); kernel_rfl) | rfl)))
         | (intro row hrow; (try simp only [Int.toNat_natCast, List.length_map, toNat_pred, toNat_succ', toNat_zero', toNat_one'] at hrow); (first | (have hsm := same_map (by assumption) hrow; subst hsm; clear hrow) | (obtain ⟨p, hp, rfl⟩ := of_map hrow; clear hrow)))
         | (with_reducible refine AW.seq ?_) | (with_reducible refine AW.region base (by kernel_rfl) ?_) | (with_reducible refine AW.cond ?_) | (with_reducible refine AW.block ?_) | (with_reducible refine AW.ret ?_) | (with_reducible refine AW.exit ?_) | (with_reducible refine AW.skip ?_))))
  all_goals (conv => whnf)
  all_goals (first | rfl | (simp only [V.bool.injEq, V.tup.injEq, V.agg.injEq, V.str.injEq, V.int.injEq, V.sl.injEq, V.ifc.injEq, List.cons.injEq, and_true, true_and, and_self]; done) | (simp only [V.bool.injEq, V.tup.injEq, V.agg.injEq, V.str.injEq, V.int.injEq, V.sl.injEq, V.ifc.injEq, List.cons.injEq, and_true, true_and, and_self]; grind) | (simp  at *; done) | (simp  at *; grind) | (exact congrArg V.bool (decide_eq_true wrap0_len')))
end Go.Proofs.YtciiiceloghkmaaDoor
