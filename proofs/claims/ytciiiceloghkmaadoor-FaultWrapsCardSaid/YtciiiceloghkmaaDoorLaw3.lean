/-
  A law of errors: however often it is wrapped: its walk. No conditions.
-/
import Derived.Test.YtciiiceloghkmaaDoorLaw3k
namespace Go.Proofs.YtciiiceloghkmaaDoor
open Go.RowKit
set_option linter.unusedSimpArgs false
set_option linter.unusedVariables false

theorem faultErrorT (ws : List Bs) (w : Bs) (c : Int) (x : Bs) (hc : in64 c) (hl : (says (w :: ws) c).length ≤ maxLen) (hx : x = says (w :: ws) c) : Fn Tryd.prog 93 [.elt [.str w, errV ws c] 0] (.str x) := by
  subst hx; exact faultError_fn ws w c hc hl

set_option maxRecDepth 100000 in
set_option maxHeartbeats 1000000 in
theorem faultWraps_nz (code : Int) (l : List Bs) (hc : in64 code) (h0 : ¬ code = 0) (hw : ∀ q, l[0]? = some q → q.length ≤ 140737488351232) : Fn Tryd.prog 11 [.int .i64 code, .sl (l.map encW)] (.bool true) := by
  refine Fn.mk' base Tryd.func11 rfl rfl rfl ?_
  have hle := Lib.itoa_length_le code hc.1 hc.2
  have hlp : (errPre ++ Lib.itoa code).length ≤ 27 := by rw [List.length_append]; simp only [errPre, List.length_cons, List.length_nil]; omega
  have hlm : (errPre ++ Lib.itoa code).length ≤ maxLen := by simp only [maxLen]; omega
  rcases l with _ | ⟨w0, l⟩
  · skip
    repeat' (first
        | (with_reducible refine AW.seq ?_) | (with_reducible refine AW.region base (by kernel_rfl) ?_) | (with_reducible refine AW.cond ?_) | (with_reducible refine AW.block ?_) | (with_reducible refine AW.ret ?_) | (with_reducible refine AW.exit ?_) | (with_reducible refine AW.skip ?_)
        | ((conv => whnf); (first
           | (with_reducible refine Br.t ?_)
           | (with_reducible refine Br.f ?_)
           | ((with_reducible refine Or.inl ?_); (conv => whnf); (with_reducible refine And.intro LitSl.mk ?_))
           | (refine Br.t ?_)
           | (refine Br.f ?_)
           | (with_reducible refine Br.mk (fun hb => ?_) (fun hb => (by exfalso; (first | (simp at hb; done) | omega | (simp only [decide_eq_false_iff_not, decide_eq_true_eq, List.length_map, List.length_cons] at hb; omega) | (simp only [List.length_map, List.length_cons] at hb; simp at hb; omega) | (simp only [decide_eq_false_iff_not, decide_eq_true_eq] at hb; exact hne hb) | (simp only [decide_eq_false_iff_not, decide_eq_true_eq] at hb; exact h0 hb) | fail))))
           | (with_reducible refine Br.mk (fun hb => (by exfalso; (first | (simp at hb; done) | omega | (simp only [decide_eq_false_iff_not, decide_eq_true_eq, List.length_map, List.length_cons] at hb; omega) | (simp only [List.length_map, List.length_cons] at hb; simp at hb; omega) | (simp only [decide_eq_false_iff_not, decide_eq_true_eq] at hb; exact hne hb) | (simp only [decide_eq_false_iff_not, decide_eq_true_eq] at hb; exact h0 hb) | fail))) (fun hb => ?_))
           | (with_reducible refine Or.inl ⟨_, known3_fn, ?_⟩)
           | ((with_reducible refine Or.inl ?_); (conv => whnf); (with_reducible refine ⟨_, known3_fn, ?_⟩))
           | (with_reducible refine Br.mk (fun hb => ?_) (fun hb => ?_) <;> (try rw [hb]) <;> (try simp only [List.length_map, decide_eq_true_eq, decide_eq_false_iff_not, Bool.not_eq_true', Bool.not_eq_false', Int.ofNat_lt, Int.ofNat_le, Int.not_lt, Int.not_le, Int.toNat_natCast] at hb))
           | (with_reducible refine ⟨_, (by first | exact ByteRows.map _ | (repeat (first | exact ByteRows.nil | exact ByteRows.map _ | refine ByteRows.cons ?_ | refine ByteRows.app ?_ ?_))), ?_⟩)
           | (refine Exists.intro _ (And.intro (ByteRows.rep _) ?_))
           | (refine Exists.intro _ (And.intro (ByteRows.app (ByteRows.map _) (ByteRows.cons ByteRows.nil)) ?_))
           | ((with_reducible refine Or.inl (And.intro ?_ ?_)); (focus (first | with_reducible rfl | exact trivial | (exact ⟨rfl, trivial⟩) | (exact ⟨rfl, rfl, trivial⟩) | omega | (intro r hr; simp only [List.mem_singleton] at hr; subst hr; rfl)  | ((simp only [List.length_map, List.length_cons] at *; omega)) | ((simp only [in64, maxLen, List.length_cons] at *; omega)) | ((simp only [List.length_append, List.length_cons, List.length_nil, maxLen, errPre, List.length_map] at *; omega)) | ((intro r hr; obtain ⟨t, _, rfl⟩ := List.mem_map.1 hr; rfl)) | (simp only [in64]; omega) | assumption | (simp; done) | (simp [V.cells]; done) | (simp [in64, maxLen, limK] at *; omega) | ((show confB _ _ = true); kernel_rfl) | rfl)))
           | ((with_reducible refine And.intro ?_ ?_); (focus (first | with_reducible rfl | exact trivial | (exact ⟨rfl, trivial⟩) | (exact ⟨rfl, rfl, trivial⟩) | omega | (intro r hr; simp only [List.mem_singleton] at hr; subst hr; rfl)  | ((simp only [List.length_map, List.length_cons] at *; omega)) | ((simp only [in64, maxLen, List.length_cons] at *; omega)) | ((simp only [List.length_append, List.length_cons, List.length_nil, maxLen, errPre, List.length_map] at *; omega)) | ((intro r hr; obtain ⟨t, _, rfl⟩ := List.mem_map.1 hr; rfl)) | (simp only [in64]; omega) | assumption | (simp; done) | (simp [V.cells]; done) | (simp [in64, maxLen, limK] at *; omega) | ((show confB _ _ = true); kernel_rfl) | rfl)))
           | (intro row hrow; (try simp only [Int.toNat_natCast, List.length_map, toNat_pred, toNat_succ', toNat_zero', toNat_one'] at hrow); (first | (have hsm := same_map (by assumption) hrow; subst hsm; clear hrow) | (obtain ⟨p, hp, rfl⟩ := of_map hrow; clear hrow)))
           | (with_reducible refine AW.seq ?_) | (with_reducible refine AW.region base (by kernel_rfl) ?_) | (with_reducible refine AW.cond ?_) | (with_reducible refine AW.block ?_) | (with_reducible refine AW.ret ?_) | (with_reducible refine AW.exit ?_) | (with_reducible refine AW.skip ?_))))
    all_goals ((conv => whnf); first | done | rfl | (exfalso; simp at *; omega))
  have hw0 : w0.length ≤ 140737488351232 := hw w0 rfl
  refine AW.len 1 rfl (fun hlen => ?_)
  simp only [List.length_map, maxLen] at hlen
  repeat' (first
      | (with_reducible refine AW.seq ?_) | (with_reducible refine AW.region base (by kernel_rfl) ?_) | (with_reducible refine AW.cond ?_) | (with_reducible refine AW.block ?_) | (with_reducible refine AW.ret ?_) | (with_reducible refine AW.exit ?_) | (with_reducible refine AW.skip ?_)
      | ((conv => whnf); (first
         | (with_reducible refine Br.t ?_)
         | (with_reducible refine Br.f ?_)
         | ((with_reducible refine Or.inr ?_); (conv => whnf); (with_reducible refine And.intro LitOwn.mk ?_))
         | ((with_reducible refine Or.inl ?_); (conv => whnf); (with_reducible refine And.intro LitSl.mk ?_))
         | (refine Br.t ?_)
         | (refine Br.f ?_)
         | (with_reducible refine Br.mk (fun hb => ?_) (fun hb => (by exfalso; (first | (simp at hb; done) | omega | (simp only [decide_eq_false_iff_not, decide_eq_true_eq, List.length_map, List.length_cons] at hb; omega) | (simp only [List.length_map, List.length_cons] at hb; simp at hb; omega) | (simp only [decide_eq_false_iff_not, decide_eq_true_eq] at hb; exact hne hb) | (simp only [decide_eq_false_iff_not, decide_eq_true_eq] at hb; exact h0 hb) | fail))))
         | (with_reducible refine Br.mk (fun hb => (by exfalso; (first | (simp at hb; done) | omega | (simp only [decide_eq_false_iff_not, decide_eq_true_eq, List.length_map, List.length_cons] at hb; omega) | (simp only [List.length_map, List.length_cons] at hb; simp at hb; omega) | (simp only [decide_eq_false_iff_not, decide_eq_true_eq] at hb; exact hne hb) | (simp only [decide_eq_false_iff_not, decide_eq_true_eq] at hb; exact h0 hb) | fail))) (fun hb => ?_))
         | (with_reducible refine Or.inl ⟨_, known3_fn, ?_⟩)
         | ((with_reducible refine Or.inl ?_); (conv => whnf); (with_reducible refine ⟨_, known3_fn, ?_⟩))
         | (with_reducible refine Or.inl ⟨_, new_fn _ _ h0, ?_⟩)
         | ((with_reducible refine Or.inl ?_); (conv => whnf); (with_reducible refine ⟨_, new_fn _ _ h0, ?_⟩))
         | (with_reducible refine Or.inl ⟨_, errnoError_fn _ hc hlm, ?_⟩)
         | ((with_reducible refine Or.inl ?_); (conv => whnf); (with_reducible refine ⟨_, errnoError_fn _ hc hlm, ?_⟩))
         | (with_reducible refine Br.mk (fun hb => ?_) (fun hb => ?_) <;> (try rw [hb]) <;> (try simp only [List.length_map, decide_eq_true_eq, decide_eq_false_iff_not, Bool.not_eq_true', Bool.not_eq_false', Int.ofNat_lt, Int.ofNat_le, Int.not_lt, Int.not_le, Int.toNat_natCast] at hb))
         | (with_reducible refine ⟨_, (by first | exact ByteRows.map _ | (repeat (first | exact ByteRows.nil | exact ByteRows.map _ | refine ByteRows.cons ?_ | refine ByteRows.app ?_ ?_))), ?_⟩)
         | (refine Exists.intro _ (And.intro (ByteRows.rep _) ?_))
         | (refine Exists.intro _ (And.intro (ByteRows.app (ByteRows.map _) (ByteRows.cons ByteRows.nil)) ?_))
         | ((with_reducible refine Or.inl (And.intro ?_ ?_)); (focus (first | with_reducible rfl | exact trivial | (exact ⟨rfl, trivial⟩) | (exact ⟨rfl, rfl, trivial⟩) | omega | (intro r hr; simp only [List.mem_singleton] at hr; subst hr; rfl)  | ((simp only [List.length_map, List.length_cons] at *; omega)) | ((simp only [in64, maxLen, List.length_cons] at *; omega)) | ((simp only [List.length_append, List.length_cons, List.length_nil, maxLen, errPre, List.length_map] at *; omega)) | ((intro r hr; obtain ⟨t, _, rfl⟩ := List.mem_map.1 hr; rfl)) | (simp only [in64]; omega) | assumption | (simp; done) | (simp [V.cells]; done) | (simp [in64, maxLen, limK] at *; omega) | ((show confB _ _ = true); kernel_rfl) | rfl)))
         | ((with_reducible refine And.intro ?_ ?_); (focus (first | with_reducible rfl | exact trivial | (exact ⟨rfl, trivial⟩) | (exact ⟨rfl, rfl, trivial⟩) | omega | (intro r hr; simp only [List.mem_singleton] at hr; subst hr; rfl)  | ((simp only [List.length_map, List.length_cons] at *; omega)) | ((simp only [in64, maxLen, List.length_cons] at *; omega)) | ((simp only [List.length_append, List.length_cons, List.length_nil, maxLen, errPre, List.length_map] at *; omega)) | ((intro r hr; obtain ⟨t, _, rfl⟩ := List.mem_map.1 hr; rfl)) | (simp only [in64]; omega) | assumption | (simp; done) | (simp [V.cells]; done) | (simp [in64, maxLen, limK] at *; omega) | ((show confB _ _ = true); kernel_rfl) | rfl)))
         | (intro row hrow; (have hrow0 : row = encW w0 := (by first | exact (Option.some.inj hrow).symm | fail)); subst hrow0; clear hrow)
         | (with_reducible refine AW.seq ?_) | (with_reducible refine AW.region base (by kernel_rfl) ?_) | (with_reducible refine AW.cond ?_) | (with_reducible refine AW.block ?_) | (with_reducible refine AW.ret ?_) | (with_reducible refine AW.exit ?_) | (with_reducible refine AW.skip ?_))))
  all_goals try ((conv => whnf); first | rfl | done)
  have hL : (w0 :: l).length ≤ 12 := by first | omega | (simp only [List.length_map, List.length_cons] at *; omega)
  refine AW.loop (fun (⟨i, w, ws, x⟩ : Nat × Bs × List Bs × Bs) => i ≤ (w0 :: l).length ∧ x.length ≤ 140737488351332 + 50 * i ∧ ws.length ≤ i ∧ x = says (w :: ws) code) (fun (⟨i, w, ws, x⟩ : Nat × Bs × List Bs × Bs) => ⟨[(1, .sl ((w0 :: l).map encW)), (5, .int .i64 code), (6, .ifc 85 (.elt [.str w, errV ws code] 0)), (7, .str x), (8, .own 0), (9, .int .i64 (i : Int))], [.rows 9 ((w :: ws).map encW)]⟩) (fun (⟨i, w, ws, x⟩ : Nat × Bs × List Bs × Bs) => (w0 :: l).length - i) (1, w0, [], (w0 ++ [58, 32]) ++ (errPre ++ Lib.itoa code)) ?_ ?_ ?_
  · (refine ⟨by simp, ?_, by simp, rfl⟩; simp only [List.length_append, List.length_cons, List.length_nil] at *; omega)
  · (refine ⟨⟨[?_], ?_⟩⟩; rotate_left 1; repeat' (first | (with_reducible rfl) | exact trivial | ((conv => whnf); (first | (with_reducible refine And.intro ?_ ?_) | (first | with_reducible rfl | (refine congrArg V.str ?_; (first | with_reducible rfl | omega | rfl | (simp; done))) | (refine congrArg (V.int _) ?_; (first | with_reducible rfl | omega | rfl | (simp; done))) | (refine congrArg V.bool ?_; (first | with_reducible rfl | omega | rfl | (simp; done))) | (refine congrArg V.sl ?_; (first | with_reducible rfl | omega | rfl | (simp; done))) | (first | with_reducible rfl | omega | rfl | (simp; done)) | rfl)))))
  · rintro ⟨i, w, ws, x⟩ hk
    obtain ⟨hk1, hk2, hk3, hx⟩ := hk
    rcases (by omega : i = (w0 :: l).length ∨ i < (w0 :: l).length) with hi | hi
    · have hxl : x.length ≤ 140737488352000 := by omega
      have hwl : ws.length ≤ 12 := by omega
      clear hk2 hk3 hk1
      subst hi
      have hl9 : (says (w :: ws) code).length ≤ maxLen := by rw [← hx]; simp only [maxLen]; omega
      have hfe := faultErrorT ws w code x hc hl9 hx
      clear hx hl9
      rcases (by simp only [in64] at hc; omega : code = 9223372036854775807 ∨ code + 1 ≤ 9223372036854775807) with hm | hm
      · have hne : ¬ code = IntKind.wrap .i64 (code + 1) := by rw [hm]; decide
        repeat' (first
            | (with_reducible refine AW.seq ?_) | (with_reducible refine AW.region base (by kernel_rfl) ?_) | (with_reducible refine AW.cond ?_) | (with_reducible refine AW.block ?_) | (with_reducible refine AW.ret ?_) | (with_reducible refine AW.exit ?_) | (with_reducible refine AW.skip ?_)
            | ((conv => whnf); (first
               | (with_reducible refine Br.t ?_)
               | (with_reducible refine Br.f ?_)
               | (with_reducible refine Br.of_t (decide_eq_true rfl) ?_)
               | (with_reducible refine Or.inr (And.intro WrapsOk.mk ?_))
               | ((with_reducible refine Or.inl ?_); (conv => whnf); (with_reducible refine And.intro LitSl.mk ?_))
               | (refine Br.t ?_)
               | (refine Br.f ?_)
               | (with_reducible refine Br.mk (fun hb => ?_) (fun hb => (by exfalso; (first | (simp at hb; done) | omega | (simp only [decide_eq_false_iff_not, decide_eq_true_eq, List.length_map, List.length_cons] at hb; omega) | (simp only [List.length_map, List.length_cons] at hb; simp at hb; omega) | (simp only [decide_eq_false_iff_not, decide_eq_true_eq] at hb; exact hne hb) | (simp only [decide_eq_false_iff_not, decide_eq_true_eq] at hb; exact h0 hb) | fail))))
               | (with_reducible refine Br.mk (fun hb => (by exfalso; (first | (simp at hb; done) | omega | (simp only [decide_eq_false_iff_not, decide_eq_true_eq, List.length_map, List.length_cons] at hb; omega) | (simp only [List.length_map, List.length_cons] at hb; simp at hb; omega) | (simp only [decide_eq_false_iff_not, decide_eq_true_eq] at hb; exact hne hb) | (simp only [decide_eq_false_iff_not, decide_eq_true_eq] at hb; exact h0 hb) | fail))) (fun hb => ?_))
               | (with_reducible refine Or.inr ⟨[?_], _, _, _, _, asE_fn (w :: ws) ?_ ?_, ?_⟩)
               | (with_reducible refine Or.inr (Or.inr ⟨[?_], _, _, _, _, asE_fn (w :: ws) ?_ ?_, ?_⟩))
               | (refine Or.inl ⟨_, isE_fn (w :: ws) _ _, ?_⟩)
               | ((with_reducible refine Or.inl ?_); (conv => whnf); (refine ⟨_, isE_fn (w :: ws) _ _, ?_⟩))
               | (refine Or.inl ⟨_, code_fn (w :: ws) _, ?_⟩)
               | ((with_reducible refine Or.inl ?_); (conv => whnf); (refine ⟨_, code_fn (w :: ws) _, ?_⟩))
               | (refine Or.inl ⟨_, fis_fn (w :: ws) _ _, ?_⟩)
               | ((with_reducible refine Or.inl ?_); (conv => whnf); (refine ⟨_, fis_fn (w :: ws) _ _, ?_⟩))
               | (refine Or.inl ⟨_, where_fn (w :: ws) _ (by simp only [List.length_cons]; omega), ?_⟩)
               | ((with_reducible refine Or.inl ?_); (conv => whnf); (refine ⟨_, where_fn (w :: ws) _ (by simp only [List.length_cons]; omega), ?_⟩))
               | (with_reducible refine Or.inl ⟨_, same_ofW _ _ (w :: ws) rfl rfl, ?_⟩)
               | ((with_reducible refine Or.inl ?_); (conv => whnf); (with_reducible refine ⟨_, same_ofW _ _ (w :: ws) rfl rfl, ?_⟩))
               | (refine Or.inl ⟨_, hfe, ?_⟩)
               | ((with_reducible refine Or.inl ?_); (conv => whnf); (refine ⟨_, hfe, ?_⟩))
               | (with_reducible refine Br.mk (fun hb => ?_) (fun hb => ?_) <;> (try rw [hb]) <;> (try simp only [List.length_map, decide_eq_true_eq, decide_eq_false_iff_not, Bool.not_eq_true', Bool.not_eq_false', Int.ofNat_lt, Int.ofNat_le, Int.not_lt, Int.not_le, Int.toNat_natCast] at hb))
               | (with_reducible refine ⟨_, (by first | exact ByteRows.map _ | (repeat (first | exact ByteRows.nil | exact ByteRows.map _ | refine ByteRows.cons ?_ | refine ByteRows.app ?_ ?_))), ?_⟩)
               | (refine Exists.intro _ (And.intro (ByteRows.rep _) ?_))
               | (refine Exists.intro _ (And.intro (ByteRows.app (ByteRows.map _) (ByteRows.cons ByteRows.nil)) ?_))
               | ((with_reducible refine Or.inl (And.intro ?_ ?_)); (focus (first | with_reducible rfl | exact trivial | (exact ⟨rfl, trivial⟩) | (exact ⟨rfl, rfl, trivial⟩) | omega | (intro r hr; simp only [List.mem_singleton] at hr; subst hr; rfl)  | ((simp only [List.length_map, List.length_cons] at *; omega)) | ((simp only [in64, maxLen, List.length_cons] at *; omega)) | ((simp only [List.length_append, List.length_cons, List.length_nil, maxLen, errPre, List.length_map] at *; omega)) | ((intro r hr; obtain ⟨t, _, rfl⟩ := List.mem_map.1 hr; rfl)) | (simp only [in64]; omega) | assumption | (simp; done) | (simp [V.cells]; done) | (simp [in64, maxLen, limK] at *; omega) | ((show confB _ _ = true); kernel_rfl) | rfl)))
               | ((with_reducible refine And.intro ?_ ?_); (focus (first | with_reducible rfl | exact trivial | (exact ⟨rfl, trivial⟩) | (exact ⟨rfl, rfl, trivial⟩) | omega | (intro r hr; simp only [List.mem_singleton] at hr; subst hr; rfl)  | ((simp only [List.length_map, List.length_cons] at *; omega)) | ((simp only [in64, maxLen, List.length_cons] at *; omega)) | ((simp only [List.length_append, List.length_cons, List.length_nil, maxLen, errPre, List.length_map] at *; omega)) | ((intro r hr; obtain ⟨t, _, rfl⟩ := List.mem_map.1 hr; rfl)) | (simp only [in64]; omega) | assumption | (simp; done) | (simp [V.cells]; done) | (simp [in64, maxLen, limK] at *; omega) | ((show confB _ _ = true); kernel_rfl) | rfl)))
               | (intro row hrow; (try simp only [Int.toNat_natCast, List.length_map, toNat_pred, toNat_succ', toNat_zero', toNat_one'] at hrow); (first | (have hsm := same_map (by assumption) hrow; subst hsm; clear hrow) | (obtain ⟨p, hp, rfl⟩ := of_map hrow; clear hrow)))
               | (with_reducible refine AW.seq ?_) | (with_reducible refine AW.region base (by kernel_rfl) ?_) | (with_reducible refine AW.cond ?_) | (with_reducible refine AW.block ?_) | (with_reducible refine AW.ret ?_) | (with_reducible refine AW.exit ?_) | (with_reducible refine AW.skip ?_))))
        all_goals ((conv => whnf); first | done | (exact congrArg V.bool (decide_eq_true rfl)) | (with_reducible rfl) | (simp; done) | (exfalso; (first | (simp at hb; done) | omega | (simp only [decide_eq_false_iff_not, decide_eq_true_eq, List.length_map, List.length_cons] at hb; omega) | (simp only [List.length_map, List.length_cons] at hb; simp at hb; omega) | (simp only [decide_eq_false_iff_not, decide_eq_true_eq] at hb; exact hne hb) | (simp only [decide_eq_false_iff_not, decide_eq_true_eq] at hb; exact h0 hb) | fail)))
      · have hne : True := trivial
        have hin : in64 (code + 1) := by simp only [in64] at hc ⊢; omega
        repeat' (first
            | (with_reducible refine AW.seq ?_) | (with_reducible refine AW.region base (by kernel_rfl) ?_) | (with_reducible refine AW.cond ?_) | (with_reducible refine AW.block ?_) | (with_reducible refine AW.ret ?_) | (with_reducible refine AW.exit ?_) | (with_reducible refine AW.skip ?_)
            | ((conv => whnf); (first
               | (with_reducible refine Br.t ?_)
               | (with_reducible refine Br.f ?_)
               | (with_reducible refine Br.of_t (decide_eq_true rfl) ?_)
               | ((with_reducible refine Or.inl ?_); (conv => whnf); (with_reducible refine And.intro LitSl.mk ?_))
               | (refine Br.t ?_)
               | (refine Br.f ?_)
               | (with_reducible refine Br.mk (fun hb => ?_) (fun hb => (by exfalso; (first | (simp at hb; done) | omega | (simp only [decide_eq_false_iff_not, decide_eq_true_eq, List.length_map, List.length_cons] at hb; omega) | (simp only [List.length_map, List.length_cons] at hb; simp at hb; omega) | (simp only [decide_eq_false_iff_not, decide_eq_true_eq] at hb; exact hne hb) | (simp only [decide_eq_false_iff_not, decide_eq_true_eq] at hb; exact h0 hb) | fail))))
               | (with_reducible refine Br.mk (fun hb => (by exfalso; (first | (simp at hb; done) | omega | (simp only [decide_eq_false_iff_not, decide_eq_true_eq, List.length_map, List.length_cons] at hb; omega) | (simp only [List.length_map, List.length_cons] at hb; simp at hb; omega) | (simp only [decide_eq_false_iff_not, decide_eq_true_eq] at hb; exact hne hb) | (simp only [decide_eq_false_iff_not, decide_eq_true_eq] at hb; exact h0 hb) | fail))) (fun hb => ?_))
               | (with_reducible refine Or.inr ⟨[?_], _, _, _, _, asE_fn (w :: ws) ?_ ?_, ?_⟩)
               | (with_reducible refine Or.inr (Or.inr ⟨[?_], _, _, _, _, asE_fn (w :: ws) ?_ ?_, ?_⟩))
               | (refine Or.inl ⟨_, isE_fn (w :: ws) _ _, ?_⟩)
               | ((with_reducible refine Or.inl ?_); (conv => whnf); (refine ⟨_, isE_fn (w :: ws) _ _, ?_⟩))
               | (refine Or.inl ⟨_, code_fn (w :: ws) _, ?_⟩)
               | ((with_reducible refine Or.inl ?_); (conv => whnf); (refine ⟨_, code_fn (w :: ws) _, ?_⟩))
               | (refine Or.inl ⟨_, fis_fn (w :: ws) _ _, ?_⟩)
               | ((with_reducible refine Or.inl ?_); (conv => whnf); (refine ⟨_, fis_fn (w :: ws) _ _, ?_⟩))
               | (refine Or.inl ⟨_, where_fn (w :: ws) _ (by simp only [List.length_cons]; omega), ?_⟩)
               | ((with_reducible refine Or.inl ?_); (conv => whnf); (refine ⟨_, where_fn (w :: ws) _ (by simp only [List.length_cons]; omega), ?_⟩))
               | (with_reducible refine Or.inl ⟨_, same_ofW _ _ (w :: ws) rfl rfl, ?_⟩)
               | ((with_reducible refine Or.inl ?_); (conv => whnf); (with_reducible refine ⟨_, same_ofW _ _ (w :: ws) rfl rfl, ?_⟩))
               | (refine Or.inl ⟨_, hfe, ?_⟩)
               | ((with_reducible refine Or.inl ?_); (conv => whnf); (refine ⟨_, hfe, ?_⟩))
               | (with_reducible refine Br.mk (fun hb => ?_) (fun hb => ?_) <;> (try rw [hb]) <;> (try simp only [List.length_map, decide_eq_true_eq, decide_eq_false_iff_not, Bool.not_eq_true', Bool.not_eq_false', Int.ofNat_lt, Int.ofNat_le, Int.not_lt, Int.not_le, Int.toNat_natCast] at hb))
               | (with_reducible refine ⟨_, (by first | exact ByteRows.map _ | (repeat (first | exact ByteRows.nil | exact ByteRows.map _ | refine ByteRows.cons ?_ | refine ByteRows.app ?_ ?_))), ?_⟩)
               | (refine Exists.intro _ (And.intro (ByteRows.rep _) ?_))
               | (refine Exists.intro _ (And.intro (ByteRows.app (ByteRows.map _) (ByteRows.cons ByteRows.nil)) ?_))
               | ((with_reducible refine Or.inl (And.intro ?_ ?_)); (focus (first | with_reducible rfl | exact trivial | (exact ⟨rfl, trivial⟩) | (exact ⟨rfl, rfl, trivial⟩) | omega | (intro r hr; simp only [List.mem_singleton] at hr; subst hr; rfl)  | ((simp only [List.length_map, List.length_cons] at *; omega)) | ((simp only [in64, maxLen, List.length_cons] at *; omega)) | ((simp only [List.length_append, List.length_cons, List.length_nil, maxLen, errPre, List.length_map] at *; omega)) | ((intro r hr; obtain ⟨t, _, rfl⟩ := List.mem_map.1 hr; rfl)) | (simp only [in64]; omega) | assumption | (simp; done) | (simp [V.cells]; done) | (simp [in64, maxLen, limK] at *; omega) | ((show confB _ _ = true); kernel_rfl) | rfl)))
               | ((with_reducible refine And.intro ?_ ?_); (focus (first | with_reducible rfl | exact trivial | (exact ⟨rfl, trivial⟩) | (exact ⟨rfl, rfl, trivial⟩) | omega | (intro r hr; simp only [List.mem_singleton] at hr; subst hr; rfl)  | ((simp only [List.length_map, List.length_cons] at *; omega)) | ((simp only [in64, maxLen, List.length_cons] at *; omega)) | ((simp only [List.length_append, List.length_cons, List.length_nil, maxLen, errPre, List.length_map] at *; omega)) | ((intro r hr; obtain ⟨t, _, rfl⟩ := List.mem_map.1 hr; rfl)) | (simp only [in64]; omega) | assumption | (simp; done) | (simp [V.cells]; done) | (simp [in64, maxLen, limK] at *; omega) | ((show confB _ _ = true); kernel_rfl) | rfl)))
               | (intro row hrow; (try simp only [Int.toNat_natCast, List.length_map, toNat_pred, toNat_succ', toNat_zero', toNat_one'] at hrow); (first | (have hsm := same_map (by assumption) hrow; subst hsm; clear hrow) | (obtain ⟨p, hp, rfl⟩ := of_map hrow; clear hrow)))
               | (with_reducible refine AW.seq ?_) | (with_reducible refine AW.region base (by kernel_rfl) ?_) | (with_reducible refine AW.cond ?_) | (with_reducible refine AW.block ?_) | (with_reducible refine AW.ret ?_) | (with_reducible refine AW.exit ?_) | (with_reducible refine AW.skip ?_))))
        all_goals ((conv => whnf); first | done | (exact congrArg V.bool (decide_eq_true rfl)) | (with_reducible rfl) | (simp; done) | (exfalso; (first | (simp at hb; done) | omega | (simp only [decide_eq_false_iff_not, decide_eq_true_eq, List.length_map, List.length_cons] at hb; omega) | (simp only [List.length_map, List.length_cons] at hb; simp at hb; omega) | (simp only [decide_eq_false_iff_not, decide_eq_true_eq] at hb; exact hne hb) | (simp only [decide_eq_false_iff_not, decide_eq_true_eq] at hb; exact h0 hb) | fail)))
    obtain ⟨p, hp⟩ : ∃ p, (w0 :: l)[i]? = some p := ⟨_, List.getElem?_eq_getElem hi⟩
    rcases Nat.lt_or_ge 40 p.length with h8 | h8
    · skip
      repeat' (first
          | (with_reducible refine AW.seq ?_) | (with_reducible refine AW.region base (by kernel_rfl) ?_) | (with_reducible refine AW.cond ?_) | (with_reducible refine AW.block ?_) | (with_reducible refine AW.ret ?_) | (with_reducible refine AW.exit ?_) | (with_reducible refine AW.skip ?_)
          | ((conv => whnf); (first
             | (with_reducible refine Br.t ?_)
             | (with_reducible refine Br.f ?_)
             | ((with_reducible refine Or.inr ?_); (conv => whnf); (with_reducible refine And.intro LitOwn.mk ?_))
             | ((with_reducible refine Or.inl ?_); (conv => whnf); (with_reducible refine And.intro LitSl.mk ?_))
             | (refine Br.t ?_)
             | (refine Br.f ?_)
             | (with_reducible refine Br.mk (fun hb => ?_) (fun hb => (by exfalso; (first | (simp at hb; done) | omega | (simp only [decide_eq_false_iff_not, decide_eq_true_eq, List.length_map, List.length_cons] at hb; omega) | (simp only [List.length_map, List.length_cons] at hb; simp at hb; omega) | (simp only [decide_eq_false_iff_not, decide_eq_true_eq] at hb; exact hne hb) | (simp only [decide_eq_false_iff_not, decide_eq_true_eq] at hb; exact h0 hb) | fail))))
             | (with_reducible refine Br.mk (fun hb => (by exfalso; (first | (simp at hb; done) | omega | (simp only [decide_eq_false_iff_not, decide_eq_true_eq, List.length_map, List.length_cons] at hb; omega) | (simp only [List.length_map, List.length_cons] at hb; simp at hb; omega) | (simp only [decide_eq_false_iff_not, decide_eq_true_eq] at hb; exact hne hb) | (simp only [decide_eq_false_iff_not, decide_eq_true_eq] at hb; exact h0 hb) | fail))) (fun hb => ?_))
             | (with_reducible refine Or.inl ⟨_, known3_fn, ?_⟩)
             | ((with_reducible refine Or.inl ?_); (conv => whnf); (with_reducible refine ⟨_, known3_fn, ?_⟩))
             | (with_reducible refine Or.inl ⟨_, new_fn _ _ h0, ?_⟩)
             | ((with_reducible refine Or.inl ?_); (conv => whnf); (with_reducible refine ⟨_, new_fn _ _ h0, ?_⟩))
             | (with_reducible refine Or.inl ⟨_, errnoError_fn _ hc hlm, ?_⟩)
             | ((with_reducible refine Or.inl ?_); (conv => whnf); (with_reducible refine ⟨_, errnoError_fn _ hc hlm, ?_⟩))
             | (refine Or.inl ⟨_, wrap_fn (w :: ws) code _, ?_⟩)
             | ((with_reducible refine Or.inl ?_); (conv => whnf); (refine ⟨_, wrap_fn (w :: ws) code _, ?_⟩))
             | (with_reducible refine Br.mk (fun hb => ?_) (fun hb => ?_) <;> (try rw [hb]) <;> (try simp only [List.length_map, decide_eq_true_eq, decide_eq_false_iff_not, Bool.not_eq_true', Bool.not_eq_false', Int.ofNat_lt, Int.ofNat_le, Int.not_lt, Int.not_le, Int.toNat_natCast] at hb))
             | (with_reducible refine ⟨_, (by first | exact ByteRows.map _ | (repeat (first | exact ByteRows.nil | exact ByteRows.map _ | refine ByteRows.cons ?_ | refine ByteRows.app ?_ ?_))), ?_⟩)
             | (refine Exists.intro _ (And.intro (ByteRows.rep _) ?_))
             | (refine Exists.intro _ (And.intro (ByteRows.app (ByteRows.map _) (ByteRows.cons ByteRows.nil)) ?_))
             | ((with_reducible refine Or.inl (And.intro ?_ ?_)); (focus (first | with_reducible rfl | exact trivial | (exact ⟨rfl, trivial⟩) | (exact ⟨rfl, rfl, trivial⟩) | omega | (intro r hr; simp only [List.mem_singleton] at hr; subst hr; rfl)  | ((simp only [List.length_map, List.length_cons] at *; omega)) | ((simp only [in64, maxLen, List.length_cons] at *; omega)) | ((simp only [List.length_append, List.length_cons, List.length_nil, maxLen, errPre, List.length_map] at *; omega)) | ((intro r hr; obtain ⟨t, _, rfl⟩ := List.mem_map.1 hr; rfl)) | (simp only [in64]; omega) | assumption | (simp; done) | (simp [V.cells]; done) | (simp [in64, maxLen, limK] at *; omega) | ((show confB _ _ = true); kernel_rfl) | rfl)))
             | ((with_reducible refine And.intro ?_ ?_); (focus (first | with_reducible rfl | exact trivial | (exact ⟨rfl, trivial⟩) | (exact ⟨rfl, rfl, trivial⟩) | omega | (intro r hr; simp only [List.mem_singleton] at hr; subst hr; rfl)  | ((simp only [List.length_map, List.length_cons] at *; omega)) | ((simp only [in64, maxLen, List.length_cons] at *; omega)) | ((simp only [List.length_append, List.length_cons, List.length_nil, maxLen, errPre, List.length_map] at *; omega)) | ((intro r hr; obtain ⟨t, _, rfl⟩ := List.mem_map.1 hr; rfl)) | (simp only [in64]; omega) | assumption | (simp; done) | (simp [V.cells]; done) | (simp [in64, maxLen, limK] at *; omega) | ((show confB _ _ = true); kernel_rfl) | rfl)))
             | (intro row hrow; (try simp only [Int.toNat_natCast, List.length_map, toNat_pred, toNat_succ', toNat_zero', toNat_one'] at hrow); (first | (have hsm := same_map (by assumption) hrow; subst hsm; clear hrow) | (obtain ⟨p, hp, rfl⟩ := of_map hrow; clear hrow)))
             | (with_reducible refine AW.seq ?_) | (with_reducible refine AW.region base (by kernel_rfl) ?_) | (with_reducible refine AW.cond ?_) | (with_reducible refine AW.block ?_) | (with_reducible refine AW.ret ?_) | (with_reducible refine AW.exit ?_) | (with_reducible refine AW.skip ?_))))
      all_goals ((conv => whnf); first | done | rfl | (exfalso; simp at *; omega))
    repeat' (first
        | (with_reducible refine AW.seq ?_) | (with_reducible refine AW.region base (by kernel_rfl) ?_) | (with_reducible refine AW.cond ?_) | (with_reducible refine AW.block ?_) | (with_reducible refine AW.ret ?_) | (with_reducible refine AW.exit ?_) | (with_reducible refine AW.skip ?_)
        | ((conv => whnf); (first
           | (with_reducible refine Br.t ?_)
           | (with_reducible refine Br.f ?_)
           | ((with_reducible refine Or.inr ?_); (conv => whnf); (with_reducible refine And.intro LitOwn.mk ?_))
           | ((with_reducible refine Or.inl ?_); (conv => whnf); (with_reducible refine And.intro LitSl.mk ?_))
           | (refine Br.t ?_)
           | (refine Br.f ?_)
           | (with_reducible refine Br.mk (fun hb => ?_) (fun hb => (by exfalso; (first | (simp at hb; done) | omega | (simp only [decide_eq_false_iff_not, decide_eq_true_eq, List.length_map, List.length_cons] at hb; omega) | (simp only [List.length_map, List.length_cons] at hb; simp at hb; omega) | (simp only [decide_eq_false_iff_not, decide_eq_true_eq] at hb; exact hne hb) | (simp only [decide_eq_false_iff_not, decide_eq_true_eq] at hb; exact h0 hb) | fail))))
           | (with_reducible refine Br.mk (fun hb => (by exfalso; (first | (simp at hb; done) | omega | (simp only [decide_eq_false_iff_not, decide_eq_true_eq, List.length_map, List.length_cons] at hb; omega) | (simp only [List.length_map, List.length_cons] at hb; simp at hb; omega) | (simp only [decide_eq_false_iff_not, decide_eq_true_eq] at hb; exact hne hb) | (simp only [decide_eq_false_iff_not, decide_eq_true_eq] at hb; exact h0 hb) | fail))) (fun hb => ?_))
           | (with_reducible refine Or.inl ⟨_, known3_fn, ?_⟩)
           | ((with_reducible refine Or.inl ?_); (conv => whnf); (with_reducible refine ⟨_, known3_fn, ?_⟩))
           | (with_reducible refine Or.inl ⟨_, new_fn _ _ h0, ?_⟩)
           | ((with_reducible refine Or.inl ?_); (conv => whnf); (with_reducible refine ⟨_, new_fn _ _ h0, ?_⟩))
           | (with_reducible refine Or.inl ⟨_, errnoError_fn _ hc hlm, ?_⟩)
           | ((with_reducible refine Or.inl ?_); (conv => whnf); (with_reducible refine ⟨_, errnoError_fn _ hc hlm, ?_⟩))
           | (refine Or.inl ⟨_, wrap_fn (w :: ws) code _, ?_⟩)
           | ((with_reducible refine Or.inl ?_); (conv => whnf); (refine ⟨_, wrap_fn (w :: ws) code _, ?_⟩))
           | (with_reducible refine Br.mk (fun hb => ?_) (fun hb => ?_) <;> (try rw [hb]) <;> (try simp only [List.length_map, decide_eq_true_eq, decide_eq_false_iff_not, Bool.not_eq_true', Bool.not_eq_false', Int.ofNat_lt, Int.ofNat_le, Int.not_lt, Int.not_le, Int.toNat_natCast] at hb))
           | (with_reducible refine ⟨_, (by first | exact ByteRows.map _ | (repeat (first | exact ByteRows.nil | exact ByteRows.map _ | refine ByteRows.cons ?_ | refine ByteRows.app ?_ ?_))), ?_⟩)
           | (refine Exists.intro _ (And.intro (ByteRows.rep _) ?_))
           | (refine Exists.intro _ (And.intro (ByteRows.app (ByteRows.map _) (ByteRows.cons ByteRows.nil)) ?_))
           | ((with_reducible refine Or.inl (And.intro ?_ ?_)); (focus (first | with_reducible rfl | exact trivial | (exact ⟨rfl, trivial⟩) | (exact ⟨rfl, rfl, trivial⟩) | omega | (intro r hr; simp only [List.mem_singleton] at hr; subst hr; rfl)  | ((simp only [List.length_map, List.length_cons] at *; omega)) | ((simp only [in64, maxLen, List.length_cons] at *; omega)) | ((simp only [List.length_append, List.length_cons, List.length_nil, maxLen, errPre, List.length_map] at *; omega)) | ((intro r hr; obtain ⟨t, _, rfl⟩ := List.mem_map.1 hr; rfl)) | (simp only [in64]; omega) | assumption | (simp; done) | (simp [V.cells]; done) | (simp [in64, maxLen, limK] at *; omega) | ((show confB _ _ = true); kernel_rfl) | rfl)))
           | ((with_reducible refine And.intro ?_ ?_); (focus (first | with_reducible rfl | exact trivial | (exact ⟨rfl, trivial⟩) | (exact ⟨rfl, rfl, trivial⟩) | omega | (intro r hr; simp only [List.mem_singleton] at hr; subst hr; rfl)  | ((simp only [List.length_map, List.length_cons] at *; omega)) | ((simp only [in64, maxLen, List.length_cons] at *; omega)) | ((simp only [List.length_append, List.length_cons, List.length_nil, maxLen, errPre, List.length_map] at *; omega)) | ((intro r hr; obtain ⟨t, _, rfl⟩ := List.mem_map.1 hr; rfl)) | (simp only [in64]; omega) | assumption | (simp; done) | (simp [V.cells]; done) | (simp [in64, maxLen, limK] at *; omega) | ((show confB _ _ = true); kernel_rfl) | rfl)))
           | (intro row hrow; (try simp only [Int.toNat_natCast, List.length_map, toNat_pred, toNat_succ', toNat_zero', toNat_one'] at hrow); (first | (have hsm := same_map (by assumption) hrow; subst hsm; clear hrow) | (obtain ⟨p, hp, rfl⟩ := of_map hrow; clear hrow)))
           | (with_reducible refine AW.seq ?_) | (with_reducible refine AW.region base (by kernel_rfl) ?_) | (with_reducible refine AW.cond ?_) | (with_reducible refine AW.block ?_) | (with_reducible refine AW.ret ?_) | (with_reducible refine AW.exit ?_) | (with_reducible refine AW.skip ?_))))
    all_goals (try first | with_reducible assumption | ((show (_ : Int) ≤ _); (first | omega | (simp at *; omega))) | ((show (_ : Nat) ≤ _); (first | omega | (simp at *; omega))) | ((show in64 _); (simp only [in64] at *; (first | omega | (simp at *; omega)))) | ((show (_ : Int) < _); (first | omega | (simp at *; omega))) | ((show ¬ (_ : Int) = _); (first | omega | (simp at *; omega))) | ((with_reducible refine And.intro ?_ ?_) <;> (first | omega | (simp at *; omega))))
    all_goals (first
      | (with_reducible exact absurd rfl (by assumption))
      | ((conv => whnf); (refine ⟨(i + 1, p, w :: ws, (p ++ [58, 32]) ++ x), ?_⟩); (refine And.intro ?_ (And.intro ?_ ?_)); (focus (refine ⟨⟨[?_], ?_⟩⟩; rotate_left 1; repeat' (first | (with_reducible rfl) | exact trivial | ((conv => whnf); (first | (with_reducible refine And.intro ?_ ?_) | (first | with_reducible rfl | (refine congrArg V.str ?_; (first | with_reducible rfl | omega | rfl | (simp; done))) | (refine congrArg (V.int _) ?_; (first | with_reducible rfl | omega | rfl | (simp; done))) | (refine congrArg V.bool ?_; (first | with_reducible rfl | omega | rfl | (simp; done))) | (refine congrArg V.sl ?_; (first | with_reducible rfl | omega | rfl | (simp; done))) | (first | with_reducible rfl | omega | rfl | (simp; done)) | rfl)))))); (focus (refine ⟨by omega, ?_, by simp; omega, by rw [hx]; rfl⟩; simp only [List.length_append, List.length_cons, List.length_nil] at *; omega)); (focus (first | omega | (dsimp only; omega) | (simp; done) | (simp; omega) | (simp at *; omega))))
      | ((conv => whnf); (try (first | rfl | (exfalso; simp_all; done) | (exfalso; simp at *; omega))); done))


set_option maxRecDepth 100000 in
set_option maxHeartbeats 1000000 in
theorem faultWraps_z (l : List Bs) (hw : ∀ q, l[0]? = some q → q.length ≤ 140737488351232) : Fn Tryd.prog 11 [.int .i64 0, .sl (l.map encW)] (.bool true) := by
  refine Fn.mk' base Tryd.func11 rfl rfl rfl ?_
  have hc : in64 0 := by simp only [in64]; omega
  have hne : True := trivial
  have h0 : True := trivial
  have hle := Lib.itoa_length_le 0 hc.1 hc.2
  have hlp : (errPre ++ Lib.itoa 0).length ≤ 27 := by rw [List.length_append]; simp only [errPre, List.length_cons, List.length_nil]; omega
  have hlm : (errPre ++ Lib.itoa 0).length ≤ maxLen := by simp only [maxLen]; omega
  rcases l with _ | ⟨w0, l⟩
  · skip
    repeat' (first
        | (with_reducible refine AW.seq ?_) | (with_reducible refine AW.region base (by kernel_rfl) ?_) | (with_reducible refine AW.cond ?_) | (with_reducible refine AW.block ?_) | (with_reducible refine AW.ret ?_) | (with_reducible refine AW.exit ?_) | (with_reducible refine AW.skip ?_)
        | ((conv => whnf); (first
           | (with_reducible refine Br.t ?_)
           | (with_reducible refine Br.f ?_)
           | ((with_reducible refine Or.inl ?_); (conv => whnf); (with_reducible refine And.intro LitSl.mk ?_))
           | (refine Br.t ?_)
           | (refine Br.f ?_)
           | (with_reducible refine Br.mk (fun hb => ?_) (fun hb => (by exfalso; (first | (simp at hb; done) | omega | (simp only [decide_eq_false_iff_not, decide_eq_true_eq, List.length_map, List.length_cons] at hb; omega) | (simp only [List.length_map, List.length_cons] at hb; simp at hb; omega) | (simp only [decide_eq_false_iff_not, decide_eq_true_eq] at hb; exact hne hb) | (simp only [decide_eq_false_iff_not, decide_eq_true_eq] at hb; exact h0 hb) | fail))))
           | (with_reducible refine Br.mk (fun hb => (by exfalso; (first | (simp at hb; done) | omega | (simp only [decide_eq_false_iff_not, decide_eq_true_eq, List.length_map, List.length_cons] at hb; omega) | (simp only [List.length_map, List.length_cons] at hb; simp at hb; omega) | (simp only [decide_eq_false_iff_not, decide_eq_true_eq] at hb; exact hne hb) | (simp only [decide_eq_false_iff_not, decide_eq_true_eq] at hb; exact h0 hb) | fail))) (fun hb => ?_))
           | (with_reducible refine Or.inl ⟨_, known3_fn, ?_⟩)
           | ((with_reducible refine Or.inl ?_); (conv => whnf); (with_reducible refine ⟨_, known3_fn, ?_⟩))
           | (with_reducible refine Br.mk (fun hb => ?_) (fun hb => ?_) <;> (try rw [hb]) <;> (try simp only [List.length_map, decide_eq_true_eq, decide_eq_false_iff_not, Bool.not_eq_true', Bool.not_eq_false', Int.ofNat_lt, Int.ofNat_le, Int.not_lt, Int.not_le, Int.toNat_natCast] at hb))
           | (with_reducible refine ⟨_, (by first | exact ByteRows.map _ | (repeat (first | exact ByteRows.nil | exact ByteRows.map _ | refine ByteRows.cons ?_ | refine ByteRows.app ?_ ?_))), ?_⟩)
           | (refine Exists.intro _ (And.intro (ByteRows.rep _) ?_))
           | (refine Exists.intro _ (And.intro (ByteRows.app (ByteRows.map _) (ByteRows.cons ByteRows.nil)) ?_))
           | ((with_reducible refine Or.inl (And.intro ?_ ?_)); (focus (first | with_reducible rfl | exact trivial | (exact ⟨rfl, trivial⟩) | (exact ⟨rfl, rfl, trivial⟩) | omega | (intro r hr; simp only [List.mem_singleton] at hr; subst hr; rfl)  | ((simp only [List.length_map, List.length_cons] at *; omega)) | ((simp only [in64, maxLen, List.length_cons] at *; omega)) | ((simp only [List.length_append, List.length_cons, List.length_nil, maxLen, errPre, List.length_map] at *; omega)) | ((intro r hr; obtain ⟨t, _, rfl⟩ := List.mem_map.1 hr; rfl)) | (simp only [in64]; omega) | assumption | (simp; done) | (simp [V.cells]; done) | (simp [in64, maxLen, limK] at *; omega) | ((show confB _ _ = true); kernel_rfl) | rfl)))
           | ((with_reducible refine And.intro ?_ ?_); (focus (first | with_reducible rfl | exact trivial | (exact ⟨rfl, trivial⟩) | (exact ⟨rfl, rfl, trivial⟩) | omega | (intro r hr; simp only [List.mem_singleton] at hr; subst hr; rfl)  | ((simp only [List.length_map, List.length_cons] at *; omega)) | ((simp only [in64, maxLen, List.length_cons] at *; omega)) | ((simp only [List.length_append, List.length_cons, List.length_nil, maxLen, errPre, List.length_map] at *; omega)) | ((intro r hr; obtain ⟨t, _, rfl⟩ := List.mem_map.1 hr; rfl)) | (simp only [in64]; omega) | assumption | (simp; done) | (simp [V.cells]; done) | (simp [in64, maxLen, limK] at *; omega) | ((show confB _ _ = true); kernel_rfl) | rfl)))
           | (intro row hrow; (try simp only [Int.toNat_natCast, List.length_map, toNat_pred, toNat_succ', toNat_zero', toNat_one'] at hrow); (first | (have hsm := same_map (by assumption) hrow; subst hsm; clear hrow) | (obtain ⟨p, hp, rfl⟩ := of_map hrow; clear hrow)))
           | (with_reducible refine AW.seq ?_) | (with_reducible refine AW.region base (by kernel_rfl) ?_) | (with_reducible refine AW.cond ?_) | (with_reducible refine AW.block ?_) | (with_reducible refine AW.ret ?_) | (with_reducible refine AW.exit ?_) | (with_reducible refine AW.skip ?_))))
    all_goals ((conv => whnf); first | done | rfl | (exfalso; simp at *; omega))
  have hw0 : w0.length ≤ 140737488351232 := hw w0 rfl
  refine AW.len 1 rfl (fun hlen => ?_)
  simp only [List.length_map, maxLen] at hlen
  repeat' (first
      | (with_reducible refine AW.seq ?_) | (with_reducible refine AW.region base (by kernel_rfl) ?_) | (with_reducible refine AW.cond ?_) | (with_reducible refine AW.block ?_) | (with_reducible refine AW.ret ?_) | (with_reducible refine AW.exit ?_) | (with_reducible refine AW.skip ?_)
      | ((conv => whnf); (first
         | (with_reducible refine Br.t ?_)
         | (with_reducible refine Br.f ?_)
         | ((with_reducible refine Or.inr ?_); (conv => whnf); (with_reducible refine And.intro LitOwn.mk ?_))
         | ((with_reducible refine Or.inl ?_); (conv => whnf); (with_reducible refine And.intro LitSl.mk ?_))
         | (refine Br.t ?_)
         | (refine Br.f ?_)
         | (with_reducible refine Br.mk (fun hb => ?_) (fun hb => (by exfalso; (first | (simp at hb; done) | omega | (simp only [decide_eq_false_iff_not, decide_eq_true_eq, List.length_map, List.length_cons] at hb; omega) | (simp only [List.length_map, List.length_cons] at hb; simp at hb; omega) | (simp only [decide_eq_false_iff_not, decide_eq_true_eq] at hb; exact hne hb) | (simp only [decide_eq_false_iff_not, decide_eq_true_eq] at hb; exact h0 hb) | fail))))
         | (with_reducible refine Br.mk (fun hb => (by exfalso; (first | (simp at hb; done) | omega | (simp only [decide_eq_false_iff_not, decide_eq_true_eq, List.length_map, List.length_cons] at hb; omega) | (simp only [List.length_map, List.length_cons] at hb; simp at hb; omega) | (simp only [decide_eq_false_iff_not, decide_eq_true_eq] at hb; exact hne hb) | (simp only [decide_eq_false_iff_not, decide_eq_true_eq] at hb; exact h0 hb) | fail))) (fun hb => ?_))
         | (with_reducible refine Or.inl ⟨_, known3_fn, ?_⟩)
         | ((with_reducible refine Or.inl ?_); (conv => whnf); (with_reducible refine ⟨_, known3_fn, ?_⟩))
         | (with_reducible refine Or.inl ⟨_, new_ok _, ?_⟩)
         | ((with_reducible refine Or.inl ?_); (conv => whnf); (with_reducible refine ⟨_, new_ok _, ?_⟩))
         | (with_reducible refine Or.inl ⟨_, errnoError_fn _ hc hlm, ?_⟩)
         | ((with_reducible refine Or.inl ?_); (conv => whnf); (with_reducible refine ⟨_, errnoError_fn _ hc hlm, ?_⟩))
         | (with_reducible refine Or.inl ⟨_, wrap_ok _, ?_⟩)
         | ((with_reducible refine Or.inl ?_); (conv => whnf); (with_reducible refine ⟨_, wrap_ok _, ?_⟩))
         | (with_reducible refine Br.mk (fun hb => ?_) (fun hb => ?_) <;> (try rw [hb]) <;> (try simp only [List.length_map, decide_eq_true_eq, decide_eq_false_iff_not, Bool.not_eq_true', Bool.not_eq_false', Int.ofNat_lt, Int.ofNat_le, Int.not_lt, Int.not_le, Int.toNat_natCast] at hb))
         | (with_reducible refine ⟨_, (by first | exact ByteRows.map _ | (repeat (first | exact ByteRows.nil | exact ByteRows.map _ | refine ByteRows.cons ?_ | refine ByteRows.app ?_ ?_))), ?_⟩)
         | (refine Exists.intro _ (And.intro (ByteRows.rep _) ?_))
         | (refine Exists.intro _ (And.intro (ByteRows.app (ByteRows.map _) (ByteRows.cons ByteRows.nil)) ?_))
         | ((with_reducible refine Or.inl (And.intro ?_ ?_)); (focus (first | with_reducible rfl | exact trivial | (exact ⟨rfl, trivial⟩) | (exact ⟨rfl, rfl, trivial⟩) | omega | (intro r hr; simp only [List.mem_singleton] at hr; subst hr; rfl)  | ((simp only [List.length_map, List.length_cons] at *; omega)) | ((simp only [in64, maxLen, List.length_cons] at *; omega)) | ((simp only [List.length_append, List.length_cons, List.length_nil, maxLen, errPre, List.length_map] at *; omega)) | ((intro r hr; obtain ⟨t, _, rfl⟩ := List.mem_map.1 hr; rfl)) | (simp only [in64]; omega) | assumption | (simp; done) | (simp [V.cells]; done) | (simp [in64, maxLen, limK] at *; omega) | ((show confB _ _ = true); kernel_rfl) | rfl)))
         | ((with_reducible refine And.intro ?_ ?_); (focus (first | with_reducible rfl | exact trivial | (exact ⟨rfl, trivial⟩) | (exact ⟨rfl, rfl, trivial⟩) | omega | (intro r hr; simp only [List.mem_singleton] at hr; subst hr; rfl)  | ((simp only [List.length_map, List.length_cons] at *; omega)) | ((simp only [in64, maxLen, List.length_cons] at *; omega)) | ((simp only [List.length_append, List.length_cons, List.length_nil, maxLen, errPre, List.length_map] at *; omega)) | ((intro r hr; obtain ⟨t, _, rfl⟩ := List.mem_map.1 hr; rfl)) | (simp only [in64]; omega) | assumption | (simp; done) | (simp [V.cells]; done) | (simp [in64, maxLen, limK] at *; omega) | ((show confB _ _ = true); kernel_rfl) | rfl)))
         | (intro row hrow; (have hrow0 : row = encW w0 := (by first | exact (Option.some.inj hrow).symm | fail)); subst hrow0; clear hrow)
         | (with_reducible refine AW.seq ?_) | (with_reducible refine AW.region base (by kernel_rfl) ?_) | (with_reducible refine AW.cond ?_) | (with_reducible refine AW.block ?_) | (with_reducible refine AW.ret ?_) | (with_reducible refine AW.exit ?_) | (with_reducible refine AW.skip ?_))))
  all_goals try ((conv => whnf); first | rfl | done)
  have hL : (w0 :: l).length ≤ 12 := by first | omega | (simp only [List.length_map, List.length_cons] at *; omega)
  refine AW.loop (fun (⟨i, x, y⟩ : Nat × Bs × List Bs) => i ≤ (w0 :: l).length ∧ x.length ≤ 140737488351332 + 50 * i ∧ y.length ≤ i) (fun (⟨i, x, y⟩ : Nat × Bs × List Bs) => ⟨[(1, .sl ((w0 :: l).map encW)), (5, .int .i64 0), (6, .val .nilIface), (7, .str x), (8, .own 0), (9, .int .i64 (i : Int))], [.rows 9 (y.map encW)]⟩) (fun (⟨i, x, y⟩ : Nat × Bs × List Bs) => (w0 :: l).length - i) (1, (w0 ++ [58, 32]) ++ (errPre ++ Lib.itoa 0), [w0]) ?_ ?_ ?_
  · (refine ⟨by simp, ?_, by simp⟩; simp only [List.length_append, List.length_cons, List.length_nil] at *; omega)
  · (refine ⟨⟨[?_], ?_⟩⟩; rotate_left 1; repeat' (first | (with_reducible rfl) | exact trivial | ((conv => whnf); (first | (with_reducible refine And.intro ?_ ?_) | (first | with_reducible rfl | (refine congrArg V.str ?_; (first | with_reducible rfl | omega | rfl | (simp; done))) | (refine congrArg (V.int _) ?_; (first | with_reducible rfl | omega | rfl | (simp; done))) | (refine congrArg V.bool ?_; (first | with_reducible rfl | omega | rfl | (simp; done))) | (refine congrArg V.sl ?_; (first | with_reducible rfl | omega | rfl | (simp; done))) | (first | with_reducible rfl | omega | rfl | (simp; done)) | rfl)))))
  · rintro ⟨i, x, y⟩ hk
    obtain ⟨hk1, hk2, hk3⟩ := hk
    rcases (by omega : i = (w0 :: l).length ∨ i < (w0 :: l).length) with hi | hi
    · have hxl : x.length ≤ 140737488352000 := by omega
      have hwl : y.length ≤ 12 := by omega
      clear hk2 hk3 hk1
      subst hi
      repeat' (first
          | (with_reducible refine AW.seq ?_) | (with_reducible refine AW.region base (by kernel_rfl) ?_) | (with_reducible refine AW.cond ?_) | (with_reducible refine AW.block ?_) | (with_reducible refine AW.ret ?_) | (with_reducible refine AW.exit ?_) | (with_reducible refine AW.skip ?_)
          | ((conv => whnf); (first
             | (with_reducible refine Br.t ?_)
             | (with_reducible refine Br.f ?_)
             | ((with_reducible refine Or.inl ?_); (conv => whnf); (with_reducible refine And.intro LitSl.mk ?_))
             | (refine Br.t ?_)
             | (refine Br.f ?_)
             | (with_reducible refine Br.mk (fun hb => ?_) (fun hb => (by exfalso; (first | (simp at hb; done) | omega | (simp only [decide_eq_false_iff_not, decide_eq_true_eq, List.length_map, List.length_cons] at hb; omega) | (simp only [List.length_map, List.length_cons] at hb; simp at hb; omega) | (simp only [decide_eq_false_iff_not, decide_eq_true_eq] at hb; exact hne hb) | (simp only [decide_eq_false_iff_not, decide_eq_true_eq] at hb; exact h0 hb) | fail))))
             | (with_reducible refine Br.mk (fun hb => (by exfalso; (first | (simp at hb; done) | omega | (simp only [decide_eq_false_iff_not, decide_eq_true_eq, List.length_map, List.length_cons] at hb; omega) | (simp only [List.length_map, List.length_cons] at hb; simp at hb; omega) | (simp only [decide_eq_false_iff_not, decide_eq_true_eq] at hb; exact hne hb) | (simp only [decide_eq_false_iff_not, decide_eq_true_eq] at hb; exact h0 hb) | fail))) (fun hb => ?_))
             | (with_reducible refine Br.mk (fun hb => ?_) (fun hb => ?_) <;> (try rw [hb]) <;> (try simp only [List.length_map, decide_eq_true_eq, decide_eq_false_iff_not, Bool.not_eq_true', Bool.not_eq_false', Int.ofNat_lt, Int.ofNat_le, Int.not_lt, Int.not_le, Int.toNat_natCast] at hb))
             | (with_reducible refine ⟨_, (by first | exact ByteRows.map _ | (repeat (first | exact ByteRows.nil | exact ByteRows.map _ | refine ByteRows.cons ?_ | refine ByteRows.app ?_ ?_))), ?_⟩)
             | (refine Exists.intro _ (And.intro (ByteRows.rep _) ?_))
             | (refine Exists.intro _ (And.intro (ByteRows.app (ByteRows.map _) (ByteRows.cons ByteRows.nil)) ?_))
             | ((with_reducible refine Or.inl (And.intro ?_ ?_)); (focus (first | with_reducible rfl | exact trivial | (exact ⟨rfl, trivial⟩) | (exact ⟨rfl, rfl, trivial⟩) | omega | (intro r hr; simp only [List.mem_singleton] at hr; subst hr; rfl)  | ((simp only [List.length_map, List.length_cons] at *; omega)) | ((simp only [in64, maxLen, List.length_cons] at *; omega)) | ((simp only [List.length_append, List.length_cons, List.length_nil, maxLen, errPre, List.length_map] at *; omega)) | ((intro r hr; obtain ⟨t, _, rfl⟩ := List.mem_map.1 hr; rfl)) | (simp only [in64]; omega) | assumption | (simp; done) | (simp [V.cells]; done) | (simp [in64, maxLen, limK] at *; omega) | ((show confB _ _ = true); kernel_rfl) | rfl)))
             | ((with_reducible refine And.intro ?_ ?_); (focus (first | with_reducible rfl | exact trivial | (exact ⟨rfl, trivial⟩) | (exact ⟨rfl, rfl, trivial⟩) | omega | (intro r hr; simp only [List.mem_singleton] at hr; subst hr; rfl)  | ((simp only [List.length_map, List.length_cons] at *; omega)) | ((simp only [in64, maxLen, List.length_cons] at *; omega)) | ((simp only [List.length_append, List.length_cons, List.length_nil, maxLen, errPre, List.length_map] at *; omega)) | ((intro r hr; obtain ⟨t, _, rfl⟩ := List.mem_map.1 hr; rfl)) | (simp only [in64]; omega) | assumption | (simp; done) | (simp [V.cells]; done) | (simp [in64, maxLen, limK] at *; omega) | ((show confB _ _ = true); kernel_rfl) | rfl)))
             | (intro row hrow; (try simp only [Int.toNat_natCast, List.length_map, toNat_pred, toNat_succ', toNat_zero', toNat_one'] at hrow); (first | (have hsm := same_map (by assumption) hrow; subst hsm; clear hrow) | (obtain ⟨p, hp, rfl⟩ := of_map hrow; clear hrow)))
             | (with_reducible refine AW.seq ?_) | (with_reducible refine AW.region base (by kernel_rfl) ?_) | (with_reducible refine AW.cond ?_) | (with_reducible refine AW.block ?_) | (with_reducible refine AW.ret ?_) | (with_reducible refine AW.exit ?_) | (with_reducible refine AW.skip ?_))))
      all_goals ((conv => whnf); first | done | rfl | (simp; done) | (exfalso; (first | (simp at hb; done) | omega | (simp only [decide_eq_false_iff_not, decide_eq_true_eq, List.length_map, List.length_cons] at hb; omega) | (simp only [List.length_map, List.length_cons] at hb; simp at hb; omega) | (simp only [decide_eq_false_iff_not, decide_eq_true_eq] at hb; exact hne hb) | (simp only [decide_eq_false_iff_not, decide_eq_true_eq] at hb; exact h0 hb) | fail)))
    obtain ⟨p, hp⟩ : ∃ p, (w0 :: l)[i]? = some p := ⟨_, List.getElem?_eq_getElem hi⟩
    rcases Nat.lt_or_ge 40 p.length with h8 | h8
    · skip
      repeat' (first
          | (with_reducible refine AW.seq ?_) | (with_reducible refine AW.region base (by kernel_rfl) ?_) | (with_reducible refine AW.cond ?_) | (with_reducible refine AW.block ?_) | (with_reducible refine AW.ret ?_) | (with_reducible refine AW.exit ?_) | (with_reducible refine AW.skip ?_)
          | ((conv => whnf); (first
             | (with_reducible refine Br.t ?_)
             | (with_reducible refine Br.f ?_)
             | ((with_reducible refine Or.inr ?_); (conv => whnf); (with_reducible refine And.intro LitOwn.mk ?_))
             | ((with_reducible refine Or.inl ?_); (conv => whnf); (with_reducible refine And.intro LitSl.mk ?_))
             | (refine Br.t ?_)
             | (refine Br.f ?_)
             | (with_reducible refine Br.mk (fun hb => ?_) (fun hb => (by exfalso; (first | (simp at hb; done) | omega | (simp only [decide_eq_false_iff_not, decide_eq_true_eq, List.length_map, List.length_cons] at hb; omega) | (simp only [List.length_map, List.length_cons] at hb; simp at hb; omega) | (simp only [decide_eq_false_iff_not, decide_eq_true_eq] at hb; exact hne hb) | (simp only [decide_eq_false_iff_not, decide_eq_true_eq] at hb; exact h0 hb) | fail))))
             | (with_reducible refine Br.mk (fun hb => (by exfalso; (first | (simp at hb; done) | omega | (simp only [decide_eq_false_iff_not, decide_eq_true_eq, List.length_map, List.length_cons] at hb; omega) | (simp only [List.length_map, List.length_cons] at hb; simp at hb; omega) | (simp only [decide_eq_false_iff_not, decide_eq_true_eq] at hb; exact hne hb) | (simp only [decide_eq_false_iff_not, decide_eq_true_eq] at hb; exact h0 hb) | fail))) (fun hb => ?_))
             | (with_reducible refine Or.inl ⟨_, known3_fn, ?_⟩)
             | ((with_reducible refine Or.inl ?_); (conv => whnf); (with_reducible refine ⟨_, known3_fn, ?_⟩))
             | (with_reducible refine Or.inl ⟨_, new_ok _, ?_⟩)
             | ((with_reducible refine Or.inl ?_); (conv => whnf); (with_reducible refine ⟨_, new_ok _, ?_⟩))
             | (with_reducible refine Or.inl ⟨_, errnoError_fn _ hc hlm, ?_⟩)
             | ((with_reducible refine Or.inl ?_); (conv => whnf); (with_reducible refine ⟨_, errnoError_fn _ hc hlm, ?_⟩))
             | (with_reducible refine Or.inl ⟨_, wrap_ok _, ?_⟩)
             | ((with_reducible refine Or.inl ?_); (conv => whnf); (with_reducible refine ⟨_, wrap_ok _, ?_⟩))
             | (with_reducible refine Br.mk (fun hb => ?_) (fun hb => ?_) <;> (try rw [hb]) <;> (try simp only [List.length_map, decide_eq_true_eq, decide_eq_false_iff_not, Bool.not_eq_true', Bool.not_eq_false', Int.ofNat_lt, Int.ofNat_le, Int.not_lt, Int.not_le, Int.toNat_natCast] at hb))
             | (with_reducible refine ⟨_, (by first | exact ByteRows.map _ | (repeat (first | exact ByteRows.nil | exact ByteRows.map _ | refine ByteRows.cons ?_ | refine ByteRows.app ?_ ?_))), ?_⟩)
             | (refine Exists.intro _ (And.intro (ByteRows.rep _) ?_))
             | (refine Exists.intro _ (And.intro (ByteRows.app (ByteRows.map _) (ByteRows.cons ByteRows.nil)) ?_))
             | ((with_reducible refine Or.inl (And.intro ?_ ?_)); (focus (first | with_reducible rfl | exact trivial | (exact ⟨rfl, trivial⟩) | (exact ⟨rfl, rfl, trivial⟩) | omega | (intro r hr; simp only [List.mem_singleton] at hr; subst hr; rfl)  | ((simp only [List.length_map, List.length_cons] at *; omega)) | ((simp only [in64, maxLen, List.length_cons] at *; omega)) | ((simp only [List.length_append, List.length_cons, List.length_nil, maxLen, errPre, List.length_map] at *; omega)) | ((intro r hr; obtain ⟨t, _, rfl⟩ := List.mem_map.1 hr; rfl)) | (simp only [in64]; omega) | assumption | (simp; done) | (simp [V.cells]; done) | (simp [in64, maxLen, limK] at *; omega) | ((show confB _ _ = true); kernel_rfl) | rfl)))
             | ((with_reducible refine And.intro ?_ ?_); (focus (first | with_reducible rfl | exact trivial | (exact ⟨rfl, trivial⟩) | (exact ⟨rfl, rfl, trivial⟩) | omega | (intro r hr; simp only [List.mem_singleton] at hr; subst hr; rfl)  | ((simp only [List.length_map, List.length_cons] at *; omega)) | ((simp only [in64, maxLen, List.length_cons] at *; omega)) | ((simp only [List.length_append, List.length_cons, List.length_nil, maxLen, errPre, List.length_map] at *; omega)) | ((intro r hr; obtain ⟨t, _, rfl⟩ := List.mem_map.1 hr; rfl)) | (simp only [in64]; omega) | assumption | (simp; done) | (simp [V.cells]; done) | (simp [in64, maxLen, limK] at *; omega) | ((show confB _ _ = true); kernel_rfl) | rfl)))
             | (intro row hrow; (try simp only [Int.toNat_natCast, List.length_map, toNat_pred, toNat_succ', toNat_zero', toNat_one'] at hrow); (first | (have hsm := same_map (by assumption) hrow; subst hsm; clear hrow) | (obtain ⟨p, hp, rfl⟩ := of_map hrow; clear hrow)))
             | (with_reducible refine AW.seq ?_) | (with_reducible refine AW.region base (by kernel_rfl) ?_) | (with_reducible refine AW.cond ?_) | (with_reducible refine AW.block ?_) | (with_reducible refine AW.ret ?_) | (with_reducible refine AW.exit ?_) | (with_reducible refine AW.skip ?_))))
      all_goals ((conv => whnf); first | done | rfl | (exfalso; simp at *; omega))
    repeat' (first
        | (with_reducible refine AW.seq ?_) | (with_reducible refine AW.region base (by kernel_rfl) ?_) | (with_reducible refine AW.cond ?_) | (with_reducible refine AW.block ?_) | (with_reducible refine AW.ret ?_) | (with_reducible refine AW.exit ?_) | (with_reducible refine AW.skip ?_)
        | ((conv => whnf); (first
           | (with_reducible refine Br.t ?_)
           | (with_reducible refine Br.f ?_)
           | ((with_reducible refine Or.inr ?_); (conv => whnf); (with_reducible refine And.intro LitOwn.mk ?_))
           | ((with_reducible refine Or.inl ?_); (conv => whnf); (with_reducible refine And.intro LitSl.mk ?_))
           | (refine Br.t ?_)
           | (refine Br.f ?_)
           | (with_reducible refine Br.mk (fun hb => ?_) (fun hb => (by exfalso; (first | (simp at hb; done) | omega | (simp only [decide_eq_false_iff_not, decide_eq_true_eq, List.length_map, List.length_cons] at hb; omega) | (simp only [List.length_map, List.length_cons] at hb; simp at hb; omega) | (simp only [decide_eq_false_iff_not, decide_eq_true_eq] at hb; exact hne hb) | (simp only [decide_eq_false_iff_not, decide_eq_true_eq] at hb; exact h0 hb) | fail))))
           | (with_reducible refine Br.mk (fun hb => (by exfalso; (first | (simp at hb; done) | omega | (simp only [decide_eq_false_iff_not, decide_eq_true_eq, List.length_map, List.length_cons] at hb; omega) | (simp only [List.length_map, List.length_cons] at hb; simp at hb; omega) | (simp only [decide_eq_false_iff_not, decide_eq_true_eq] at hb; exact hne hb) | (simp only [decide_eq_false_iff_not, decide_eq_true_eq] at hb; exact h0 hb) | fail))) (fun hb => ?_))
           | (with_reducible refine Or.inl ⟨_, known3_fn, ?_⟩)
           | ((with_reducible refine Or.inl ?_); (conv => whnf); (with_reducible refine ⟨_, known3_fn, ?_⟩))
           | (with_reducible refine Or.inl ⟨_, new_ok _, ?_⟩)
           | ((with_reducible refine Or.inl ?_); (conv => whnf); (with_reducible refine ⟨_, new_ok _, ?_⟩))
           | (with_reducible refine Or.inl ⟨_, errnoError_fn _ hc hlm, ?_⟩)
           | ((with_reducible refine Or.inl ?_); (conv => whnf); (with_reducible refine ⟨_, errnoError_fn _ hc hlm, ?_⟩))
           | (with_reducible refine Or.inl ⟨_, wrap_ok _, ?_⟩)
           | ((with_reducible refine Or.inl ?_); (conv => whnf); (with_reducible refine ⟨_, wrap_ok _, ?_⟩))
           | (with_reducible refine Br.mk (fun hb => ?_) (fun hb => ?_) <;> (try rw [hb]) <;> (try simp only [List.length_map, decide_eq_true_eq, decide_eq_false_iff_not, Bool.not_eq_true', Bool.not_eq_false', Int.ofNat_lt, Int.ofNat_le, Int.not_lt, Int.not_le, Int.toNat_natCast] at hb))
           | (with_reducible refine ⟨_, (by first | exact ByteRows.map _ | (repeat (first | exact ByteRows.nil | exact ByteRows.map _ | refine ByteRows.cons ?_ | refine ByteRows.app ?_ ?_))), ?_⟩)
           | (refine Exists.intro _ (And.intro (ByteRows.rep _) ?_))
           | (refine Exists.intro _ (And.intro (ByteRows.app (ByteRows.map _) (ByteRows.cons ByteRows.nil)) ?_))
           | ((with_reducible refine Or.inl (And.intro ?_ ?_)); (focus (first | with_reducible rfl | exact trivial | (exact ⟨rfl, trivial⟩) | (exact ⟨rfl, rfl, trivial⟩) | omega | (intro r hr; simp only [List.mem_singleton] at hr; subst hr; rfl)  | ((simp only [List.length_map, List.length_cons] at *; omega)) | ((simp only [in64, maxLen, List.length_cons] at *; omega)) | ((simp only [List.length_append, List.length_cons, List.length_nil, maxLen, errPre, List.length_map] at *; omega)) | ((intro r hr; obtain ⟨t, _, rfl⟩ := List.mem_map.1 hr; rfl)) | (simp only [in64]; omega) | assumption | (simp; done) | (simp [V.cells]; done) | (simp [in64, maxLen, limK] at *; omega) | ((show confB _ _ = true); kernel_rfl) | rfl)))
           | ((with_reducible refine And.intro ?_ ?_); (focus (first | with_reducible rfl | exact trivial | (exact ⟨rfl, trivial⟩) | (exact ⟨rfl, rfl, trivial⟩) | omega | (intro r hr; simp only [List.mem_singleton] at hr; subst hr; rfl)  | ((simp only [List.length_map, List.length_cons] at *; omega)) | ((simp only [in64, maxLen, List.length_cons] at *; omega)) | ((simp only [List.length_append, List.length_cons, List.length_nil, maxLen, errPre, List.length_map] at *; omega)) | ((intro r hr; obtain ⟨t, _, rfl⟩ := List.mem_map.1 hr; rfl)) | (simp only [in64]; omega) | assumption | (simp; done) | (simp [V.cells]; done) | (simp [in64, maxLen, limK] at *; omega) | ((show confB _ _ = true); kernel_rfl) | rfl)))
           | (intro row hrow; (try simp only [Int.toNat_natCast, List.length_map, toNat_pred, toNat_succ', toNat_zero', toNat_one'] at hrow); (first | (have hsm := same_map (by assumption) hrow; subst hsm; clear hrow) | (obtain ⟨p, hp, rfl⟩ := of_map hrow; clear hrow)))
           | (with_reducible refine AW.seq ?_) | (with_reducible refine AW.region base (by kernel_rfl) ?_) | (with_reducible refine AW.cond ?_) | (with_reducible refine AW.block ?_) | (with_reducible refine AW.ret ?_) | (with_reducible refine AW.exit ?_) | (with_reducible refine AW.skip ?_))))
    all_goals (try first | with_reducible assumption | ((show (_ : Int) ≤ _); (first | omega | (simp at *; omega))) | ((show (_ : Nat) ≤ _); (first | omega | (simp at *; omega))) | ((show in64 _); (simp only [in64] at *; (first | omega | (simp at *; omega)))) | ((show (_ : Int) < _); (first | omega | (simp at *; omega))) | ((show ¬ (_ : Int) = _); (first | omega | (simp at *; omega))) | ((with_reducible refine And.intro ?_ ?_) <;> (first | omega | (simp at *; omega))))
    all_goals (first
      | (with_reducible exact absurd rfl (by assumption))
      | ((conv => whnf); (refine ⟨(i + 1, ?_, p :: y), ?_⟩); (rotate_left 1); (refine And.intro ?_ (And.intro ?_ ?_)); (focus (refine ⟨⟨[?_], ?_⟩⟩; rotate_left 1; repeat' (first | (with_reducible rfl) | exact trivial | ((conv => whnf); (first | (with_reducible refine And.intro ?_ ?_) | (first | with_reducible rfl | (refine congrArg V.str ?_; (first | with_reducible rfl | omega | rfl | (simp; done))) | (refine congrArg (V.int _) ?_; (first | with_reducible rfl | omega | rfl | (simp; done))) | (refine congrArg V.bool ?_; (first | with_reducible rfl | omega | rfl | (simp; done))) | (refine congrArg V.sl ?_; (first | with_reducible rfl | omega | rfl | (simp; done))) | (first | with_reducible rfl | omega | rfl | (simp; done)) | rfl)))))); (focus (refine ⟨by omega, ?_, by simp; omega⟩; simp only [List.length_append, List.length_cons, List.length_nil] at *; omega)); (focus (first | omega | (dsimp only; omega) | (simp; done) | (simp; omega) | (simp at *; omega))))
      | ((conv => whnf); (try (first | rfl | (exfalso; simp_all; done) | (exfalso; simp at *; omega))); done))


theorem faultWraps_fn (code : Int) (l : List Bs) (hc : in64 code) (hw : ∀ q, l[0]? = some q → q.length ≤ 140737488351232) : Fn Tryd.prog 11 [.int .i64 code, .sl (l.map encW)] (.bool true) := by
  by_cases h0 : code = 0
  · subst h0; exact faultWraps_z l hw
  · exact faultWraps_nz code l hc h0 hw
end Go.Proofs.YtciiiceloghkmaaDoor
