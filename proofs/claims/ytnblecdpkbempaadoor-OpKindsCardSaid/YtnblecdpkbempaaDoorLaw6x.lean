/-
  A law of ops: each kind has its own parts: walks of some kinds. No conditions.
-/
import Derived.Test.YtnblecdpkbempaaDoorLaw6k
namespace Go.Proofs.YtnblecdpkbempaaDoor
open Go.RowKit
set_option linter.unusedSimpArgs false
set_option linter.unusedVariables false

set_option maxRecDepth 100000 in
set_option maxHeartbeats 4000000 in
theorem opKinds_0 (n : Int) (hn : 0 ≤ n ∧ n ≤ 255) (hj : n % 9 = 0) (key to value version writes : Bool) : Fn Tryd.prog 3 [.int .u8 n, .bool key, .bool to, .bool value, .bool version, .bool writes] (.bool true) := by
  refine Fn.mk' base Tryd.func3 rfl rfl rfl ?_
  cases key <;> cases to <;> cases value <;> cases version <;> cases writes
  all_goals (
    repeat' (first
    | ((with_reducible show AW _ _ _ (Code.seq (Code.region 4 _ _) _) _ _ _); (refine AW.weakS 13 (v := .int .i64 (n % 9)) (v' := .int .i64 0) rfl (fun w R ρ x hx => by rw [← hj]; exact hx) ?_))
    | ((with_reducible show AW _ _ _ (Code.seq (Code.seq (Code.region 5 _ _) _) _) _ _ _); (refine AW.nilC 5002 5 rfl rfl ?_))
        | (with_reducible refine AW.seq ?_) | (with_reducible refine AW.region base (by kernel_rfl) ?_) | (with_reducible refine AW.cond ?_) | (with_reducible refine AW.block ?_) | (with_reducible refine AW.ret ?_) | (with_reducible refine AW.exit ?_) | (with_reducible refine AW.skip ?_)
        | ((conv => whnf); (first
       | ((with_reducible show AW _ _ _ (Code.seq (Code.region 4 _ _) _) _ _ _); (refine AW.weakS 13 (v := .int .i64 (n % 9)) (v' := .int .i64 0) rfl (fun w R ρ x hx => by rw [← hj]; exact hx) ?_))
       | ((with_reducible show AW _ _ _ (Code.seq (Code.seq (Code.region 5 _ _) _) _) _ _ _); (refine AW.nilC 5002 5 rfl rfl ?_))
           | (with_reducible refine Br.t ?_)
           | (with_reducible refine Br.f ?_)
           | (with_reducible refine Br.mkT (fun hb => (by (first | (simp at hb; done) | omega | (simp at hb; omega) | (exact absurd (by simpa using hb) (bytesO_ne _)) | fail))) (fun hb => ?_))
           | (with_reducible refine Br.mkF (fun hb => (by (first | (simp at hb; done) | omega | (simp at hb; omega) | (exact absurd (by simpa using hb) (bytesO_ne _)) | fail))) (fun hb => ?_))
           | ((with_reducible refine Or.inl ?_); (conv => whnf); (with_reducible refine And.intro LitSl.mk ?_))
           | (refine Br.t ?_)
           | (refine Br.f ?_)
           | (with_reducible refine Or.inl ⟨_, known6_fn, ?_⟩)
           | ((with_reducible refine Or.inl ?_); (conv => whnf); (with_reducible refine ⟨_, known6_fn, ?_⟩))
           | (refine Or.inl ⟨_, opIs_fn ⟨_, _, _, _, _, []⟩, ?_⟩)
           | ((with_reducible refine Or.inl ?_); (conv => whnf); (refine ⟨_, opIs_fn ⟨_, _, _, _, _, []⟩, ?_⟩))
           | (refine Or.inl ⟨_, opIs_fn ⟨_, _, _, _, _, [⟨[97], [120], false⟩, ⟨[98], [], true⟩]⟩, ?_⟩)
           | ((with_reducible refine Or.inl ?_); (conv => whnf); (refine ⟨_, opIs_fn ⟨_, _, _, _, _, [⟨[97], [120], false⟩, ⟨[98], [], true⟩]⟩, ?_⟩))
           | (refine Or.inl ⟨_, opWrites_fn ⟨_, _, _, _, _, []⟩, ?_⟩)
           | ((with_reducible refine Or.inl ?_); (conv => whnf); (refine ⟨_, opWrites_fn ⟨_, _, _, _, _, []⟩, ?_⟩))
           | (refine Or.inl ⟨_, opWrites_fn ⟨_, _, _, _, _, [⟨[97], [120], false⟩, ⟨[98], [], true⟩]⟩, ?_⟩)
           | ((with_reducible refine Or.inl ?_); (conv => whnf); (refine ⟨_, opWrites_fn ⟨_, _, _, _, _, [⟨[97], [120], false⟩, ⟨[98], [], true⟩]⟩, ?_⟩))
           | (refine Or.inl ⟨_, opBytes_ok ⟨_, _, _, _, _, []⟩ (by with_unfolding_all rfl), ?_⟩)
           | ((with_reducible refine Or.inl ?_); (conv => whnf); (refine ⟨_, opBytes_ok ⟨_, _, _, _, _, []⟩ (by with_unfolding_all rfl), ?_⟩))
           | (refine Or.inl ⟨_, opBytes_ok ⟨_, _, _, _, _, [⟨[97], [120], false⟩, ⟨[98], [], true⟩]⟩ (by with_unfolding_all rfl), ?_⟩)
           | ((with_reducible refine Or.inl ?_); (conv => whnf); (refine ⟨_, opBytes_ok ⟨_, _, _, _, _, [⟨[97], [120], false⟩, ⟨[98], [], true⟩]⟩ (by with_unfolding_all rfl), ?_⟩))
           | (refine Or.inl ⟨_, opBytes_not ⟨_, _, _, _, _, []⟩ (by with_unfolding_all rfl), ?_⟩)
           | ((with_reducible refine Or.inl ?_); (conv => whnf); (refine ⟨_, opBytes_not ⟨_, _, _, _, _, []⟩ (by with_unfolding_all rfl), ?_⟩))
           | (refine Or.inl ⟨_, opBytes_not ⟨_, _, _, _, _, [⟨[97], [120], false⟩, ⟨[98], [], true⟩]⟩ (by with_unfolding_all rfl), ?_⟩)
           | ((with_reducible refine Or.inl ?_); (conv => whnf); (refine ⟨_, opBytes_not ⟨_, _, _, _, _, [⟨[97], [120], false⟩, ⟨[98], [], true⟩]⟩ (by with_unfolding_all rfl), ?_⟩))
           | (with_reducible refine Br.mk (fun hb => ?_) (fun hb => ?_) <;> (try rw [hb]) <;> (try simp only [List.length_map, decide_eq_true_eq, decide_eq_false_iff_not, Bool.not_eq_true', Bool.not_eq_false', Int.ofNat_lt, Int.ofNat_le, Int.not_lt, Int.not_le, Int.toNat_natCast] at hb))
           | (with_reducible refine ⟨_, (show ByteRows _ _ by first | exact ByteRows.map _ | (repeat (first | exact ByteRows.nil | exact ByteRows.map _ | refine ByteRows.cons ?_ | refine ByteRows.app ?_ ?_))), ?_⟩)
           | ((fail_if_success (with_reducible show ∃ j, Fits _ _ _ _ ∧ _)); (refine Exists.intro _ (And.intro (ByteRows.rep _) ?_)))
           | ((fail_if_success (with_reducible show ∃ j, Fits _ _ _ _ ∧ _)); (refine Exists.intro _ (And.intro (ByteRows.app (ByteRows.map _) (ByteRows.cons ByteRows.nil)) ?_)))
           | ((with_reducible refine Or.inl (And.intro ?_ ?_)); (focus (first | with_reducible rfl | exact trivial | (exact ⟨rfl, trivial⟩) | (exact ⟨rfl, rfl, trivial⟩) | omega | (intro r hr; simp only [List.mem_singleton] at hr; subst hr; rfl)  | ((simp only [in64]; omega)) | ((exact ⟨by omega, by decide⟩)) | (simp only [in64]; omega) | assumption | (simp; done) | (simp [V.cells]; done) | (simp [in64, maxLen, limK] at *; omega) | ((show confB _ _ = true); kernel_rfl) | rfl)))
           | ((with_reducible refine And.intro ?_ ?_); (focus (first | with_reducible rfl | exact trivial | (exact ⟨rfl, trivial⟩) | (exact ⟨rfl, rfl, trivial⟩) | omega | (intro r hr; simp only [List.mem_singleton] at hr; subst hr; rfl)  | ((simp only [in64]; omega)) | ((exact ⟨by omega, by decide⟩)) | (simp only [in64]; omega) | assumption | (simp; done) | (simp [V.cells]; done) | (simp [in64, maxLen, limK] at *; omega) | ((show confB _ _ = true); kernel_rfl) | rfl)))
           | (intro row hrow; (try simp only [Int.toNat_natCast, List.length_map, toNat_pred, toNat_succ', toNat_zero', toNat_one'] at hrow); (first | (have hsm := same_map (by assumption) hrow; subst hsm; clear hrow) | (obtain ⟨p, hp, rfl⟩ := of_map hrow; clear hrow)))
           | (with_reducible refine AW.seq ?_) | (with_reducible refine AW.region base (by kernel_rfl) ?_) | (with_reducible refine AW.cond ?_) | (with_reducible refine AW.block ?_) | (with_reducible refine AW.ret ?_) | (with_reducible refine AW.exit ?_) | (with_reducible refine AW.skip ?_)))))
  all_goals ((conv => whnf); first | done | rfl | (with_unfolding_all rfl))

set_option maxRecDepth 100000 in
set_option maxHeartbeats 4000000 in
theorem opKinds_1 (n : Int) (hn : 0 ≤ n ∧ n ≤ 255) (hj : n % 9 = 1) (key to value version writes : Bool) : Fn Tryd.prog 3 [.int .u8 n, .bool key, .bool to, .bool value, .bool version, .bool writes] (.bool true) := by
  refine Fn.mk' base Tryd.func3 rfl rfl rfl ?_
  cases key <;> cases to <;> cases value <;> cases version <;> cases writes
  all_goals (
    repeat' (first
    | ((with_reducible show AW _ _ _ (Code.seq (Code.region 4 _ _) _) _ _ _); (refine AW.weakS 13 (v := .int .i64 (n % 9)) (v' := .int .i64 1) rfl (fun w R ρ x hx => by rw [← hj]; exact hx) ?_))
    | ((with_reducible show AW _ _ _ (Code.seq (Code.seq (Code.region 5 _ _) _) _) _ _ _); (refine AW.nilC 5002 5 rfl rfl ?_))
        | (with_reducible refine AW.seq ?_) | (with_reducible refine AW.region base (by kernel_rfl) ?_) | (with_reducible refine AW.cond ?_) | (with_reducible refine AW.block ?_) | (with_reducible refine AW.ret ?_) | (with_reducible refine AW.exit ?_) | (with_reducible refine AW.skip ?_)
        | ((conv => whnf); (first
       | ((with_reducible show AW _ _ _ (Code.seq (Code.region 4 _ _) _) _ _ _); (refine AW.weakS 13 (v := .int .i64 (n % 9)) (v' := .int .i64 1) rfl (fun w R ρ x hx => by rw [← hj]; exact hx) ?_))
       | ((with_reducible show AW _ _ _ (Code.seq (Code.seq (Code.region 5 _ _) _) _) _ _ _); (refine AW.nilC 5002 5 rfl rfl ?_))
           | (with_reducible refine Br.t ?_)
           | (with_reducible refine Br.f ?_)
           | (with_reducible refine Br.mkT (fun hb => (by (first | (simp at hb; done) | omega | (simp at hb; omega) | (exact absurd (by simpa using hb) (bytesO_ne _)) | fail))) (fun hb => ?_))
           | (with_reducible refine Br.mkF (fun hb => (by (first | (simp at hb; done) | omega | (simp at hb; omega) | (exact absurd (by simpa using hb) (bytesO_ne _)) | fail))) (fun hb => ?_))
           | ((with_reducible refine Or.inl ?_); (conv => whnf); (with_reducible refine And.intro LitSl.mk ?_))
           | (refine Br.t ?_)
           | (refine Br.f ?_)
           | (with_reducible refine Or.inl ⟨_, known6_fn, ?_⟩)
           | ((with_reducible refine Or.inl ?_); (conv => whnf); (with_reducible refine ⟨_, known6_fn, ?_⟩))
           | (refine Or.inl ⟨_, opIs_fn ⟨_, _, _, _, _, []⟩, ?_⟩)
           | ((with_reducible refine Or.inl ?_); (conv => whnf); (refine ⟨_, opIs_fn ⟨_, _, _, _, _, []⟩, ?_⟩))
           | (refine Or.inl ⟨_, opIs_fn ⟨_, _, _, _, _, [⟨[97], [120], false⟩, ⟨[98], [], true⟩]⟩, ?_⟩)
           | ((with_reducible refine Or.inl ?_); (conv => whnf); (refine ⟨_, opIs_fn ⟨_, _, _, _, _, [⟨[97], [120], false⟩, ⟨[98], [], true⟩]⟩, ?_⟩))
           | (refine Or.inl ⟨_, opWrites_fn ⟨_, _, _, _, _, []⟩, ?_⟩)
           | ((with_reducible refine Or.inl ?_); (conv => whnf); (refine ⟨_, opWrites_fn ⟨_, _, _, _, _, []⟩, ?_⟩))
           | (refine Or.inl ⟨_, opWrites_fn ⟨_, _, _, _, _, [⟨[97], [120], false⟩, ⟨[98], [], true⟩]⟩, ?_⟩)
           | ((with_reducible refine Or.inl ?_); (conv => whnf); (refine ⟨_, opWrites_fn ⟨_, _, _, _, _, [⟨[97], [120], false⟩, ⟨[98], [], true⟩]⟩, ?_⟩))
           | (refine Or.inl ⟨_, opBytes_ok ⟨_, _, _, _, _, []⟩ (by with_unfolding_all rfl), ?_⟩)
           | ((with_reducible refine Or.inl ?_); (conv => whnf); (refine ⟨_, opBytes_ok ⟨_, _, _, _, _, []⟩ (by with_unfolding_all rfl), ?_⟩))
           | (refine Or.inl ⟨_, opBytes_ok ⟨_, _, _, _, _, [⟨[97], [120], false⟩, ⟨[98], [], true⟩]⟩ (by with_unfolding_all rfl), ?_⟩)
           | ((with_reducible refine Or.inl ?_); (conv => whnf); (refine ⟨_, opBytes_ok ⟨_, _, _, _, _, [⟨[97], [120], false⟩, ⟨[98], [], true⟩]⟩ (by with_unfolding_all rfl), ?_⟩))
           | (refine Or.inl ⟨_, opBytes_not ⟨_, _, _, _, _, []⟩ (by with_unfolding_all rfl), ?_⟩)
           | ((with_reducible refine Or.inl ?_); (conv => whnf); (refine ⟨_, opBytes_not ⟨_, _, _, _, _, []⟩ (by with_unfolding_all rfl), ?_⟩))
           | (refine Or.inl ⟨_, opBytes_not ⟨_, _, _, _, _, [⟨[97], [120], false⟩, ⟨[98], [], true⟩]⟩ (by with_unfolding_all rfl), ?_⟩)
           | ((with_reducible refine Or.inl ?_); (conv => whnf); (refine ⟨_, opBytes_not ⟨_, _, _, _, _, [⟨[97], [120], false⟩, ⟨[98], [], true⟩]⟩ (by with_unfolding_all rfl), ?_⟩))
           | (with_reducible refine Br.mk (fun hb => ?_) (fun hb => ?_) <;> (try rw [hb]) <;> (try simp only [List.length_map, decide_eq_true_eq, decide_eq_false_iff_not, Bool.not_eq_true', Bool.not_eq_false', Int.ofNat_lt, Int.ofNat_le, Int.not_lt, Int.not_le, Int.toNat_natCast] at hb))
           | (with_reducible refine ⟨_, (show ByteRows _ _ by first | exact ByteRows.map _ | (repeat (first | exact ByteRows.nil | exact ByteRows.map _ | refine ByteRows.cons ?_ | refine ByteRows.app ?_ ?_))), ?_⟩)
           | ((fail_if_success (with_reducible show ∃ j, Fits _ _ _ _ ∧ _)); (refine Exists.intro _ (And.intro (ByteRows.rep _) ?_)))
           | ((fail_if_success (with_reducible show ∃ j, Fits _ _ _ _ ∧ _)); (refine Exists.intro _ (And.intro (ByteRows.app (ByteRows.map _) (ByteRows.cons ByteRows.nil)) ?_)))
           | ((with_reducible refine Or.inl (And.intro ?_ ?_)); (focus (first | with_reducible rfl | exact trivial | (exact ⟨rfl, trivial⟩) | (exact ⟨rfl, rfl, trivial⟩) | omega | (intro r hr; simp only [List.mem_singleton] at hr; subst hr; rfl)  | ((simp only [in64]; omega)) | ((exact ⟨by omega, by decide⟩)) | (simp only [in64]; omega) | assumption | (simp; done) | (simp [V.cells]; done) | (simp [in64, maxLen, limK] at *; omega) | ((show confB _ _ = true); kernel_rfl) | rfl)))
           | ((with_reducible refine And.intro ?_ ?_); (focus (first | with_reducible rfl | exact trivial | (exact ⟨rfl, trivial⟩) | (exact ⟨rfl, rfl, trivial⟩) | omega | (intro r hr; simp only [List.mem_singleton] at hr; subst hr; rfl)  | ((simp only [in64]; omega)) | ((exact ⟨by omega, by decide⟩)) | (simp only [in64]; omega) | assumption | (simp; done) | (simp [V.cells]; done) | (simp [in64, maxLen, limK] at *; omega) | ((show confB _ _ = true); kernel_rfl) | rfl)))
           | (intro row hrow; (try simp only [Int.toNat_natCast, List.length_map, toNat_pred, toNat_succ', toNat_zero', toNat_one'] at hrow); (first | (have hsm := same_map (by assumption) hrow; subst hsm; clear hrow) | (obtain ⟨p, hp, rfl⟩ := of_map hrow; clear hrow)))
           | (with_reducible refine AW.seq ?_) | (with_reducible refine AW.region base (by kernel_rfl) ?_) | (with_reducible refine AW.cond ?_) | (with_reducible refine AW.block ?_) | (with_reducible refine AW.ret ?_) | (with_reducible refine AW.exit ?_) | (with_reducible refine AW.skip ?_)))))
  all_goals ((conv => whnf); first | done | rfl | (with_unfolding_all rfl))

set_option maxRecDepth 100000 in
set_option maxHeartbeats 4000000 in
theorem opKinds_2 (n : Int) (hn : 0 ≤ n ∧ n ≤ 255) (hj : n % 9 = 2) (key to value version writes : Bool) : Fn Tryd.prog 3 [.int .u8 n, .bool key, .bool to, .bool value, .bool version, .bool writes] (.bool true) := by
  refine Fn.mk' base Tryd.func3 rfl rfl rfl ?_
  cases key <;> cases to <;> cases value <;> cases version <;> cases writes
  all_goals (
    repeat' (first
    | ((with_reducible show AW _ _ _ (Code.seq (Code.region 4 _ _) _) _ _ _); (refine AW.weakS 13 (v := .int .i64 (n % 9)) (v' := .int .i64 2) rfl (fun w R ρ x hx => by rw [← hj]; exact hx) ?_))
    | ((with_reducible show AW _ _ _ (Code.seq (Code.seq (Code.region 5 _ _) _) _) _ _ _); (refine AW.nilC 5002 5 rfl rfl ?_))
        | (with_reducible refine AW.seq ?_) | (with_reducible refine AW.region base (by kernel_rfl) ?_) | (with_reducible refine AW.cond ?_) | (with_reducible refine AW.block ?_) | (with_reducible refine AW.ret ?_) | (with_reducible refine AW.exit ?_) | (with_reducible refine AW.skip ?_)
        | ((conv => whnf); (first
       | ((with_reducible show AW _ _ _ (Code.seq (Code.region 4 _ _) _) _ _ _); (refine AW.weakS 13 (v := .int .i64 (n % 9)) (v' := .int .i64 2) rfl (fun w R ρ x hx => by rw [← hj]; exact hx) ?_))
       | ((with_reducible show AW _ _ _ (Code.seq (Code.seq (Code.region 5 _ _) _) _) _ _ _); (refine AW.nilC 5002 5 rfl rfl ?_))
           | (with_reducible refine Br.t ?_)
           | (with_reducible refine Br.f ?_)
           | (with_reducible refine Br.mkT (fun hb => (by (first | (simp at hb; done) | omega | (simp at hb; omega) | (exact absurd (by simpa using hb) (bytesO_ne _)) | fail))) (fun hb => ?_))
           | (with_reducible refine Br.mkF (fun hb => (by (first | (simp at hb; done) | omega | (simp at hb; omega) | (exact absurd (by simpa using hb) (bytesO_ne _)) | fail))) (fun hb => ?_))
           | ((with_reducible refine Or.inl ?_); (conv => whnf); (with_reducible refine And.intro LitSl.mk ?_))
           | (refine Br.t ?_)
           | (refine Br.f ?_)
           | (with_reducible refine Or.inl ⟨_, known6_fn, ?_⟩)
           | ((with_reducible refine Or.inl ?_); (conv => whnf); (with_reducible refine ⟨_, known6_fn, ?_⟩))
           | (refine Or.inl ⟨_, opIs_fn ⟨_, _, _, _, _, []⟩, ?_⟩)
           | ((with_reducible refine Or.inl ?_); (conv => whnf); (refine ⟨_, opIs_fn ⟨_, _, _, _, _, []⟩, ?_⟩))
           | (refine Or.inl ⟨_, opIs_fn ⟨_, _, _, _, _, [⟨[97], [120], false⟩, ⟨[98], [], true⟩]⟩, ?_⟩)
           | ((with_reducible refine Or.inl ?_); (conv => whnf); (refine ⟨_, opIs_fn ⟨_, _, _, _, _, [⟨[97], [120], false⟩, ⟨[98], [], true⟩]⟩, ?_⟩))
           | (refine Or.inl ⟨_, opWrites_fn ⟨_, _, _, _, _, []⟩, ?_⟩)
           | ((with_reducible refine Or.inl ?_); (conv => whnf); (refine ⟨_, opWrites_fn ⟨_, _, _, _, _, []⟩, ?_⟩))
           | (refine Or.inl ⟨_, opWrites_fn ⟨_, _, _, _, _, [⟨[97], [120], false⟩, ⟨[98], [], true⟩]⟩, ?_⟩)
           | ((with_reducible refine Or.inl ?_); (conv => whnf); (refine ⟨_, opWrites_fn ⟨_, _, _, _, _, [⟨[97], [120], false⟩, ⟨[98], [], true⟩]⟩, ?_⟩))
           | (refine Or.inl ⟨_, opBytes_ok ⟨_, _, _, _, _, []⟩ (by with_unfolding_all rfl), ?_⟩)
           | ((with_reducible refine Or.inl ?_); (conv => whnf); (refine ⟨_, opBytes_ok ⟨_, _, _, _, _, []⟩ (by with_unfolding_all rfl), ?_⟩))
           | (refine Or.inl ⟨_, opBytes_ok ⟨_, _, _, _, _, [⟨[97], [120], false⟩, ⟨[98], [], true⟩]⟩ (by with_unfolding_all rfl), ?_⟩)
           | ((with_reducible refine Or.inl ?_); (conv => whnf); (refine ⟨_, opBytes_ok ⟨_, _, _, _, _, [⟨[97], [120], false⟩, ⟨[98], [], true⟩]⟩ (by with_unfolding_all rfl), ?_⟩))
           | (refine Or.inl ⟨_, opBytes_not ⟨_, _, _, _, _, []⟩ (by with_unfolding_all rfl), ?_⟩)
           | ((with_reducible refine Or.inl ?_); (conv => whnf); (refine ⟨_, opBytes_not ⟨_, _, _, _, _, []⟩ (by with_unfolding_all rfl), ?_⟩))
           | (refine Or.inl ⟨_, opBytes_not ⟨_, _, _, _, _, [⟨[97], [120], false⟩, ⟨[98], [], true⟩]⟩ (by with_unfolding_all rfl), ?_⟩)
           | ((with_reducible refine Or.inl ?_); (conv => whnf); (refine ⟨_, opBytes_not ⟨_, _, _, _, _, [⟨[97], [120], false⟩, ⟨[98], [], true⟩]⟩ (by with_unfolding_all rfl), ?_⟩))
           | (with_reducible refine Br.mk (fun hb => ?_) (fun hb => ?_) <;> (try rw [hb]) <;> (try simp only [List.length_map, decide_eq_true_eq, decide_eq_false_iff_not, Bool.not_eq_true', Bool.not_eq_false', Int.ofNat_lt, Int.ofNat_le, Int.not_lt, Int.not_le, Int.toNat_natCast] at hb))
           | (with_reducible refine ⟨_, (show ByteRows _ _ by first | exact ByteRows.map _ | (repeat (first | exact ByteRows.nil | exact ByteRows.map _ | refine ByteRows.cons ?_ | refine ByteRows.app ?_ ?_))), ?_⟩)
           | ((fail_if_success (with_reducible show ∃ j, Fits _ _ _ _ ∧ _)); (refine Exists.intro _ (And.intro (ByteRows.rep _) ?_)))
           | ((fail_if_success (with_reducible show ∃ j, Fits _ _ _ _ ∧ _)); (refine Exists.intro _ (And.intro (ByteRows.app (ByteRows.map _) (ByteRows.cons ByteRows.nil)) ?_)))
           | ((with_reducible refine Or.inl (And.intro ?_ ?_)); (focus (first | with_reducible rfl | exact trivial | (exact ⟨rfl, trivial⟩) | (exact ⟨rfl, rfl, trivial⟩) | omega | (intro r hr; simp only [List.mem_singleton] at hr; subst hr; rfl)  | ((simp only [in64]; omega)) | ((exact ⟨by omega, by decide⟩)) | (simp only [in64]; omega) | assumption | (simp; done) | (simp [V.cells]; done) | (simp [in64, maxLen, limK] at *; omega) | ((show confB _ _ = true); kernel_rfl) | rfl)))
           | ((with_reducible refine And.intro ?_ ?_); (focus (first | with_reducible rfl | exact trivial | (exact ⟨rfl, trivial⟩) | (exact ⟨rfl, rfl, trivial⟩) | omega | (intro r hr; simp only [List.mem_singleton] at hr; subst hr; rfl)  | ((simp only [in64]; omega)) | ((exact ⟨by omega, by decide⟩)) | (simp only [in64]; omega) | assumption | (simp; done) | (simp [V.cells]; done) | (simp [in64, maxLen, limK] at *; omega) | ((show confB _ _ = true); kernel_rfl) | rfl)))
           | (intro row hrow; (try simp only [Int.toNat_natCast, List.length_map, toNat_pred, toNat_succ', toNat_zero', toNat_one'] at hrow); (first | (have hsm := same_map (by assumption) hrow; subst hsm; clear hrow) | (obtain ⟨p, hp, rfl⟩ := of_map hrow; clear hrow)))
           | (with_reducible refine AW.seq ?_) | (with_reducible refine AW.region base (by kernel_rfl) ?_) | (with_reducible refine AW.cond ?_) | (with_reducible refine AW.block ?_) | (with_reducible refine AW.ret ?_) | (with_reducible refine AW.exit ?_) | (with_reducible refine AW.skip ?_)))))
  all_goals ((conv => whnf); first | done | rfl | (with_unfolding_all rfl))
end Go.Proofs.YtnblecdpkbempaaDoor
