/-
  The laws of values as bytes: their walks. No conditions.
-/
import Derived.Test.YtciiiceloghkmaaDoorPack
namespace Go.Proofs.YtciiiceloghkmaaDoor
open Go.RowKit
set_option linter.unusedSimpArgs false
set_option linter.unusedVariables false
theorem modlt (c : Int) (L : Nat) (h : 0 < L) : (c % (L : Int)).toNat < L := by
  have h1 := Int.emod_nonneg c (b := (L : Int)) (by omega)
  have h2 := Int.emod_lt_of_pos c (b := (L : Int)) (by omega)
  omega
theorem modle (c : Int) (L : Nat) (h : 0 < L) : 0 ≤ c % (L : Int) ∧ c % (L : Int) ≤ L := ⟨Int.emod_nonneg c (by omega), Int.le_of_lt (Int.emod_lt_of_pos c (by omega))⟩
theorem num_pos (k : Nat) : 0 < (num k).length := List.length_pos_iff.2 (num_ne k)
theorem text_pos (s : Bs) : 0 < (text s).length := by rw [text_len]; have := num_pos s.length; omega
theorem num64 : num (64 : Int).toNat = [64, 1] := by rw [show (64 : Int).toNat = 64 from rfl, num_hi (by omega), num_lo (by omega)]; rfl
theorem num_len8 (k : Nat) (h : k < 281474976710656) : (num k).length ≤ 8 := num_len 7 k (by omega)
theorem text_len8 (s : Bs) (h : s.length ≤ 1000000) : (text s).length ≤ 8 + s.length := by rw [text_len]; have := num_len8 s.length (by omega); omega

theorem take_nil : Fn Tryd.prog 16 [.str []] (.tup [.int .i64 0, .str [], errV [[112, 97, 99, 107]] 11]) := take_short' [] (fun j hj => by simp at hj) (by simp)

set_option maxRecDepth 100000 in
set_option maxHeartbeats 400000 in
theorem known4_fn  : Fn Tryd.prog 13 [] (.bool true) := by
  refine Fn.mk' base Tryd.func13 rfl rfl rfl ?_
  repeat' (first
      | (with_reducible refine AW.seq ?_) | (with_reducible refine AW.region base (by kernel_rfl) ?_) | (with_reducible refine AW.cond ?_) | (with_reducible refine AW.block ?_) | (with_reducible refine AW.ret ?_) | (with_reducible refine AW.exit ?_) | (with_reducible refine AW.skip ?_)
      | ((conv => whnf); (first
         | (with_reducible refine Br.t ?_)
         | (with_reducible refine Br.f ?_)
         | (refine Br.t ?_)
         | (refine Br.f ?_)
         | (with_reducible refine Br.mk (fun hb => ?_) (fun hb => (by exfalso; simp only [decide_eq_true_eq, decide_eq_false_iff_not, Bool.not_eq_true', Bool.not_eq_false'] at hb; (first | omega | (simp at hb; done) | (simp at hb; omega) | exact hb (congrArg num (by omega)) | exact hb num64))))
         | (with_reducible refine Br.mk (fun hb => (by exfalso; simp only [decide_eq_true_eq, decide_eq_false_iff_not] at hb; (first | omega | (simp at hb; done) | (simp at hb; omega) | exact hb (congrArg num (by omega)) | exact hb num64))) (fun hb => ?_))
         | (with_reducible refine Or.inl ⟨_, take_nil, ?_⟩)
         | ((with_reducible refine Or.inl ?_); (conv => whnf); (with_reducible refine ⟨_, take_nil, ?_⟩))
         | (with_reducible refine Or.inl ⟨_, num_fn _ (by decide), ?_⟩)
         | ((with_reducible refine Or.inl ?_); (conv => whnf); (with_reducible refine ⟨_, num_fn _ (by decide), ?_⟩))
         | (with_reducible refine Or.inl ⟨_, text_fn _ (by decide), ?_⟩)
         | ((with_reducible refine Or.inl ?_); (conv => whnf); (with_reducible refine ⟨_, text_fn _ (by decide), ?_⟩))
         | (with_reducible refine Or.inl ⟨_, take_ok _ _ (by decide), ?_⟩)
         | ((with_reducible refine Or.inl ?_); (conv => whnf); (with_reducible refine ⟨_, take_ok _ _ (by decide), ?_⟩))
         | (with_reducible refine Or.inl ⟨_, takeText_ok _ _ _ (by decide) (by decide), ?_⟩)
         | ((with_reducible refine Or.inl ?_); (conv => whnf); (with_reducible refine ⟨_, takeText_ok _ _ _ (by decide) (by decide), ?_⟩))
         | (with_reducible refine Or.inl ⟨_, takeText_large _ _ (by decide) (by decide), ?_⟩)
         | ((with_reducible refine Or.inl ?_); (conv => whnf); (with_reducible refine ⟨_, takeText_large _ _ (by decide) (by decide), ?_⟩))
         | (with_reducible refine Or.inl ⟨_, flag_fn, ?_⟩)
         | ((with_reducible refine Or.inl ?_); (conv => whnf); (with_reducible refine ⟨_, flag_fn, ?_⟩))
         | (with_reducible refine Or.inl ⟨_, takeFlag_ok, ?_⟩)
         | ((with_reducible refine Or.inl ?_); (conv => whnf); (with_reducible refine ⟨_, takeFlag_ok, ?_⟩))
         | (with_reducible refine Or.inl ⟨_, takeFlag_bad, ?_⟩)
         | ((with_reducible refine Or.inl ?_); (conv => whnf); (with_reducible refine ⟨_, takeFlag_bad, ?_⟩))
         | (refine Or.inl ⟨_, fis_fn [[112, 97, 99, 107]] 11 _, ?_⟩)
         | ((with_reducible refine Or.inl ?_); (conv => whnf); (refine ⟨_, fis_fn [[112, 97, 99, 107]] 11 _, ?_⟩))
         | (with_reducible refine Or.inl ⟨_, fis_ok _, ?_⟩)
         | ((with_reducible refine Or.inl ?_); (conv => whnf); (with_reducible refine ⟨_, fis_ok _, ?_⟩))
         | (refine Or.inl ⟨_, code_fn [[112, 97, 99, 107]] 11, ?_⟩)
         | ((with_reducible refine Or.inl ?_); (conv => whnf); (refine ⟨_, code_fn [[112, 97, 99, 107]] 11, ?_⟩))
         | (refine Or.inl ⟨_, code_fn [[112, 97, 99, 107]] 13, ?_⟩)
         | ((with_reducible refine Or.inl ?_); (conv => whnf); (refine ⟨_, code_fn [[112, 97, 99, 107]] 13, ?_⟩))
         | (refine Or.inl ⟨_, code_fn [[112, 97, 99, 107]] 10, ?_⟩)
         | ((with_reducible refine Or.inl ?_); (conv => whnf); (refine ⟨_, code_fn [[112, 97, 99, 107]] 10, ?_⟩))
         | (with_reducible refine Br.mk (fun hb => ?_) (fun hb => ?_) <;> (try rw [hb]) <;> (try simp only [List.length_map, decide_eq_true_eq, decide_eq_false_iff_not, Bool.not_eq_true', Bool.not_eq_false', Int.ofNat_lt, Int.ofNat_le, Int.not_lt, Int.not_le, Int.toNat_natCast] at hb))
         | (with_reducible refine ⟨_, (by first | exact ByteRows.map _ | (repeat (first | exact ByteRows.nil | exact ByteRows.map _ | refine ByteRows.cons ?_ | refine ByteRows.app ?_ ?_))), ?_⟩)
         | (refine Exists.intro _ (And.intro (ByteRows.rep _) ?_))
         | (refine Exists.intro _ (And.intro (ByteRows.app (ByteRows.map _) (ByteRows.cons ByteRows.nil)) ?_))
         | ((with_reducible refine And.intro ?_ ?_); (focus (first | with_reducible rfl | exact trivial | (exact ⟨rfl, trivial⟩) | (exact ⟨rfl, rfl, trivial⟩) | omega | (intro r hr; simp only [List.mem_singleton] at hr; subst hr; rfl)  | ((exact Nat.le_trans (Nat.add_le_add_right (num_len8 (64 : Int).toNat (by decide)) _) (by decide))) | ((exact Nat.le_trans (Nat.add_le_add_right (text_len8 [97, 98] (by decide)) _) (by decide))) | (simp only [in64]; omega) | assumption | (simp; done) | (simp [V.cells]; done) | (simp [in64, maxLen, limK] at *; omega) | ((show confB _ _ = true); kernel_rfl) | rfl)))
         | (intro row hrow; (try simp only [Int.toNat_natCast, List.length_map, toNat_pred, toNat_succ', toNat_zero', toNat_one'] at hrow); (first | (have hsm := same_map (by assumption) hrow; subst hsm; clear hrow) | (obtain ⟨p, hp, rfl⟩ := of_map hrow; clear hrow)))
         | (with_reducible refine AW.seq ?_) | (with_reducible refine AW.region base (by kernel_rfl) ?_) | (with_reducible refine AW.cond ?_) | (with_reducible refine AW.block ?_) | (with_reducible refine AW.ret ?_) | (with_reducible refine AW.exit ?_) | (with_reducible refine AW.skip ?_))))
  all_goals (conv => whnf)
  all_goals (first | rfl | (simp only [V.bool.injEq, V.tup.injEq, V.agg.injEq, V.str.injEq, V.int.injEq, V.sl.injEq, V.ifc.injEq, List.cons.injEq, and_true, true_and, and_self]; done) | (simp only [V.bool.injEq, V.tup.injEq, V.agg.injEq, V.str.injEq, V.int.injEq, V.sl.injEq, V.ifc.injEq, List.cons.injEq, and_true, true_and, and_self]; grind) | (simp  at *; done) | (simp  at *; grind) | (exact congrArg V.bool (decide_eq_true num64)) | (exact absurd num64 hb))

set_option maxRecDepth 100000 in
set_option maxHeartbeats 400000 in
theorem packBack_fn0 (n : Int) (s more : Bs) (c : Int) (hn : 0 ≤ n ∧ n ≤ 18446744073709551615) (hc : 0 ≤ c ∧ c ≤ 255) (hs : s.length ≤ 300) : Fn Tryd.prog 4 [.int .u64 n, .str s, .str more, .int .u8 c] (.bool true) := by
  refine Fn.mk' base Tryd.func4 rfl rfl rfl ?_
  have hk0 : 0 ≤ n / 2 ^ (17 : Int).toNat ∧ n / 2 ^ (17 : Int).toNat < 281474976710656 := by rw [show (2 : Int) ^ (17 : Int).toNat = 131072 from rfl]; omega
  have hp1 := num_pos (n / 2 ^ (17 : Int).toNat).toNat
  have hp2 := text_pos s
  have hp3 := num_len8 (n / 2 ^ (17 : Int).toNat).toNat (by omega)
  have hp4 := text_len8 s (by omega)
  repeat' (first
      | (with_reducible refine AW.seq ?_) | (with_reducible refine AW.region base (by kernel_rfl) ?_) | (with_reducible refine AW.cond ?_) | (with_reducible refine AW.block ?_) | (with_reducible refine AW.ret ?_) | (with_reducible refine AW.exit ?_) | (with_reducible refine AW.skip ?_)
      | ((conv => whnf); (first
         | (with_reducible refine Br.t ?_)
         | (with_reducible refine Br.f ?_)
         | (refine Br.t ?_)
         | (refine Br.f ?_)
         | (with_reducible refine Br.mk (fun hb => ?_) (fun hb => (by exfalso; simp only [decide_eq_true_eq, decide_eq_false_iff_not, Bool.not_eq_true', Bool.not_eq_false'] at hb; (first | omega | (simp at hb; done) | (simp at hb; omega) | exact hb (congrArg num (by omega)) | exact hb num64))))
         | (with_reducible refine Br.mk (fun hb => (by exfalso; simp only [decide_eq_true_eq, decide_eq_false_iff_not] at hb; (first | omega | (simp at hb; done) | (simp at hb; omega) | exact hb (congrArg num (by omega)) | exact hb num64))) (fun hb => ?_))
         | (with_reducible refine Or.inl ⟨_, known4_fn, ?_⟩)
         | ((with_reducible refine Or.inl ?_); (conv => whnf); (with_reducible refine ⟨_, known4_fn, ?_⟩))
         | (with_reducible refine Or.inl ⟨_, num_fn _ (by first | assumption | omega | decide | exact modlt _ _ (num_pos _) | exact modlt _ _ (text_pos _) | (simp; done) | (simp at *; omega)), ?_⟩)
         | ((with_reducible refine Or.inl ?_); (conv => whnf); (with_reducible refine ⟨_, num_fn _ (by first | assumption | omega | decide | exact modlt _ _ (num_pos _) | exact modlt _ _ (text_pos _) | (simp; done) | (simp at *; omega)), ?_⟩))
         | (with_reducible refine Or.inl ⟨_, text_fn _ (by first | assumption | omega | decide | exact modlt _ _ (num_pos _) | exact modlt _ _ (text_pos _) | (simp; done) | (simp at *; omega)), ?_⟩)
         | ((with_reducible refine Or.inl ?_); (conv => whnf); (with_reducible refine ⟨_, text_fn _ (by first | assumption | omega | decide | exact modlt _ _ (num_pos _) | exact modlt _ _ (text_pos _) | (simp; done) | (simp at *; omega)), ?_⟩))
         | (with_reducible refine Or.inl ⟨_, take_ok _ _ (by first | assumption | omega | decide | exact modlt _ _ (num_pos _) | exact modlt _ _ (text_pos _) | (simp; done) | (simp at *; omega)), ?_⟩)
         | ((with_reducible refine Or.inl ?_); (conv => whnf); (with_reducible refine ⟨_, take_ok _ _ (by first | assumption | omega | decide | exact modlt _ _ (num_pos _) | exact modlt _ _ (text_pos _) | (simp; done) | (simp at *; omega)), ?_⟩))
         | (with_reducible refine Or.inl ⟨_, take_cut _ _ (by first | assumption | omega | decide | exact modlt _ _ (num_pos _) | exact modlt _ _ (text_pos _) | (simp; done) | (simp at *; omega)) (by first | assumption | omega | decide | exact modlt _ _ (num_pos _) | exact modlt _ _ (text_pos _) | (simp; done) | (simp at *; omega)), ?_⟩)
         | ((with_reducible refine Or.inl ?_); (conv => whnf); (with_reducible refine ⟨_, take_cut _ _ (by first | assumption | omega | decide | exact modlt _ _ (num_pos _) | exact modlt _ _ (text_pos _) | (simp; done) | (simp at *; omega)) (by first | assumption | omega | decide | exact modlt _ _ (num_pos _) | exact modlt _ _ (text_pos _) | (simp; done) | (simp at *; omega)), ?_⟩))
         | (with_reducible refine Or.inl ⟨_, takeText_ok _ _ _ (by first | assumption | omega | decide | exact modlt _ _ (num_pos _) | exact modlt _ _ (text_pos _) | (simp; done) | (simp at *; omega)) (by first | assumption | omega | decide | exact modlt _ _ (num_pos _) | exact modlt _ _ (text_pos _) | (simp; done) | (simp at *; omega)), ?_⟩)
         | ((with_reducible refine Or.inl ?_); (conv => whnf); (with_reducible refine ⟨_, takeText_ok _ _ _ (by first | assumption | omega | decide | exact modlt _ _ (num_pos _) | exact modlt _ _ (text_pos _) | (simp; done) | (simp at *; omega)) (by first | assumption | omega | decide | exact modlt _ _ (num_pos _) | exact modlt _ _ (text_pos _) | (simp; done) | (simp at *; omega)), ?_⟩))
         | (with_reducible refine Or.inl ⟨_, takeText_cut _ _ _ (by first | assumption | omega | decide | exact modlt _ _ (num_pos _) | exact modlt _ _ (text_pos _) | (simp; done) | (simp at *; omega)) (by first | assumption | omega | decide | exact modlt _ _ (num_pos _) | exact modlt _ _ (text_pos _) | (simp; done) | (simp at *; omega)) (by first | assumption | omega | decide | exact modlt _ _ (num_pos _) | exact modlt _ _ (text_pos _) | (simp; done) | (simp at *; omega)), ?_⟩)
         | ((with_reducible refine Or.inl ?_); (conv => whnf); (with_reducible refine ⟨_, takeText_cut _ _ _ (by first | assumption | omega | decide | exact modlt _ _ (num_pos _) | exact modlt _ _ (text_pos _) | (simp; done) | (simp at *; omega)) (by first | assumption | omega | decide | exact modlt _ _ (num_pos _) | exact modlt _ _ (text_pos _) | (simp; done) | (simp at *; omega)) (by first | assumption | omega | decide | exact modlt _ _ (num_pos _) | exact modlt _ _ (text_pos _) | (simp; done) | (simp at *; omega)), ?_⟩))
         | (refine Or.inl ⟨_, fis_fn [[112, 97, 99, 107]] 11 _, ?_⟩)
         | ((with_reducible refine Or.inl ?_); (conv => whnf); (refine ⟨_, fis_fn [[112, 97, 99, 107]] 11 _, ?_⟩))
         | (with_reducible refine Or.inl ⟨_, fis_ok _, ?_⟩)
         | ((with_reducible refine Or.inl ?_); (conv => whnf); (with_reducible refine ⟨_, fis_ok _, ?_⟩))
         | (refine Or.inl ⟨_, code_fn [[112, 97, 99, 107]] 11, ?_⟩)
         | ((with_reducible refine Or.inl ?_); (conv => whnf); (refine ⟨_, code_fn [[112, 97, 99, 107]] 11, ?_⟩))
         | (refine Or.inl ⟨_, code_fn [[112, 97, 99, 107]] 13, ?_⟩)
         | ((with_reducible refine Or.inl ?_); (conv => whnf); (refine ⟨_, code_fn [[112, 97, 99, 107]] 13, ?_⟩))
         | (refine Or.inl ⟨_, code_fn [[112, 97, 99, 107]] 10, ?_⟩)
         | ((with_reducible refine Or.inl ?_); (conv => whnf); (refine ⟨_, code_fn [[112, 97, 99, 107]] 10, ?_⟩))
         | (with_reducible refine Br.mk (fun hb => ?_) (fun hb => ?_) <;> (try rw [hb]) <;> (try simp only [List.length_map, decide_eq_true_eq, decide_eq_false_iff_not, Bool.not_eq_true', Bool.not_eq_false', Int.ofNat_lt, Int.ofNat_le, Int.not_lt, Int.not_le, Int.toNat_natCast] at hb))
         | (with_reducible refine ⟨_, (by first | exact ByteRows.map _ | (repeat (first | exact ByteRows.nil | exact ByteRows.map _ | refine ByteRows.cons ?_ | refine ByteRows.app ?_ ?_))), ?_⟩)
         | (refine Exists.intro _ (And.intro (ByteRows.rep _) ?_))
         | (refine Exists.intro _ (And.intro (ByteRows.app (ByteRows.map _) (ByteRows.cons ByteRows.nil)) ?_))
         | ((with_reducible refine And.intro ?_ ?_); (focus (first | with_reducible rfl | exact trivial | (exact ⟨rfl, trivial⟩) | (exact ⟨rfl, rfl, trivial⟩) | omega | (intro r hr; simp only [List.mem_singleton] at hr; subst hr; rfl)  | ((exact ⟨by omega, by decide, by decide⟩)) | ((simp only [in64] at *; omega)) | ((exact ⟨by omega, Int.natCast_pos.2 (num_pos _)⟩)) | ((exact ⟨by omega, Int.natCast_pos.2 (text_pos _)⟩)) | ((exact modle _ _ (num_pos _))) | ((exact modle _ _ (text_pos _))) | ((simp only [List.length_append, maxLen] at *; omega)) | (simp only [in64]; omega) | assumption | (simp; done) | (simp [V.cells]; done) | (simp [in64, maxLen, limK] at *; omega) | ((show confB _ _ = true); kernel_rfl) | rfl)))
         | (intro row hrow; (try simp only [Int.toNat_natCast, List.length_map, toNat_pred, toNat_succ', toNat_zero', toNat_one'] at hrow); (first | (have hsm := same_map (by assumption) hrow; subst hsm; clear hrow) | (obtain ⟨p, hp, rfl⟩ := of_map hrow; clear hrow)))
         | (with_reducible refine AW.seq ?_) | (with_reducible refine AW.region base (by kernel_rfl) ?_) | (with_reducible refine AW.cond ?_) | (with_reducible refine AW.block ?_) | (with_reducible refine AW.ret ?_) | (with_reducible refine AW.exit ?_) | (with_reducible refine AW.skip ?_))))
  all_goals (conv => whnf)
  all_goals (first | rfl | (simp only [V.bool.injEq, V.tup.injEq, V.agg.injEq, V.str.injEq, V.int.injEq, V.sl.injEq, V.ifc.injEq, List.cons.injEq, and_true, true_and, and_self]; done) | (simp only [V.bool.injEq, V.tup.injEq, V.agg.injEq, V.str.injEq, V.int.injEq, V.sl.injEq, V.ifc.injEq, List.cons.injEq, and_true, true_and, and_self]; grind) | (simp  at *; done) | (simp  at *; grind) | (exact congrArg V.bool (decide_eq_true (congrArg num (by omega)))))

set_option maxRecDepth 100000 in
set_option maxHeartbeats 400000 in
theorem packBack_fn1 (n : Int) (s more : Bs) (c : Int) (hs : 300 < s.length) : Fn Tryd.prog 4 [.int .u64 n, .str s, .str more, .int .u8 c] (.bool true) := by
  refine Fn.mk' base Tryd.func4 rfl rfl rfl ?_
  repeat' (first
      | (with_reducible refine AW.seq ?_) | (with_reducible refine AW.region base (by kernel_rfl) ?_) | (with_reducible refine AW.cond ?_) | (with_reducible refine AW.block ?_) | (with_reducible refine AW.ret ?_) | (with_reducible refine AW.exit ?_) | (with_reducible refine AW.skip ?_)
      | ((conv => whnf); (first
         | (with_reducible refine Br.t ?_)
         | (with_reducible refine Br.f ?_)
         | (refine Br.t ?_)
         | (refine Br.f ?_)
         | (with_reducible refine Br.mk (fun hb => ?_) (fun hb => (by exfalso; simp only [decide_eq_true_eq, decide_eq_false_iff_not, Bool.not_eq_true', Bool.not_eq_false'] at hb; (first | omega | (simp at hb; done) | (simp at hb; omega) | exact hb (congrArg num (by omega)) | exact hb num64))))
         | (with_reducible refine Br.mk (fun hb => (by exfalso; simp only [decide_eq_true_eq, decide_eq_false_iff_not] at hb; (first | omega | (simp at hb; done) | (simp at hb; omega) | exact hb (congrArg num (by omega)) | exact hb num64))) (fun hb => ?_))
         | (with_reducible refine Or.inl ⟨_, known4_fn, ?_⟩)
         | ((with_reducible refine Or.inl ?_); (conv => whnf); (with_reducible refine ⟨_, known4_fn, ?_⟩))
         | (with_reducible refine Br.mk (fun hb => ?_) (fun hb => ?_) <;> (try rw [hb]) <;> (try simp only [List.length_map, decide_eq_true_eq, decide_eq_false_iff_not, Bool.not_eq_true', Bool.not_eq_false', Int.ofNat_lt, Int.ofNat_le, Int.not_lt, Int.not_le, Int.toNat_natCast] at hb))
         | (with_reducible refine ⟨_, (by first | exact ByteRows.map _ | (repeat (first | exact ByteRows.nil | exact ByteRows.map _ | refine ByteRows.cons ?_ | refine ByteRows.app ?_ ?_))), ?_⟩)
         | (refine Exists.intro _ (And.intro (ByteRows.rep _) ?_))
         | (refine Exists.intro _ (And.intro (ByteRows.app (ByteRows.map _) (ByteRows.cons ByteRows.nil)) ?_))
         | ((with_reducible refine And.intro ?_ ?_); (focus (first | with_reducible rfl | exact trivial | (exact ⟨rfl, trivial⟩) | (exact ⟨rfl, rfl, trivial⟩) | omega | (intro r hr; simp only [List.mem_singleton] at hr; subst hr; rfl)  | ((exact ⟨by omega, by decide, by decide⟩)) | ((simp only [in64] at *; omega)) | ((exact ⟨by omega, Int.natCast_pos.2 (num_pos _)⟩)) | ((exact ⟨by omega, Int.natCast_pos.2 (text_pos _)⟩)) | ((exact modle _ _ (num_pos _))) | ((exact modle _ _ (text_pos _))) | ((simp only [List.length_append, maxLen] at *; omega)) | (simp only [in64]; omega) | assumption | (simp; done) | (simp [V.cells]; done) | (simp [in64, maxLen, limK] at *; omega) | ((show confB _ _ = true); kernel_rfl) | rfl)))
         | (intro row hrow; (try simp only [Int.toNat_natCast, List.length_map, toNat_pred, toNat_succ', toNat_zero', toNat_one'] at hrow); (first | (have hsm := same_map (by assumption) hrow; subst hsm; clear hrow) | (obtain ⟨p, hp, rfl⟩ := of_map hrow; clear hrow)))
         | (with_reducible refine AW.seq ?_) | (with_reducible refine AW.region base (by kernel_rfl) ?_) | (with_reducible refine AW.cond ?_) | (with_reducible refine AW.block ?_) | (with_reducible refine AW.ret ?_) | (with_reducible refine AW.exit ?_) | (with_reducible refine AW.skip ?_))))
  all_goals (conv => whnf)
  all_goals (first | rfl | (simp only [V.bool.injEq, V.tup.injEq, V.agg.injEq, V.str.injEq, V.int.injEq, V.sl.injEq, V.ifc.injEq, List.cons.injEq, and_true, true_and, and_self]; done) | (simp only [V.bool.injEq, V.tup.injEq, V.agg.injEq, V.str.injEq, V.int.injEq, V.sl.injEq, V.ifc.injEq, List.cons.injEq, and_true, true_and, and_self]; grind) | (simp  at *; done) | (simp  at *; grind))

theorem packBack_fn (n : Int) (s more : Bs) (c : Int) (hn : 0 ≤ n ∧ n ≤ 18446744073709551615) (hc : 0 ≤ c ∧ c ≤ 255) : Fn Tryd.prog 4 [.int .u64 n, .str s, .str more, .int .u8 c] (.bool true) := by
  rcases Nat.lt_or_ge 300 s.length with h | h
  · exact packBack_fn1 n s more c h
  · exact packBack_fn0 n s more c hn hc h
end Go.Proofs.YtciiiceloghkmaaDoor
