/-
  Walks of package frame: the sum of bytes, its bytes. No conditions.
-/
import Derived.Test.YtnblecdpkbempaaGreatDoorAbsSeat
import Derived.Test.YtnblecdpkbempaaGreatDoorPack
namespace Go.Proofs.YtnblecdpkbempaaGreatDoor
open Go.RowKit
set_option linter.unusedSimpArgs false
set_option linter.unusedVariables false
/-- one byte more in a sum -/
def sumStep (n : Nat) (b : UInt8) : Nat := ((n ^^^ b.toNat) * 16777619) % 4294967296
def seed : Nat := 2166136261
theorem seed_eq : (2166136261 : Int) = (seed : Int) := by unfold seed; omega
theorem seed_lt : seed < 4294967296 := by unfold seed; omega
def sum (s : Bs) : Nat := s.foldl sumStep seed
theorem sumStep_lt (n : Nat) (b : UInt8) : sumStep n b < 4294967296 := Nat.mod_lt _ (by omega)
theorem wrap32 (n : Nat) : IntKind.wrap .u32 (n : Int) = ((n % 4294967296 : Nat) : Int) := by
  simp only [IntKind.wrap, IntKind.bits, IntKind.signed, Bool.false_and, Bool.false_eq_true, if_false]
  omega
theorem wrapB (b : UInt8) : IntKind.wrap .u32 (b.toNat : Int) = (b.toNat : Int) := by
  rw [wrap32]; have := UInt8.toNat_lt b; omega
theorem sum_val (n : Nat) (b : UInt8) : IntKind.wrap .u32 ((((n : Int).toNat ^^^ (IntKind.wrap .u32 (b.toNat : Int)).toNat : Nat) : Int) * 16777619) = (sumStep n b : Int) := by
  rw [wrapB, Int.toNat_natCast, Int.toNat_natCast, show (((n ^^^ b.toNat : Nat) : Int) * 16777619) = (((n ^^^ b.toNat) * 16777619 : Nat) : Int) by omega, wrap32]
  rfl
theorem sum_app (s r : Bs) : sum (s ++ r) = r.foldl sumStep (sum s) := by simp only [sum, List.foldl_append]
theorem sum_one (s : Bs) (x : UInt8) : sum (s ++ [x]) = sumStep (sum s) x := by rw [sum_app, List.foldl_cons, List.foldl_nil]
theorem take_one {s : Bs} {i : Nat} (h : i < s.length) : s.take (i + 1) = s.take i ++ [s.getD i 0] := by
  rw [List.take_add_one, List.getElem?_eq_getElem h, List.getD_eq_getElem?_getD, List.getElem?_eq_getElem h]
  simp only [Option.toList_some, Option.getD_some]
theorem sum_take {s : Bs} {i : Nat} (h : i < s.length) : sum (s.take (i + 1)) = sumStep (sum (s.take i)) (s.getD i 0) := by rw [take_one h, sum_one]
set_option maxRecDepth 100000 in
set_option maxHeartbeats 400000 in
theorem sum_fn (s : Bs) (hl : s.length ≤ 1000000) : Fn Tryz.prog 86 [.str s] (.int .u32 (sum s : Int)) := by
  refine Fn.mk' base Tryz.func86 rfl rfl rfl ?_
  repeat' ((conv => whnf); (first
   | (with_reducible first | refine AW.seq ?_ | refine AW.region base (by kernel_rfl) ?_ | refine AW.cond ?_ | refine AW.block ?_ | refine AW.ret ?_ | refine AW.exit ?_ | refine AW.skip ?_ | refine Br.t ?_ | refine Br.f ?_)
   | ((with_reducible refine Or.inl ?_); (conv => whnf); (with_reducible refine And.intro LitSl.mk ?_))
   | refine Br.t ?_
   | refine Br.f ?_
   | (with_reducible refine Br.mk (fun hb => ?_) (fun hb => ?_) <;> (try rw [hb]) <;> (try simp only [List.length_map, decide_eq_true_eq, decide_eq_false_iff_not, Bool.not_eq_true', Bool.not_eq_false', Int.ofNat_lt, Int.ofNat_le, Int.not_lt, Int.not_le, Int.toNat_natCast] at hb))
   | ((with_reducible first | refine Or.inl (And.intro ?_ ?_) | refine And.intro ?_ ?_); (focus (first | with_reducible rfl | exact trivial | (exact ⟨rfl, trivial⟩) | (exact ⟨rfl, rfl, trivial⟩) | omega | (intro r hr; simp only [List.mem_singleton] at hr; subst hr; rfl)  | ((simp only [limK]; rw [wrapB]; have := UInt8.toNat_lt (s.getD (i : Int).toNat 0); omega)) | ((simp only [in64] at *; omega)) | (simp only [in64]; omega) | assumption | (simp; done) | (simp [V.cells]; done) | (simp [in64, maxLen, limK] at *; omega) | ((show confB _ _ = true); kernel_rfl) | rfl)))
   | (intro row hrow; (try simp only [Int.toNat_natCast, List.length_map, toNat_pred, toNat_succ', toNat_zero', toNat_one'] at hrow); (first | (have hsm := same_map (by assumption) hrow; subst hsm; clear hrow) | (obtain ⟨p, hp, rfl⟩ := of_map hrow; clear hrow)))))
  refine AW.loop (fun (⟨i, n⟩ : Nat × Nat) => i ≤ s.length ∧ n = sum (s.take i) ∧ n < 4294967296) (fun (⟨i, n⟩ : Nat × Nat) => ⟨[(0, .str s), (3, .int .u32 (n : Int)), (6, .int .i64 (s.length : Int)), (7, .int .i64 (i : Int))], []⟩) (fun (⟨i, n⟩ : Nat × Nat) => s.length - i) (0, seed) ?_ ?_ ?_
  · (exact ⟨by omega, rfl, seed_lt⟩)
  · (refine ⟨⟨[], ?_⟩⟩; repeat' (first | (with_reducible rfl) | exact trivial | ((conv => whnf); (first | (with_reducible refine And.intro ?_ ?_) | (first | with_reducible rfl | ((first | refine congrArg V.str ?_ | refine congrArg (V.int _) ?_ | refine congrArg V.bool ?_ | refine congrArg V.sl ?_); (first | with_reducible rfl | omega | exact seed_eq | exact sum_val _ _ | rfl | (simp; done))) | (first | with_reducible rfl | omega | exact seed_eq | exact sum_val _ _ | rfl | (simp; done)) | rfl)))))
  · rintro ⟨i, n⟩ hk
    obtain ⟨hk1, hk2, hk3⟩ := hk
    repeat' ((conv => whnf); (first
     | (with_reducible first | refine AW.seq ?_ | refine AW.region base (by kernel_rfl) ?_ | refine AW.cond ?_ | refine AW.block ?_ | refine AW.ret ?_ | refine AW.exit ?_ | refine AW.skip ?_ | refine Br.t ?_ | refine Br.f ?_)
     | ((with_reducible refine Or.inl ?_); (conv => whnf); (with_reducible refine And.intro LitSl.mk ?_))
     | refine Br.t ?_
     | refine Br.f ?_
     | (with_reducible refine Br.mk (fun hb => ?_) (fun hb => ?_) <;> (try rw [hb]) <;> (try simp only [List.length_map, decide_eq_true_eq, decide_eq_false_iff_not, Bool.not_eq_true', Bool.not_eq_false', Int.ofNat_lt, Int.ofNat_le, Int.not_lt, Int.not_le, Int.toNat_natCast] at hb))
     | ((with_reducible first | refine Or.inl (And.intro ?_ ?_) | refine And.intro ?_ ?_); (focus (first | with_reducible rfl | exact trivial | (exact ⟨rfl, trivial⟩) | (exact ⟨rfl, rfl, trivial⟩) | omega | (intro r hr; simp only [List.mem_singleton] at hr; subst hr; rfl)  | ((simp only [limK]; rw [wrapB]; have := UInt8.toNat_lt (s.getD (i : Int).toNat 0); omega)) | ((simp only [in64] at *; omega)) | (simp only [in64]; omega) | assumption | (simp; done) | (simp [V.cells]; done) | (simp [in64, maxLen, limK] at *; omega) | ((show confB _ _ = true); kernel_rfl) | rfl)))
     | (intro row hrow; (try simp only [Int.toNat_natCast, List.length_map, toNat_pred, toNat_succ', toNat_zero', toNat_one'] at hrow); (first | (have hsm := same_map (by assumption) hrow; subst hsm; clear hrow) | (obtain ⟨p, hp, rfl⟩ := of_map hrow; clear hrow)))))
    all_goals (try first | with_reducible assumption | ((first | show (_ : Int) ≤ _ | show (_ : Nat) ≤ _ | show (_ : Int) < _ | show ¬ (_ : Int) = _); (first | omega | (simp at *; omega))) | ((show in64 _); (simp only [in64] at *; (first | omega | (simp at *; omega)))) | ((with_reducible refine And.intro ?_ ?_) <;> (first | omega | (simp at *; omega))))
    all_goals (first
      | (with_reducible exact absurd rfl (by assumption))
      | ((conv => whnf); (refine ⟨(i + 1, sumStep n (s.getD (i : Int).toNat 0)), ?_⟩); (refine And.intro ?_ (And.intro ?_ ?_)); (focus (refine ⟨⟨[], ?_⟩⟩; repeat' (first | (with_reducible rfl) | exact trivial | ((conv => whnf); (first | (with_reducible refine And.intro ?_ ?_) | (first | with_reducible rfl | ((first | refine congrArg V.str ?_ | refine congrArg (V.int _) ?_ | refine congrArg V.bool ?_ | refine congrArg V.sl ?_); (first | with_reducible rfl | omega | exact seed_eq | exact sum_val _ _ | rfl | (simp; done))) | (first | with_reducible rfl | omega | exact seed_eq | exact sum_val _ _ | rfl | (simp; done)) | rfl)))))); (focus (refine ⟨by omega, ?_, sumStep_lt _ _⟩; rw [Int.toNat_natCast, sum_take (by omega), ← hk2])); (focus (first | omega | (dsimp only; omega) | (simp; done) | (simp; omega) | (simp at *; omega))))
      | ((conv => whnf); (try (first | rfl | (exfalso; simp_all; done) | (exfalso; simp at *; omega) | (refine congrArg (V.int _) ?_; rw [hk2, show i = s.length by omega, List.take_length]))); done))


theorem byteOf (n k : Nat) : UInt8.ofNat (IntKind.wrap .u8 ((n : Int) / 2 ^ (8 * (k : Int)).toNat)).toNat = UInt8.ofNat (n / 256 ^ k) := by
  rw [show (8 * (k : Int)).toNat = 8 * k by omega, Int.pow_mul, show (2 : Int) ^ 8 = ((256 : Nat) : Int) from rfl, ← Int.natCast_pow, ← Int.natCast_ediv]
  simp only [IntKind.wrap, IntKind.bits, IntKind.signed, Bool.false_and, Bool.false_eq_true, if_false]
  generalize n / 256 ^ k = m
  apply UInt8.toNat_inj.1
  simp only [UInt8.toNat_ofNat']
  omega
def bytes4 (n : Nat) : Bs := [UInt8.ofNat n, UInt8.ofNat (n / 256), UInt8.ofNat (n / 65536), UInt8.ofNat (n / 16777216)]
theorem bytes4_len (n : Nat) : (bytes4 n).length = 4 := rfl
theorem bytes4_eq (n : Nat) : [UInt8.ofNat (IntKind.wrap .u8 ((n : Int) / 2 ^ (8 * ((0 : Nat) : Int)).toNat)).toNat, UInt8.ofNat (IntKind.wrap .u8 ((n : Int) / 2 ^ (8 * ((1 : Nat) : Int)).toNat)).toNat, UInt8.ofNat (IntKind.wrap .u8 ((n : Int) / 2 ^ (8 * ((2 : Nat) : Int)).toNat)).toNat, UInt8.ofNat (IntKind.wrap .u8 ((n : Int) / 2 ^ (8 * ((3 : Nat) : Int)).toNat)).toNat] = bytes4 n := by
  rw [byteOf, byteOf, byteOf, byteOf, Nat.pow_zero, Nat.div_one, Nat.pow_one]
  rfl

set_option maxRecDepth 100000 in
set_option maxHeartbeats 400000 in
theorem bytes_fn (n : Nat) : Fn Tryz.prog 85 [.int .u32 (n : Int)] (.str (bytes4 n)) := by
  refine Fn.mk' base Tryz.func85 rfl rfl rfl ?_
  repeat' ((conv => whnf); (first
   | ((with_reducible show AW _ _ _ (Code.loop _) _ _ _); (refine AW.rounds 5 ?_))
   | ((with_reducible show AW _ _ _ (Code.region 7 _ _) _ _ _); (refine AW.freezeC 2000 rfl rfl ?_); (with_reducible refine AW.region base (by kernel_rfl) ?_))
   | (with_reducible first | refine AW.seq ?_ | refine AW.region base (by kernel_rfl) ?_ | refine AW.cond ?_ | refine AW.block ?_ | refine AW.ret ?_ | refine AW.exit ?_ | refine AW.skip ?_ | refine Br.t ?_ | refine Br.f ?_)
   | (refine Exists.intro _ (And.intro (ByteRows.cons (ByteRows.cons (ByteRows.cons (ByteRows.cons ByteRows.nil)))) ?_))
   | ((with_reducible refine Or.inl ?_); (conv => whnf); (with_reducible refine And.intro LitSl.mk ?_))
   | refine Br.t ?_
   | refine Br.f ?_
   | (with_reducible refine Br.mk (fun hb => ?_) (fun hb => ?_) <;> (try rw [hb]) <;> (try simp only [List.length_map, decide_eq_true_eq, decide_eq_false_iff_not, Bool.not_eq_true', Bool.not_eq_false', Int.ofNat_lt, Int.ofNat_le, Int.not_lt, Int.not_le, Int.toNat_natCast] at hb))
   | ((with_reducible first | refine Or.inl (And.intro ?_ ?_) | refine And.intro ?_ ?_); (focus (first | with_reducible rfl | exact trivial | (exact ⟨rfl, trivial⟩) | (exact ⟨rfl, rfl, trivial⟩) | omega | (intro r hr; simp only [List.mem_singleton] at hr; subst hr; rfl)  | ((simp [IntKind.bits]; omega)) | ((refine ⟨by omega, by decide, by decide⟩)) | ((simp only [in64]; omega)) | (decide) | (simp only [in64]; omega) | assumption | (simp; done) | (simp [V.cells]; done) | (simp [in64, maxLen, limK] at *; omega) | ((show confB _ _ = true); kernel_rfl) | rfl)))
   | (intro row hrow; (try simp only [Int.toNat_natCast, List.length_map, toNat_pred, toNat_succ', toNat_zero', toNat_one'] at hrow); (first | (have hsm := same_map (by assumption) hrow; subst hsm; clear hrow) | (obtain ⟨p, hp, rfl⟩ := of_map hrow; clear hrow)))))
  all_goals (conv => whnf)
  all_goals (first | rfl | (simp only [V.bool.injEq, V.tup.injEq, V.agg.injEq, V.str.injEq, V.int.injEq, V.sl.injEq, V.ifc.injEq, List.cons.injEq, and_true, true_and, and_self]; done) | (simp only [V.bool.injEq, V.tup.injEq, V.agg.injEq, V.str.injEq, V.int.injEq, V.sl.injEq, V.ifc.injEq, List.cons.injEq, and_true, true_and, and_self]; grind) | (simp  at *; done) | (simp  at *; grind) | (exact congrArg V.str (bytes4_eq n)))
end Go.Proofs.YtnblecdpkbempaaGreatDoor

namespace Go.Proofs.YtnblecdpkbempaaGreatDoor
open Go.RowKit
set_option linter.unusedSimpArgs false
set_option linter.unusedVariables false
def wrap (t : Bs) : Bs := bytes4 (sum (text t)) ++ text t
def wraps (l : List Bs) : Bs := l.flatMap wrap
abbrev encT (s : Bs) : List V := [.str s]
theorem wrap_len (t : Bs) : (wrap t).length = 4 + (text t).length := by rw [wrap, List.length_append, bytes4_len]
theorem text_len8 (s : Bs) (h : s.length ≤ 1000000) : (text s).length ≤ 8 + s.length := by rw [text_len]; have := num_len 7 s.length (by omega); omega
theorem num_pos (k : Nat) : 0 < (num k).length := List.length_pos_iff.2 (num_ne k)
theorem text_pos (s : Bs) : 0 < (text s).length := by rw [text_len]; have := num_pos s.length; omega
set_option maxRecDepth 100000 in
set_option maxHeartbeats 400000 in
theorem sum_of (s u : Bs) (h : s = u) (hl : u.length ≤ 1000000) : Fn Tryz.prog 86 [.str s] (.int .u32 (sum u : Int)) := by
  subst h; exact sum_fn s hl

set_option maxRecDepth 100000 in
set_option maxHeartbeats 400000 in
theorem frameWrap_fn (s : Bs) (h : s.length ≤ 200000) : Fn Tryz.prog 40 [.str s] (.str (wrap s)) := by
  refine Fn.mk' base Tryz.func40 rfl rfl rfl ?_
  repeat' ((conv => whnf); (first
   | (with_reducible first | refine AW.seq ?_ | refine AW.region base (by kernel_rfl) ?_ | refine AW.cond ?_ | refine AW.block ?_ | refine AW.ret ?_ | refine AW.exit ?_ | refine AW.skip ?_ | refine Br.t ?_ | refine Br.f ?_)
   | ((with_reducible refine Or.inl ?_); (conv => whnf); (with_reducible refine And.intro LitSl.mk ?_))
   | refine Br.t ?_
   | refine Br.f ?_
   | ((with_reducible refine Or.inl ?_); (conv => whnf); (first | (with_reducible first | refine ⟨_, text_fn _ (by omega), ?_⟩ | refine ⟨_, sum_fn _ (by have := text_len8 s (by omega); omega), ?_⟩ | refine ⟨_, bytes_fn _, ?_⟩)))
   | (with_reducible refine Br.mk (fun hb => ?_) (fun hb => ?_) <;> (try rw [hb]) <;> (try simp only [List.length_map, decide_eq_true_eq, decide_eq_false_iff_not, Bool.not_eq_true', Bool.not_eq_false', Int.ofNat_lt, Int.ofNat_le, Int.not_lt, Int.not_le, Int.toNat_natCast] at hb))
   | ((with_reducible first | refine Or.inl (And.intro ?_ ?_) | refine And.intro ?_ ?_); (focus (first | with_reducible rfl | exact trivial | (exact ⟨rfl, trivial⟩) | (exact ⟨rfl, rfl, trivial⟩) | omega | (intro r hr; simp only [List.mem_singleton] at hr; subst hr; rfl)  | ((simp only [List.length_append, maxLen] at *; omega)) | ((simp only [in64] at *; omega)) | ((rw [bytes4_len]; have := text_len8 s (by omega); simp only [maxLen]; omega)) | ((rw [hs]; simp only [List.length_append, hb4]; omega)) | ((rw [hs]; simp only [List.length_append, hb4, in64]; omega)) | ((simp only [in64]; rw [hs]; simp only [List.length_append, hb4]; omega)) | (simp only [in64]; omega) | assumption | (simp; done) | (simp [V.cells]; done) | (simp [in64, maxLen, limK] at *; omega) | ((show confB _ _ = true); kernel_rfl) | rfl)))
   | (intro row hrow; (try simp only [Int.toNat_natCast, List.length_map, toNat_pred, toNat_succ', toNat_zero', toNat_one'] at hrow); (first | (have hsm := same_map (by assumption) hrow; subst hsm; clear hrow) | (obtain ⟨p, hp, rfl⟩ := of_map hrow; clear hrow)))))
  all_goals (conv => whnf)
  all_goals (first | rfl | (simp only [V.bool.injEq, V.tup.injEq, V.agg.injEq, V.str.injEq, V.int.injEq, V.sl.injEq, V.ifc.injEq, List.cons.injEq, and_true, true_and, and_self]; done) | (simp only [V.bool.injEq, V.tup.injEq, V.agg.injEq, V.str.injEq, V.int.injEq, V.sl.injEq, V.ifc.injEq, List.cons.injEq, and_true, true_and, and_self]; grind) | (simp  at *; done) | (simp  at *; grind) | (exact congrArg V.str rfl))

set_option maxRecDepth 100000 in
set_option maxHeartbeats 400000 in
theorem open_short (s : Bs) (h : s.length < 4) : Fn Tryz.prog 41 [.str s] (.tup [.str [], .str s, errV [] 11]) := by
  refine Fn.mk' base Tryz.func41 rfl rfl rfl ?_
  repeat' ((conv => whnf); (first
   | (with_reducible first | refine AW.seq ?_ | refine AW.region base (by kernel_rfl) ?_ | refine AW.cond ?_ | refine AW.block ?_ | refine AW.ret ?_ | refine AW.exit ?_ | refine AW.skip ?_ | refine Br.t ?_ | refine Br.f ?_)
   | ((with_reducible refine Or.inl ?_); (conv => whnf); (with_reducible refine And.intro LitSl.mk ?_))
   | refine Br.t ?_
   | refine Br.f ?_
   | (with_reducible refine Br.mk (fun hb => ?_) (fun hb => (by exfalso; (first | omega | (simp at hb; done) | (simp at hb; omega)))))
   | (with_reducible refine Br.mk (fun hb => (by exfalso; (first | omega | (simp at hb; done) | (simp at hb; omega)))) (fun hb => ?_))
   | (with_reducible refine Br.mk (fun hb => ?_) (fun hb => ?_) <;> (try rw [hb]) <;> (try simp only [List.length_map, decide_eq_true_eq, decide_eq_false_iff_not, Bool.not_eq_true', Bool.not_eq_false', Int.ofNat_lt, Int.ofNat_le, Int.not_lt, Int.not_le, Int.toNat_natCast] at hb))
   | ((with_reducible first | refine Or.inl (And.intro ?_ ?_) | refine And.intro ?_ ?_); (focus (first | with_reducible rfl | exact trivial | (exact ⟨rfl, trivial⟩) | (exact ⟨rfl, rfl, trivial⟩) | omega | (intro r hr; simp only [List.mem_singleton] at hr; subst hr; rfl)  | ((simp only [List.length_append, maxLen] at *; omega)) | ((simp only [in64] at *; omega)) | ((rw [bytes4_len]; have := text_len8 s (by omega); simp only [maxLen]; omega)) | ((rw [hs]; simp only [List.length_append, hb4]; omega)) | ((rw [hs]; simp only [List.length_append, hb4, in64]; omega)) | ((simp only [in64]; rw [hs]; simp only [List.length_append, hb4]; omega)) | (simp only [in64]; omega) | assumption | (simp; done) | (simp [V.cells]; done) | (simp [in64, maxLen, limK] at *; omega) | ((show confB _ _ = true); kernel_rfl) | rfl)))
   | (intro row hrow; (try simp only [Int.toNat_natCast, List.length_map, toNat_pred, toNat_succ', toNat_zero', toNat_one'] at hrow); (first | (have hsm := same_map (by assumption) hrow; subst hsm; clear hrow) | (obtain ⟨p, hp, rfl⟩ := of_map hrow; clear hrow)))))
  all_goals (conv => whnf)
  all_goals (first | rfl | (simp only [V.bool.injEq, V.tup.injEq, V.agg.injEq, V.str.injEq, V.int.injEq, V.sl.injEq, V.ifc.injEq, List.cons.injEq, and_true, true_and, and_self, errV]; done) | (simp only [V.bool.injEq, V.tup.injEq, V.agg.injEq, V.str.injEq, V.int.injEq, V.sl.injEq, V.ifc.injEq, List.cons.injEq, and_true, true_and, and_self, errV]; grind) | (simp [errV] at *; done) | (simp [errV] at *; grind))

set_option maxRecDepth 100000 in
set_option maxHeartbeats 400000 in
theorem open_fail (s : Bs) (c : Int) (hl : 4 ≤ s.length) (hT : Fn Tryz.prog 87 [.str (List.drop (4 : Int).toNat (List.take s.length s)), .int .i64 200000] (.tup [.str [], .str (List.drop (4 : Int).toNat (List.take s.length s)), errV [[112, 97, 99, 107]] c])) : Fn Tryz.prog 41 [.str s] (.tup [.str [], .str s, errV [[112, 97, 99, 107]] c]) := by
  refine Fn.mk' base Tryz.func41 rfl rfl rfl ?_
  repeat' ((conv => whnf); (first
   | (with_reducible first | refine AW.seq ?_ | refine AW.region base (by kernel_rfl) ?_ | refine AW.cond ?_ | refine AW.block ?_ | refine AW.ret ?_ | refine AW.exit ?_ | refine AW.skip ?_ | refine Br.t ?_ | refine Br.f ?_)
   | ((with_reducible refine Or.inl ?_); (conv => whnf); (with_reducible refine And.intro LitSl.mk ?_))
   | refine Br.t ?_
   | refine Br.f ?_
   | (with_reducible refine Br.mk (fun hb => ?_) (fun hb => (by exfalso; (first | omega | (simp at hb; done) | (simp at hb; omega)))))
   | (with_reducible refine Br.mk (fun hb => (by exfalso; (first | omega | (simp at hb; done) | (simp at hb; omega)))) (fun hb => ?_))
   | ((with_reducible refine Or.inl ?_); (conv => whnf); (first | (with_reducible first | refine ⟨_, hT, ?_⟩)))
   | (with_reducible refine Br.mk (fun hb => ?_) (fun hb => ?_) <;> (try rw [hb]) <;> (try simp only [List.length_map, decide_eq_true_eq, decide_eq_false_iff_not, Bool.not_eq_true', Bool.not_eq_false', Int.ofNat_lt, Int.ofNat_le, Int.not_lt, Int.not_le, Int.toNat_natCast] at hb))
   | ((with_reducible first | refine Or.inl (And.intro ?_ ?_) | refine And.intro ?_ ?_); (focus (first | with_reducible rfl | exact trivial | (exact ⟨rfl, trivial⟩) | (exact ⟨rfl, rfl, trivial⟩) | omega | (intro r hr; simp only [List.mem_singleton] at hr; subst hr; rfl)  | ((simp only [List.length_append, maxLen] at *; omega)) | ((simp only [in64] at *; omega)) | ((rw [bytes4_len]; have := text_len8 s (by omega); simp only [maxLen]; omega)) | ((rw [hs]; simp only [List.length_append, hb4]; omega)) | ((rw [hs]; simp only [List.length_append, hb4, in64]; omega)) | ((simp only [in64]; rw [hs]; simp only [List.length_append, hb4]; omega)) | (simp only [in64]; omega) | assumption | (simp; done) | (simp [V.cells]; done) | (simp [in64, maxLen, limK] at *; omega) | ((show confB _ _ = true); kernel_rfl) | rfl)))
   | (intro row hrow; (try simp only [Int.toNat_natCast, List.length_map, toNat_pred, toNat_succ', toNat_zero', toNat_one'] at hrow); (first | (have hsm := same_map (by assumption) hrow; subst hsm; clear hrow) | (obtain ⟨p, hp, rfl⟩ := of_map hrow; clear hrow)))))
  all_goals (conv => whnf)
  all_goals (first | rfl | (simp only [V.bool.injEq, V.tup.injEq, V.agg.injEq, V.str.injEq, V.int.injEq, V.sl.injEq, V.ifc.injEq, List.cons.injEq, and_true, true_and, and_self, errV]; done) | (simp only [V.bool.injEq, V.tup.injEq, V.agg.injEq, V.str.injEq, V.int.injEq, V.sl.injEq, V.ifc.injEq, List.cons.injEq, and_true, true_and, and_self, errV]; grind) | (simp [errV] at *; done) | (simp [errV] at *; grind))

/-- bytes at whose front nothing is wrapped -/
def Bad (s : Bs) : Prop := ∃ ws c, Fn Tryz.prog 41 [.str s] (.tup [.str [], .str s, errV ws c])
end Go.Proofs.YtnblecdpkbempaaGreatDoor
