/-
  Walks of package pack: numbers and texts as bytes, and back. No conditions.
-/
import Derived.Test.YtnblecdpkbempaaGreatDoorErr
namespace Go.Proofs.YtnblecdpkbempaaGreatDoor
open Go.RowKit
set_option linter.unusedSimpArgs false
set_option linter.unusedVariables false
/-- a number's bytes: six bits each, the lowest first -/
def num (n : Nat) : Bs := if n < 64 then [UInt8.ofNat n] else UInt8.ofNat (64 + n % 64) :: num (n / 64)
termination_by n
decreasing_by omega
theorem num_lo {n : Nat} (h : n < 64) : num n = [UInt8.ofNat n] := by rw [num, if_pos h]
theorem num_hi {n : Nat} (h : 64 ≤ n) : num n = UInt8.ofNat (64 + n % 64) :: num (n / 64) := by rw [num, if_neg (by omega)]
def text (s : Bs) : Bs := num s.length ++ s
theorem num_ne (n : Nat) : num n ≠ [] := by
  rw [num]; split <;> simp
theorem num_len : ∀ (j n : Nat), n < 64 ^ (j + 1) → (num n).length ≤ j + 1 := fun j => by
  induction j with
  | zero => intro n h; rw [num_lo (by omega)]; simp
  | succ j ih =>
    intro n h
    rcases Nat.lt_or_ge n 64 with h1 | h1
    · rw [num_lo h1]; simp
    · rw [num_hi h1]; have := ih (n / 64) (Nat.div_lt_of_lt_mul (by rw [Nat.pow_succ] at h; omega)); simp; omega
theorem and63 (n : Nat) : n &&& 63 = n % 64 := by
  have := Nat.and_two_pow_sub_one_eq_mod n 6
  simpa using this
theorem or64 {n : Nat} (h : n < 64) : 64 ||| n = 64 + n := by
  have := Nat.two_pow_add_eq_or_of_lt (i := 6) (b := n) (by omega) 1
  simpa using this.symm
/-- a byte of a number -/
theorem numByte (n : Nat) : IntKind.wrap .u8 (((64 : Int).toNat ||| ((((n : Int).toNat &&& (63 : Int).toNat : Nat) : Int)).toNat : Nat) : Int) = ((UInt8.ofNat (64 + n % 64)).toNat : Int) := by
  have h : n % 64 < 64 := Nat.mod_lt _ (by omega)
  rw [Int.toNat_natCast, Int.toNat_natCast, show (63 : Int).toNat = 63 from rfl, show (64 : Int).toNat = 64 from rfl, and63, or64 h]
  simp only [IntKind.wrap, IntKind.bits, IntKind.signed, Bool.false_and, UInt8.toNat_ofNat', Bool.false_eq_true, if_false]
  omega
theorem numRow (acc : Bs) (n : Nat) : List.map encB acc ++ [(V.int .u8 (IntKind.wrap .u8 (((64 : Int).toNat ||| ((((n : Int).toNat &&& (63 : Int).toNat : Nat) : Int)).toNat : Nat) : Int))).cells] = List.map encB (acc ++ [UInt8.ofNat (64 + n % 64)]) := by
  rw [List.map_append, numByte]; rfl
theorem lastByte {n : Nat} (h : n < 64) : UInt8.ofNat (IntKind.wrap .u8 (n : Int)).toNat = UInt8.ofNat n := by
  simp only [IntKind.wrap, IntKind.bits, IntKind.signed, Bool.false_and, Bool.false_eq_true, if_false]
  congr 1; omega
theorem div6 (n : Nat) : (n : Int) / 2 ^ (6 : Int).toNat = ((n / 64 : Nat) : Int) := by
  rw [show (6 : Int).toNat = 6 from rfl]; omega
theorem num_step {k n : Nat} {acc : Bs} (h : num k = acc ++ num n) (h1 : 64 ≤ n) : num k = (acc ++ [UInt8.ofNat (64 + n % 64)]) ++ num (n / 64) := by
  rw [h, num_hi h1, List.append_assoc]; rfl
theorem len_step {n a : Nat} (h : n < 64 ^ (11 - a)) (h1 : 64 ≤ n) : a + 1 ≤ 10 ∧ n / 64 < 64 ^ (11 - (a + 1)) := by
  have ha : a ≤ 9 := by
    rcases Nat.lt_or_ge 9 a with h2 | h2
    · exfalso
      have : 64 ^ (11 - a) ≤ 64 ^ 1 := Nat.pow_le_pow_right (by omega) (by omega)
      omega
    · exact h2
  refine ⟨by omega, Nat.div_lt_of_lt_mul ?_⟩
  rw [show 11 - a = (11 - (a + 1)) + 1 by omega, Nat.pow_succ] at h
  omega

set_option maxRecDepth 100000 in
set_option maxHeartbeats 400000 in
theorem num_fn (k : Int) (hk : k ≤ 9223372036854775807) : Fn Tryz.prog 36 [.int .i64 k] (.str (num k.toNat)) := by
  refine Fn.mk' base Tryz.func36 rfl rfl rfl ?_
  repeat' ((conv => whnf); (first
   | (with_reducible first | refine AW.seq ?_ | refine AW.region base (by kernel_rfl) ?_ | refine AW.cond ?_ | refine AW.block ?_ | refine AW.ret ?_ | refine AW.exit ?_ | refine AW.skip ?_ | refine Br.t ?_ | refine Br.f ?_)
   | ((with_reducible refine Or.inl ?_); (conv => whnf); (with_reducible refine And.intro LitSl.mk ?_))
   | refine Br.t ?_
   | refine Br.f ?_
   | (with_reducible refine Br.mk (fun hb => ?_) (fun hb => ?_) <;> (try rw [hb]) <;> (try simp only [List.length_map, decide_eq_true_eq, decide_eq_false_iff_not, Bool.not_eq_true', Bool.not_eq_false', Int.ofNat_lt, Int.ofNat_le, Int.not_lt, Int.not_le, Int.toNat_natCast] at hb))
   | ((with_reducible first | refine Or.inl (And.intro ?_ ?_) | refine And.intro ?_ ?_); (focus (first | with_reducible rfl | exact trivial | (exact ⟨rfl, trivial⟩) | (exact ⟨rfl, rfl, trivial⟩) | omega | (intro r hr; simp only [List.mem_singleton] at hr; subst hr; rfl)  | ((simp only [List.length_map, List.length_cons, List.length_nil] at *; omega)) | ((simp only [limK]; omega)) | ((simp [limK]; omega)) | ((rw [Int.toNat_natCast, show (63 : Int).toNat = 63 from rfl, and63]; simp only [limK]; omega)) | ((rw [Int.toNat_natCast, show (63 : Int).toNat = 63 from rfl, and63]; simp [limK]; omega)) | ((exact ⟨by omega, by decide, by decide⟩)) | (simp only [in64]; omega) | assumption | (simp; done) | (simp [V.cells]; done) | (simp [in64, maxLen, limK] at *; omega) | ((show confB _ _ = true); kernel_rfl) | rfl)))
   | (intro row hrow; (try simp only [Int.toNat_natCast, List.length_map, toNat_pred, toNat_succ', toNat_zero', toNat_one'] at hrow); (first | (have hsm := same_map (by assumption) hrow; subst hsm; clear hrow) | (obtain ⟨p, hp, rfl⟩ := of_map hrow; clear hrow)))))
  refine AW.adopt 3 999999999 (el := 5) rfl rfl (rows_of 59 rfl) ?_
  refine AW.loop (fun (⟨n, acc⟩ : Nat × Bs) => num k.toNat = acc ++ num n ∧ n < 64 ^ (11 - acc.length) ∧ acc.length ≤ 10 ∧ n ≤ 9223372036854775807) (fun (⟨n, acc⟩ : Nat × Bs) => ⟨[(0, .int .i64 (n : Int)), (3, .own 0)], [.rows 5 (acc.map encB)]⟩) (fun (⟨n, acc⟩ : Nat × Bs) => n) (k.toNat, []) ?_ ?_ ?_
  · (refine ⟨rfl, ?_, by simp, ?_⟩ <;> simp <;> omega)
  · (refine ⟨⟨[999999999], ?_⟩⟩; repeat' (first | (with_reducible rfl) | exact trivial | ((conv => whnf); (first | (with_reducible refine And.intro ?_ ?_) | (first | with_reducible rfl | ((first | refine congrArg V.str ?_ | refine congrArg (V.int _) ?_ | refine congrArg V.bool ?_ | refine congrArg V.sl ?_); (first | with_reducible rfl | omega | exact div6 _ | exact numRow _ _ | (simp [encB, numByte]; done) | (rw [List.map_append]; simp [encB, numByte]; done) | rfl | (simp; done))) | (first | with_reducible rfl | omega | exact div6 _ | exact numRow _ _ | (simp [encB, numByte]; done) | (rw [List.map_append]; simp [encB, numByte]; done) | rfl | (simp; done)) | rfl)))))
  · rintro ⟨n, acc⟩ hk
    obtain ⟨hk1, hk2, hk3, hk4⟩ := hk
    repeat' ((conv => whnf); (first
     | (with_reducible first | refine AW.seq ?_ | refine AW.region base (by kernel_rfl) ?_ | refine AW.cond ?_ | refine AW.block ?_ | refine AW.ret ?_ | refine AW.exit ?_ | refine AW.skip ?_ | refine Br.t ?_ | refine Br.f ?_)
     | ((with_reducible refine Or.inl ?_); (conv => whnf); (with_reducible refine And.intro LitSl.mk ?_))
     | refine Br.t ?_
     | refine Br.f ?_
     | (with_reducible refine ⟨_, (show ByteRows _ _ by first | exact ByteRows.map _ | (repeat (first | exact ByteRows.nil | exact ByteRows.map _ | refine ByteRows.cons ?_ | refine ByteRows.app ?_ ?_))), ?_⟩)
     | ((fail_if_success (with_reducible show ∃ j, Fits _ _ _ _ ∧ _)); (refine Exists.intro _ (And.intro (ByteRows.app (ByteRows.map _) (ByteRows.cons ByteRows.nil)) ?_)))
     | (with_reducible refine Br.mk (fun hb => ?_) (fun hb => ?_) <;> (try rw [hb]) <;> (try simp only [List.length_map, decide_eq_true_eq, decide_eq_false_iff_not, Bool.not_eq_true', Bool.not_eq_false', Int.ofNat_lt, Int.ofNat_le, Int.not_lt, Int.not_le, Int.toNat_natCast] at hb))
     | ((with_reducible first | refine Or.inl (And.intro ?_ ?_) | refine And.intro ?_ ?_); (focus (first | with_reducible rfl | exact trivial | (exact ⟨rfl, trivial⟩) | (exact ⟨rfl, rfl, trivial⟩) | omega | (intro r hr; simp only [List.mem_singleton] at hr; subst hr; rfl)  | ((simp only [List.length_map, List.length_cons, List.length_nil] at *; omega)) | ((simp only [limK]; omega)) | ((simp [limK]; omega)) | ((rw [Int.toNat_natCast, show (63 : Int).toNat = 63 from rfl, and63]; simp only [limK]; omega)) | ((rw [Int.toNat_natCast, show (63 : Int).toNat = 63 from rfl, and63]; simp [limK]; omega)) | ((exact ⟨by omega, by decide, by decide⟩)) | (simp only [in64]; omega) | assumption | (simp; done) | (simp [V.cells]; done) | (simp [in64, maxLen, limK] at *; omega) | ((show confB _ _ = true); kernel_rfl) | rfl)))
     | (intro row hrow; (try simp only [Int.toNat_natCast, List.length_map, toNat_pred, toNat_succ', toNat_zero', toNat_one'] at hrow); (first | (have hsm := same_map (by assumption) hrow; subst hsm; clear hrow) | (obtain ⟨p, hp, rfl⟩ := of_map hrow; clear hrow)))))
    all_goals (try first | with_reducible assumption | ((first | show (_ : Int) ≤ _ | show (_ : Nat) ≤ _ | show (_ : Int) < _ | show ¬ (_ : Int) = _); (first | omega | (simp at *; omega))) | ((show in64 _); (simp only [in64] at *; (first | omega | (simp at *; omega)))) | ((with_reducible refine And.intro ?_ ?_) <;> (first | omega | (simp at *; omega))))
    all_goals (first
      | (with_reducible exact absurd rfl (by assumption))
      | ((conv => whnf); (refine ⟨(n / 64, acc ++ [UInt8.ofNat (64 + n % 64)]), ?_⟩); (refine And.intro ?_ (And.intro ?_ ?_)); (focus (refine ⟨⟨[?_], ?_⟩⟩; rotate_left 1; repeat' (first | (with_reducible rfl) | exact trivial | ((conv => whnf); (first | (with_reducible refine And.intro ?_ ?_) | (first | with_reducible rfl | ((first | refine congrArg V.str ?_ | refine congrArg (V.int _) ?_ | refine congrArg V.bool ?_ | refine congrArg V.sl ?_); (first | with_reducible rfl | omega | exact div6 _ | exact numRow _ _ | (simp [encB, numByte]; done) | (rw [List.map_append]; simp [encB, numByte]; done) | rfl | (simp; done))) | (first | with_reducible rfl | omega | exact div6 _ | exact numRow _ _ | (simp [encB, numByte]; done) | (rw [List.map_append]; simp [encB, numByte]; done) | rfl | (simp; done)) | rfl)))))); (focus (have hs := len_step hk2 (by omega); exact ⟨num_step hk1 (by omega), by simpa using hs.2, by simpa using hs.1, by omega⟩)); (focus (first | omega | (dsimp only; omega) | (simp; done) | (simp; omega) | (simp at *; omega))))
      | ((conv => whnf); (try (first | rfl | (exfalso; simp_all; done) | (exfalso; simp at *; omega) | (refine congrArg V.str ?_; rw [hk1, num_lo (by omega), lastByte (by omega)]))); done))


theorem y63 (y : Nat) : ((y : Int).toNat &&& (63 : Int).toNat) = y % 64 := by rw [Int.toNat_natCast, show (63 : Int).toNat = 63 from rfl, and63]
theorem pow6 (i : Nat) : (2 : Int) ^ (6 * (i : Int)).toNat = ((64 ^ i : Nat) : Int) := by
  rw [show (6 * (i : Int)).toNat = 6 * i by omega, Int.pow_mul, Int.natCast_pow]
  rfl

theorem pow_lt8 {i : Nat} (hi : i ≤ 7) : 64 ^ i ≤ 4398046511104 := by
  have := Nat.pow_le_pow_right (n := 64) (by omega) hi
  omega
theorem mul_bound {x i : Nat} (hi : i ≤ 7) (hx : x ≤ 63) : x * 64 ^ i ≤ 277076930199552 := by
  have h1 := Nat.mul_le_mul hx (pow_lt8 hi)
  omega
theorem shl_in64 (y i : Nat) (hi : i ≤ 7) : in64 ((((y : Int).toNat &&& (63 : Int).toNat : Nat) : Int) * 2 ^ (6 * (i : Int)).toNat) := by
  rw [y63, pow6, ← Int.natCast_mul]
  have := mul_bound (x := y % 64) hi (by omega)
  simp only [in64]; omega
theorem or_side (n y i : Nat) (hi : i ≤ 7) (hn : n < 281474976710656) : 0 ≤ (n : Int) ∧ (n : Int) ≤ limK .i64 ∧ 0 ≤ (((y : Int).toNat &&& (63 : Int).toNat : Nat) : Int) * 2 ^ (6 * (i : Int)).toNat ∧ (((y : Int).toNat &&& (63 : Int).toNat : Nat) : Int) * 2 ^ (6 * (i : Int)).toNat ≤ limK .i64 := by
  rw [y63, pow6, ← Int.natCast_mul]
  have := mul_bound (x := y % 64) hi (by omega)
  simp only [limK]; omega
theorem or_val (n y i : Nat) (hn : n < 64 ^ i) : ((n : Int).toNat ||| ((((y : Int).toNat &&& (63 : Int).toNat : Nat) : Int) * 2 ^ (6 * (i : Int)).toNat).toNat) = n + y % 64 * 64 ^ i := by
  rw [y63, pow6, ← Int.natCast_mul, Int.toNat_natCast, Int.toNat_natCast]
  have h2 : (64 : Nat) ^ i = 2 ^ (6 * i) := by rw [Nat.pow_mul]
  rw [h2] at hn ⊢
  have := Nat.two_pow_add_eq_or_of_lt hn (y % 64)
  rw [Nat.or_comm, Nat.mul_comm (y % 64), ← this]; omega
theorem ret3 {a b : Int} {x y : Bs} {e : V} (h1 : a = b) (h2 : x = y) : V.tup [.int .i64 a, .str x, e] = V.tup [.int .i64 b, .str y, e] := by rw [h1, h2]
theorem next_eq {k n m i : Nat} (hk : k = n + m * 64 ^ i) : k = (n + m % 64 * 64 ^ i) + m / 64 * 64 ^ (i + 1) := by
  rw [hk, Nat.pow_succ]
  have h1 : m * 64 ^ i = (m / 64 * 64 + m % 64) * 64 ^ i := by rw [show m / 64 * 64 + m % 64 = m by omega]
  rw [h1, Nat.add_mul, Nat.mul_assoc, Nat.mul_comm 64 (64 ^ i)]
  omega
theorem next_lt {n i y : Nat} (h : n < 64 ^ i) : n + y % 64 * 64 ^ i < 64 ^ (i + 1) := by
  rw [Nat.pow_succ]
  have := Nat.mul_le_mul_right (64 ^ i) (show y % 64 ≤ 63 by omega)
  omega
theorem lt8 {n i : Nat} (h : n < 64 ^ i) (hi : i ≤ 7) : n < 281474976710656 := by have := pow_lt8 hi; omega

theorem text_len (t : Bs) : (text t).length = (num t.length).length + t.length := by rw [text, List.length_append]
theorem text_app (t rest : Bs) : text t ++ rest = num t.length ++ (t ++ rest) := by rw [text, List.append_assoc]

set_option maxRecDepth 100000 in
set_option maxHeartbeats 400000 in
theorem text_fn (s : Bs) (h : s.length ≤ 1000000) : Fn Tryz.prog 37 [.str s] (.str (text s)) := by
  refine Fn.mk' base Tryz.func37 rfl rfl rfl ?_
  repeat' ((conv => whnf); (first
   | (with_reducible first | refine AW.seq ?_ | refine AW.region base (by kernel_rfl) ?_ | refine AW.cond ?_ | refine AW.block ?_ | refine AW.ret ?_ | refine AW.exit ?_ | refine AW.skip ?_ | refine Br.t ?_ | refine Br.f ?_)
   | ((with_reducible refine Or.inl ?_); (conv => whnf); (with_reducible refine And.intro LitSl.mk ?_))
   | refine Br.t ?_
   | refine Br.f ?_
   | ((with_reducible refine Or.inl ?_); (conv => whnf); (first | (with_reducible first | refine ⟨_, num_fn _ (by omega), ?_⟩)))
   | (with_reducible refine Br.mk (fun hb => ?_) (fun hb => ?_) <;> (try rw [hb]) <;> (try simp only [List.length_map, decide_eq_true_eq, decide_eq_false_iff_not, Bool.not_eq_true', Bool.not_eq_false', Int.ofNat_lt, Int.ofNat_le, Int.not_lt, Int.not_le, Int.toNat_natCast] at hb))
   | ((with_reducible first | refine Or.inl (And.intro ?_ ?_) | refine And.intro ?_ ?_); (focus (first | with_reducible rfl | exact trivial | (exact ⟨rfl, trivial⟩) | (exact ⟨rfl, rfl, trivial⟩) | omega | (intro r hr; simp only [List.mem_singleton] at hr; subst hr; rfl)  | ((have := num_len 7 s.length (by omega); simp only [maxLen, Int.toNat_natCast]; omega)) | (simp only [in64]; omega) | assumption | (simp; done) | (simp [V.cells]; done) | (simp [in64, maxLen, limK] at *; omega) | ((show confB _ _ = true); kernel_rfl) | rfl)))
   | (intro row hrow; (try simp only [Int.toNat_natCast, List.length_map, toNat_pred, toNat_succ', toNat_zero', toNat_one'] at hrow); (first | (have hsm := same_map (by assumption) hrow; subst hsm; clear hrow) | (obtain ⟨p, hp, rfl⟩ := of_map hrow; clear hrow)))))
  all_goals (conv => whnf)
  all_goals (first | rfl | (simp only [V.bool.injEq, V.tup.injEq, V.agg.injEq, V.str.injEq, V.int.injEq, V.sl.injEq, V.ifc.injEq, List.cons.injEq, and_true, true_and, and_self]; done) | (simp only [V.bool.injEq, V.tup.injEq, V.agg.injEq, V.str.injEq, V.int.injEq, V.sl.injEq, V.ifc.injEq, List.cons.injEq, and_true, true_and, and_self]; grind) | (simp  at *; done) | (simp  at *; grind) | (exact congrArg V.str (by rw [Int.toNat_natCast]; rfl)))

theorem ret2 {a b x y : Bs} {e : V} (h1 : a = b) (h2 : x = y) : V.tup [.str a, .str x, e] = V.tup [.str b, .str y, e] := by rw [h1, h2]

end Go.Proofs.YtnblecdpkbempaaGreatDoor
