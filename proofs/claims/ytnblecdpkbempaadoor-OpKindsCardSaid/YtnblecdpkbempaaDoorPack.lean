/-
  Walks of package pack: numbers and texts as bytes, and back. No conditions.
-/
import Derived.Test.YtnblecdpkbempaaDoorErr
namespace Go.Proofs.YtnblecdpkbempaaDoor
open Go.RowKit
set_option linter.unusedSimpArgs false
set_option linter.unusedVariables false
/-- a number's bytes: six bits each, the lowest first -/
def num (n : Nat) : Bs := if n < 64 then [UInt8.ofNat n] else UInt8.ofNat (64 + n % 64) :: num (n / 64)
termination_by n
decreasing_by omega
theorem num_lo {n : Nat} (h : n < 64) : num n = [UInt8.ofNat n] := by rw [num, if_pos h]
theorem num_hi {n : Nat} (h : 64 ≤ n) : num n = UInt8.ofNat (64 + n % 64) :: num (n / 64) := by rw [num, if_neg (by omega)]
def text (s : Bs) : Bs := num s.length ++ s
theorem num_ne (n : Nat) : num n ≠ [] := by
  rw [num]; split <;> simp
theorem num_len : ∀ (j n : Nat), n < 64 ^ (j + 1) → (num n).length ≤ j + 1 := fun j => by
  induction j with
  | zero => intro n h; rw [num_lo (by omega)]; simp
  | succ j ih =>
    intro n h
    rcases Nat.lt_or_ge n 64 with h1 | h1
    · rw [num_lo h1]; simp
    · rw [num_hi h1]; have := ih (n / 64) (Nat.div_lt_of_lt_mul (by rw [Nat.pow_succ] at h; omega)); simp; omega
theorem u8_and (m : Nat) : (64 + m % 64) &&& 63 = m % 64 := by
  have := Nat.and_two_pow_sub_one_eq_mod (64 + m % 64) 6
  simp at this
  omega
theorem and63 (n : Nat) : n &&& 63 = n % 64 := by
  have := Nat.and_two_pow_sub_one_eq_mod n 6
  simpa using this
theorem and63' (n : Nat) : 63 &&& n = n % 64 := by rw [Nat.and_comm]; exact and63 n
theorem or64 {n : Nat} (h : n < 64) : 64 ||| n = 64 + n := by
  have := Nat.two_pow_add_eq_or_of_lt (i := 6) (b := n) (by omega) 1
  simpa using this.symm
/-- a byte of a number -/
theorem numByte (n : Nat) : IntKind.wrap .u8 (((64 : Int).toNat ||| ((((n : Int).toNat &&& (63 : Int).toNat : Nat) : Int)).toNat : Nat) : Int) = ((UInt8.ofNat (64 + n % 64)).toNat : Int) := by
  have h : n % 64 < 64 := Nat.mod_lt _ (by omega)
  rw [Int.toNat_natCast, Int.toNat_natCast, show (63 : Int).toNat = 63 from rfl, show (64 : Int).toNat = 64 from rfl, and63, or64 h]
  simp only [IntKind.wrap, IntKind.bits, IntKind.signed, Bool.false_and, UInt8.toNat_ofNat', Bool.false_eq_true, if_false]
  omega
theorem numRow (acc : Bs) (n : Nat) : List.map encB acc ++ [(V.int .u8 (IntKind.wrap .u8 (((64 : Int).toNat ||| ((((n : Int).toNat &&& (63 : Int).toNat : Nat) : Int)).toNat : Nat) : Int))).cells] = List.map encB (acc ++ [UInt8.ofNat (64 + n % 64)]) := by
  rw [List.map_append, numByte]; rfl
theorem lastByte {n : Nat} (h : n < 64) : UInt8.ofNat (IntKind.wrap .u8 (n : Int)).toNat = UInt8.ofNat n := by
  simp only [IntKind.wrap, IntKind.bits, IntKind.signed, Bool.false_and, Bool.false_eq_true, if_false]
  congr 1; omega
theorem div6 (n : Nat) : (n : Int) / 2 ^ (6 : Int).toNat = ((n / 64 : Nat) : Int) := by
  rw [show (6 : Int).toNat = 6 from rfl]; omega
theorem num_step {k n : Nat} {acc : Bs} (h : num k = acc ++ num n) (h1 : 64 ≤ n) : num k = (acc ++ [UInt8.ofNat (64 + n % 64)]) ++ num (n / 64) := by
  rw [h, num_hi h1, List.append_assoc]; rfl
theorem len_step {n a : Nat} (h : n < 64 ^ (11 - a)) (h1 : 64 ≤ n) : a + 1 ≤ 10 ∧ n / 64 < 64 ^ (11 - (a + 1)) := by
  have ha : a ≤ 9 := by
    rcases Nat.lt_or_ge 9 a with h2 | h2
    · exfalso
      have : 64 ^ (11 - a) ≤ 64 ^ 1 := Nat.pow_le_pow_right (by omega) (by omega)
      omega
    · exact h2
  refine ⟨by omega, Nat.div_lt_of_lt_mul ?_⟩
  rw [show 11 - a = (11 - (a + 1)) + 1 by omega, Nat.pow_succ] at h
  omega

set_option maxRecDepth 100000 in
set_option maxHeartbeats 400000 in
theorem num_fn (k : Int) (hk : k ≤ 9223372036854775807) : Fn Tryd.prog 20 [.int .i64 k] (.str (num k.toNat)) := by
  refine Fn.mk' base Tryd.func20 rfl rfl rfl ?_
  repeat' (first
      | (with_reducible refine AW.seq ?_) | (with_reducible refine AW.region base (by kernel_rfl) ?_) | (with_reducible refine AW.cond ?_) | (with_reducible refine AW.block ?_) | (with_reducible refine AW.ret ?_) | (with_reducible refine AW.exit ?_) | (with_reducible refine AW.skip ?_)
      | ((conv => whnf); (first
         | (with_reducible refine Br.t ?_)
         | (with_reducible refine Br.f ?_)
         | ((with_reducible refine Or.inl ?_); (conv => whnf); (with_reducible refine And.intro LitSl.mk ?_))
         | (refine Br.t ?_)
         | (refine Br.f ?_)
         | (with_reducible refine Br.mk (fun hb => ?_) (fun hb => ?_) <;> (try rw [hb]) <;> (try simp only [List.length_map, decide_eq_true_eq, decide_eq_false_iff_not, Bool.not_eq_true', Bool.not_eq_false', Int.ofNat_lt, Int.ofNat_le, Int.not_lt, Int.not_le, Int.toNat_natCast] at hb))
         | (with_reducible refine ⟨_, (by first | exact ByteRows.map _ | (repeat (first | exact ByteRows.nil | exact ByteRows.map _ | refine ByteRows.cons ?_ | refine ByteRows.app ?_ ?_))), ?_⟩)
         | (refine Exists.intro _ (And.intro (ByteRows.rep _) ?_))
         | (refine Exists.intro _ (And.intro (ByteRows.app (ByteRows.map _) (ByteRows.cons ByteRows.nil)) ?_))
         | ((with_reducible refine Or.inl (And.intro ?_ ?_)); (focus (first | with_reducible rfl | exact trivial | (exact ⟨rfl, trivial⟩) | (exact ⟨rfl, rfl, trivial⟩) | omega | (intro r hr; simp only [List.mem_singleton] at hr; subst hr; rfl)  | ((simp only [List.length_map, List.length_cons, List.length_nil] at *; omega)) | ((simp only [limK]; omega)) | ((simp [limK]; omega)) | ((rw [Int.toNat_natCast, show (63 : Int).toNat = 63 from rfl, and63]; simp only [limK]; omega)) | ((rw [Int.toNat_natCast, show (63 : Int).toNat = 63 from rfl, and63]; simp [limK]; omega)) | ((exact ⟨by omega, by decide, by decide⟩)) | (simp only [in64]; omega) | assumption | (simp; done) | (simp [V.cells]; done) | (simp [in64, maxLen, limK] at *; omega) | ((show confB _ _ = true); kernel_rfl) | rfl)))
         | ((with_reducible refine And.intro ?_ ?_); (focus (first | with_reducible rfl | exact trivial | (exact ⟨rfl, trivial⟩) | (exact ⟨rfl, rfl, trivial⟩) | omega | (intro r hr; simp only [List.mem_singleton] at hr; subst hr; rfl)  | ((simp only [List.length_map, List.length_cons, List.length_nil] at *; omega)) | ((simp only [limK]; omega)) | ((simp [limK]; omega)) | ((rw [Int.toNat_natCast, show (63 : Int).toNat = 63 from rfl, and63]; simp only [limK]; omega)) | ((rw [Int.toNat_natCast, show (63 : Int).toNat = 63 from rfl, and63]; simp [limK]; omega)) | ((exact ⟨by omega, by decide, by decide⟩)) | (simp only [in64]; omega) | assumption | (simp; done) | (simp [V.cells]; done) | (simp [in64, maxLen, limK] at *; omega) | ((show confB _ _ = true); kernel_rfl) | rfl)))
         | (intro row hrow; (try simp only [Int.toNat_natCast, List.length_map, toNat_pred, toNat_succ', toNat_zero', toNat_one'] at hrow); (first | (have hsm := same_map (by assumption) hrow; subst hsm; clear hrow) | (obtain ⟨p, hp, rfl⟩ := of_map hrow; clear hrow)))
         | (with_reducible refine AW.seq ?_) | (with_reducible refine AW.region base (by kernel_rfl) ?_) | (with_reducible refine AW.cond ?_) | (with_reducible refine AW.block ?_) | (with_reducible refine AW.ret ?_) | (with_reducible refine AW.exit ?_) | (with_reducible refine AW.skip ?_))))
  refine AW.adopt 3 999999999 (el := 5) rfl rfl (rows_of 31 rfl) ?_
  refine AW.loop (fun (⟨n, acc⟩ : Nat × Bs) => num k.toNat = acc ++ num n ∧ n < 64 ^ (11 - acc.length) ∧ acc.length ≤ 10 ∧ n ≤ 9223372036854775807) (fun (⟨n, acc⟩ : Nat × Bs) => ⟨[(0, .int .i64 (n : Int)), (3, .own 0)], [.rows 5 (acc.map encB)]⟩) (fun (⟨n, acc⟩ : Nat × Bs) => n) (k.toNat, []) ?_ ?_ ?_
  · (refine ⟨rfl, ?_, by simp, ?_⟩ <;> simp <;> omega)
  · (refine ⟨⟨[999999999], ?_⟩⟩; repeat' (first | (with_reducible rfl) | exact trivial | ((conv => whnf); (first | (with_reducible refine And.intro ?_ ?_) | (first | with_reducible rfl | (refine congrArg V.str ?_; (first | with_reducible rfl | omega | exact div6 _ | exact numRow _ _ | (simp [encB, numByte]; done) | (rw [List.map_append]; simp [encB, numByte]; done) | rfl | (simp; done))) | (refine congrArg (V.int _) ?_; (first | with_reducible rfl | omega | exact div6 _ | exact numRow _ _ | (simp [encB, numByte]; done) | (rw [List.map_append]; simp [encB, numByte]; done) | rfl | (simp; done))) | (refine congrArg V.bool ?_; (first | with_reducible rfl | omega | exact div6 _ | exact numRow _ _ | (simp [encB, numByte]; done) | (rw [List.map_append]; simp [encB, numByte]; done) | rfl | (simp; done))) | (refine congrArg V.sl ?_; (first | with_reducible rfl | omega | exact div6 _ | exact numRow _ _ | (simp [encB, numByte]; done) | (rw [List.map_append]; simp [encB, numByte]; done) | rfl | (simp; done))) | (first | with_reducible rfl | omega | exact div6 _ | exact numRow _ _ | (simp [encB, numByte]; done) | (rw [List.map_append]; simp [encB, numByte]; done) | rfl | (simp; done)) | rfl)))))
  · rintro ⟨n, acc⟩ hk
    obtain ⟨hk1, hk2, hk3, hk4⟩ := hk
    repeat' (first
        | (with_reducible refine AW.seq ?_) | (with_reducible refine AW.region base (by kernel_rfl) ?_) | (with_reducible refine AW.cond ?_) | (with_reducible refine AW.block ?_) | (with_reducible refine AW.ret ?_) | (with_reducible refine AW.exit ?_) | (with_reducible refine AW.skip ?_)
        | ((conv => whnf); (first
           | (with_reducible refine Br.t ?_)
           | (with_reducible refine Br.f ?_)
           | ((with_reducible refine Or.inl ?_); (conv => whnf); (with_reducible refine And.intro LitSl.mk ?_))
           | (refine Br.t ?_)
           | (refine Br.f ?_)
           | (with_reducible refine Br.mk (fun hb => ?_) (fun hb => ?_) <;> (try rw [hb]) <;> (try simp only [List.length_map, decide_eq_true_eq, decide_eq_false_iff_not, Bool.not_eq_true', Bool.not_eq_false', Int.ofNat_lt, Int.ofNat_le, Int.not_lt, Int.not_le, Int.toNat_natCast] at hb))
           | (with_reducible refine ⟨_, (by first | exact ByteRows.map _ | (repeat (first | exact ByteRows.nil | exact ByteRows.map _ | refine ByteRows.cons ?_ | refine ByteRows.app ?_ ?_))), ?_⟩)
           | (refine Exists.intro _ (And.intro (ByteRows.rep _) ?_))
           | (refine Exists.intro _ (And.intro (ByteRows.app (ByteRows.map _) (ByteRows.cons ByteRows.nil)) ?_))
           | ((with_reducible refine Or.inl (And.intro ?_ ?_)); (focus (first | with_reducible rfl | exact trivial | (exact ⟨rfl, trivial⟩) | (exact ⟨rfl, rfl, trivial⟩) | omega | (intro r hr; simp only [List.mem_singleton] at hr; subst hr; rfl)  | ((simp only [List.length_map, List.length_cons, List.length_nil] at *; omega)) | ((simp only [limK]; omega)) | ((simp [limK]; omega)) | ((rw [Int.toNat_natCast, show (63 : Int).toNat = 63 from rfl, and63]; simp only [limK]; omega)) | ((rw [Int.toNat_natCast, show (63 : Int).toNat = 63 from rfl, and63]; simp [limK]; omega)) | ((exact ⟨by omega, by decide, by decide⟩)) | (simp only [in64]; omega) | assumption | (simp; done) | (simp [V.cells]; done) | (simp [in64, maxLen, limK] at *; omega) | ((show confB _ _ = true); kernel_rfl) | rfl)))
           | ((with_reducible refine And.intro ?_ ?_); (focus (first | with_reducible rfl | exact trivial | (exact ⟨rfl, trivial⟩) | (exact ⟨rfl, rfl, trivial⟩) | omega | (intro r hr; simp only [List.mem_singleton] at hr; subst hr; rfl)  | ((simp only [List.length_map, List.length_cons, List.length_nil] at *; omega)) | ((simp only [limK]; omega)) | ((simp [limK]; omega)) | ((rw [Int.toNat_natCast, show (63 : Int).toNat = 63 from rfl, and63]; simp only [limK]; omega)) | ((rw [Int.toNat_natCast, show (63 : Int).toNat = 63 from rfl, and63]; simp [limK]; omega)) | ((exact ⟨by omega, by decide, by decide⟩)) | (simp only [in64]; omega) | assumption | (simp; done) | (simp [V.cells]; done) | (simp [in64, maxLen, limK] at *; omega) | ((show confB _ _ = true); kernel_rfl) | rfl)))
           | (intro row hrow; (try simp only [Int.toNat_natCast, List.length_map, toNat_pred, toNat_succ', toNat_zero', toNat_one'] at hrow); (first | (have hsm := same_map (by assumption) hrow; subst hsm; clear hrow) | (obtain ⟨p, hp, rfl⟩ := of_map hrow; clear hrow)))
           | (with_reducible refine AW.seq ?_) | (with_reducible refine AW.region base (by kernel_rfl) ?_) | (with_reducible refine AW.cond ?_) | (with_reducible refine AW.block ?_) | (with_reducible refine AW.ret ?_) | (with_reducible refine AW.exit ?_) | (with_reducible refine AW.skip ?_))))
    all_goals (try first | with_reducible assumption | ((show (_ : Int) ≤ _); (first | omega | (simp at *; omega))) | ((show (_ : Nat) ≤ _); (first | omega | (simp at *; omega))) | ((show in64 _); (simp only [in64] at *; (first | omega | (simp at *; omega)))) | ((show (_ : Int) < _); (first | omega | (simp at *; omega))) | ((show ¬ (_ : Int) = _); (first | omega | (simp at *; omega))) | ((with_reducible refine And.intro ?_ ?_) <;> (first | omega | (simp at *; omega))))
    all_goals (first
      | (with_reducible exact absurd rfl (by assumption))
      | ((conv => whnf); (refine ⟨(n / 64, acc ++ [UInt8.ofNat (64 + n % 64)]), ?_⟩); (refine And.intro ?_ (And.intro ?_ ?_)); (focus (refine ⟨⟨[?_], ?_⟩⟩; rotate_left 1; repeat' (first | (with_reducible rfl) | exact trivial | ((conv => whnf); (first | (with_reducible refine And.intro ?_ ?_) | (first | with_reducible rfl | (refine congrArg V.str ?_; (first | with_reducible rfl | omega | exact div6 _ | exact numRow _ _ | (simp [encB, numByte]; done) | (rw [List.map_append]; simp [encB, numByte]; done) | rfl | (simp; done))) | (refine congrArg (V.int _) ?_; (first | with_reducible rfl | omega | exact div6 _ | exact numRow _ _ | (simp [encB, numByte]; done) | (rw [List.map_append]; simp [encB, numByte]; done) | rfl | (simp; done))) | (refine congrArg V.bool ?_; (first | with_reducible rfl | omega | exact div6 _ | exact numRow _ _ | (simp [encB, numByte]; done) | (rw [List.map_append]; simp [encB, numByte]; done) | rfl | (simp; done))) | (refine congrArg V.sl ?_; (first | with_reducible rfl | omega | exact div6 _ | exact numRow _ _ | (simp [encB, numByte]; done) | (rw [List.map_append]; simp [encB, numByte]; done) | rfl | (simp; done))) | (first | with_reducible rfl | omega | exact div6 _ | exact numRow _ _ | (simp [encB, numByte]; done) | (rw [List.map_append]; simp [encB, numByte]; done) | rfl | (simp; done)) | rfl)))))); (focus (have hs := len_step hk2 (by omega); exact ⟨num_step hk1 (by omega), by simpa using hs.2, by simpa using hs.1, by omega⟩)); (focus (first | omega | (dsimp only; omega) | (simp; done) | (simp; omega) | (simp at *; omega))))
      | ((conv => whnf); (try (first | rfl | (exfalso; simp_all; done) | (exfalso; simp at *; omega) | (refine congrArg V.str ?_; rw [hk1, num_lo (by omega), lastByte (by omega)]))); done))


theorem y63 (y : Nat) : ((y : Int).toNat &&& (63 : Int).toNat) = y % 64 := by rw [Int.toNat_natCast, show (63 : Int).toNat = 63 from rfl, and63]
theorem pow6 (i : Nat) : (2 : Int) ^ (6 * (i : Int)).toNat = ((64 ^ i : Nat) : Int) := by
  rw [show (6 * (i : Int)).toNat = 6 * i by omega, Int.pow_mul, Int.natCast_pow]
  rfl

theorem pow_lt8 {i : Nat} (hi : i ≤ 7) : 64 ^ i ≤ 4398046511104 := by
  have := Nat.pow_le_pow_right (n := 64) (by omega) hi
  omega
theorem mul_bound {x i : Nat} (hi : i ≤ 7) (hx : x ≤ 63) : x * 64 ^ i ≤ 277076930199552 := by
  have h1 := Nat.mul_le_mul hx (pow_lt8 hi)
  omega
theorem shl_in64 (y i : Nat) (hi : i ≤ 7) : in64 ((((y : Int).toNat &&& (63 : Int).toNat : Nat) : Int) * 2 ^ (6 * (i : Int)).toNat) := by
  rw [y63, pow6, ← Int.natCast_mul]
  have := mul_bound (x := y % 64) hi (by omega)
  simp only [in64]; omega
theorem or_side (n y i : Nat) (hi : i ≤ 7) (hn : n < 281474976710656) : 0 ≤ (n : Int) ∧ (n : Int) ≤ limK .i64 ∧ 0 ≤ (((y : Int).toNat &&& (63 : Int).toNat : Nat) : Int) * 2 ^ (6 * (i : Int)).toNat ∧ (((y : Int).toNat &&& (63 : Int).toNat : Nat) : Int) * 2 ^ (6 * (i : Int)).toNat ≤ limK .i64 := by
  rw [y63, pow6, ← Int.natCast_mul]
  have := mul_bound (x := y % 64) hi (by omega)
  simp only [limK]; omega
theorem or_val (n y i : Nat) (hn : n < 64 ^ i) : ((n : Int).toNat ||| ((((y : Int).toNat &&& (63 : Int).toNat : Nat) : Int) * 2 ^ (6 * (i : Int)).toNat).toNat) = n + y % 64 * 64 ^ i := by
  rw [y63, pow6, ← Int.natCast_mul, Int.toNat_natCast, Int.toNat_natCast]
  have h2 : (64 : Nat) ^ i = 2 ^ (6 * i) := by rw [Nat.pow_mul]
  rw [h2] at hn ⊢
  have := Nat.two_pow_add_eq_or_of_lt hn (y % 64)
  rw [Nat.or_comm, Nat.mul_comm (y % 64), ← this]; omega
theorem ret3 {a b : Int} {x y : Bs} {e : V} (h1 : a = b) (h2 : x = y) : V.tup [.int .i64 a, .str x, e] = V.tup [.int .i64 b, .str y, e] := by rw [h1, h2]
theorem drop_head {s t : Bs} {i : Nat} {b : UInt8} (h : s.drop i = b :: t) : i < s.length ∧ s.getD i 0 = b ∧ s.drop (i + 1) = t := by
  have h1 : i < s.length := by
    rcases Nat.lt_or_ge i s.length with h1 | h1
    · exact h1
    · rw [List.drop_eq_nil_of_le h1] at h; cases h
  rw [List.drop_eq_getElem_cons h1] at h
  injection h with h2 h3
  exact ⟨h1, by rw [List.getD_eq_getElem?_getD, List.getElem?_eq_getElem h1]; exact h2, h3⟩
theorem take_lo {s rest : Bs} {i m : Nat} (h : s.drop i = num m ++ rest) (hm : m < 64) : i < s.length ∧ (s.getD i 0).toNat = m ∧ s.drop (i + 1) = rest := by
  rw [num_lo hm] at h
  obtain ⟨h1, h2, h3⟩ := drop_head (t := rest) h
  exact ⟨h1, by rw [h2, UInt8.toNat_ofNat']; omega, h3⟩
theorem take_hi {s rest : Bs} {i m : Nat} (h : s.drop i = num m ++ rest) (hm : 64 ≤ m) : i < s.length ∧ (s.getD i 0).toNat = 64 + m % 64 ∧ s.drop (i + 1) = num (m / 64) ++ rest := by
  rw [num_hi hm] at h
  obtain ⟨h1, h2, h3⟩ := drop_head (t := num (m / 64) ++ rest) h
  exact ⟨h1, by rw [h2, UInt8.toNat_ofNat']; omega, h3⟩
theorem next_le {k n m i : Nat} (hk : k = n + m * 64 ^ i) (h8 : k < 281474976710656) (hm : 64 ≤ m) : i + 1 ≤ 7 := by
  rcases Nat.lt_or_ge i 7 with h | h
  · omega
  · exfalso
    have h1 : 64 ^ 7 ≤ 64 ^ i := Nat.pow_le_pow_right (by omega) h
    have h2 := Nat.mul_le_mul hm h1
    omega
theorem next_eq {k n m i : Nat} (hk : k = n + m * 64 ^ i) : k = (n + m % 64 * 64 ^ i) + m / 64 * 64 ^ (i + 1) := by
  rw [hk, Nat.pow_succ]
  have h1 : m * 64 ^ i = (m / 64 * 64 + m % 64) * 64 ^ i := by rw [show m / 64 * 64 + m % 64 = m by omega]
  rw [h1, Nat.add_mul, Nat.mul_assoc, Nat.mul_comm 64 (64 ^ i)]
  omega
theorem next_lt {n i y : Nat} (h : n < 64 ^ i) : n + y % 64 * 64 ^ i < 64 ^ (i + 1) := by
  rw [Nat.pow_succ]
  have := Nat.mul_le_mul_right (64 ^ i) (show y % 64 ≤ 63 by omega)
  omega
theorem lt8 {n i : Nat} (h : n < 64 ^ i) (hi : i ≤ 7) : n < 281474976710656 := by have := pow_lt8 hi; omega

set_option maxRecDepth 100000 in
set_option maxHeartbeats 400000 in
theorem take_ok' (s : Bs) (k : Nat) (rest : Bs) (hs : s = num k ++ rest) (hk8 : k < 281474976710656) : Fn Tryd.prog 32 [.str s] (.tup [.int .i64 (k : Int), .str rest, noErr]) := by
  refine Fn.mk' base Tryd.func32 rfl rfl rfl ?_
  repeat' (first
      | (with_reducible refine AW.seq ?_) | (with_reducible refine AW.region base (by kernel_rfl) ?_) | (with_reducible refine AW.cond ?_) | (with_reducible refine AW.block ?_) | (with_reducible refine AW.ret ?_) | (with_reducible refine AW.exit ?_) | (with_reducible refine AW.skip ?_)
      | ((conv => whnf); (first
         | (with_reducible refine Br.t ?_)
         | (with_reducible refine Br.f ?_)
         | ((with_reducible refine Or.inl ?_); (conv => whnf); (with_reducible refine And.intro LitSl.mk ?_))
         | (refine Br.t ?_)
         | (refine Br.f ?_)
         | (with_reducible refine Br.mk (fun hb => ?_) (fun hb => ?_) <;> (try rw [hb]) <;> (try simp only [List.length_map, decide_eq_true_eq, decide_eq_false_iff_not, Bool.not_eq_true', Bool.not_eq_false', Int.ofNat_lt, Int.ofNat_le, Int.not_lt, Int.not_le, Int.toNat_natCast] at hb))
         | (with_reducible refine ⟨_, (by first | exact ByteRows.map _ | (repeat (first | exact ByteRows.nil | exact ByteRows.map _ | refine ByteRows.cons ?_ | refine ByteRows.app ?_ ?_))), ?_⟩)
         | (refine Exists.intro _ (And.intro (ByteRows.rep _) ?_))
         | (refine Exists.intro _ (And.intro (ByteRows.app (ByteRows.map _) (ByteRows.cons ByteRows.nil)) ?_))
         | ((with_reducible refine Or.inl (And.intro ?_ ?_)); (focus (first | with_reducible rfl | exact trivial | (exact ⟨rfl, trivial⟩) | (exact ⟨rfl, rfl, trivial⟩) | omega | (intro r hr; simp only [List.mem_singleton] at hr; subst hr; rfl)  | ((exact shl_in64 _ _ (by omega))) | ((exact or_side _ _ _ (by omega) (by assumption))) | ((simp only [in64]; rw [y63]; omega)) | ((simp only [limK]; omega)) | ((simp [limK]; omega)) | ((simp [IntKind.bits]; omega)) | (simp only [in64]; omega) | assumption | (simp; done) | (simp [V.cells]; done) | (simp [in64, maxLen, limK] at *; omega) | ((show confB _ _ = true); kernel_rfl) | rfl)))
         | ((with_reducible refine And.intro ?_ ?_); (focus (first | with_reducible rfl | exact trivial | (exact ⟨rfl, trivial⟩) | (exact ⟨rfl, rfl, trivial⟩) | omega | (intro r hr; simp only [List.mem_singleton] at hr; subst hr; rfl)  | ((exact shl_in64 _ _ (by omega))) | ((exact or_side _ _ _ (by omega) (by assumption))) | ((simp only [in64]; rw [y63]; omega)) | ((simp only [limK]; omega)) | ((simp [limK]; omega)) | ((simp [IntKind.bits]; omega)) | (simp only [in64]; omega) | assumption | (simp; done) | (simp [V.cells]; done) | (simp [in64, maxLen, limK] at *; omega) | ((show confB _ _ = true); kernel_rfl) | rfl)))
         | (intro row hrow; (try simp only [Int.toNat_natCast, List.length_map, toNat_pred, toNat_succ', toNat_zero', toNat_one'] at hrow); (first | (have hsm := same_map (by assumption) hrow; subst hsm; clear hrow) | (obtain ⟨p, hp, rfl⟩ := of_map hrow; clear hrow)))
         | (with_reducible refine AW.seq ?_) | (with_reducible refine AW.region base (by kernel_rfl) ?_) | (with_reducible refine AW.cond ?_) | (with_reducible refine AW.block ?_) | (with_reducible refine AW.ret ?_) | (with_reducible refine AW.exit ?_) | (with_reducible refine AW.skip ?_))))
  refine AW.loop (fun (⟨i, n, m⟩ : Nat × Nat × Nat) => i ≤ 7 ∧ k = n + m * 64 ^ i ∧ n < 64 ^ i ∧ (0 < i → 0 < m) ∧ s.drop i = num m ++ rest) (fun (⟨i, n, m⟩ : Nat × Nat × Nat) => ⟨[(0, .str s), (5, .int .i64 (n : Int)), (7, .int .i64 (i : Int))], []⟩) (fun (⟨i, n, m⟩ : Nat × Nat × Nat) => 8 - i) (0, 0, k) ?_ ?_ ?_
  · (refine ⟨by omega, by simp, by simp, by simp, hs⟩)
  · (refine ⟨⟨[], ?_⟩⟩; repeat' (first | (with_reducible rfl) | exact trivial | ((conv => whnf); (first | (with_reducible refine And.intro ?_ ?_) | (first | with_reducible rfl | (refine congrArg V.str ?_; (first | with_reducible rfl | omega | exact congrArg (fun x : Nat => (x : Int)) ((or_val _ _ _ hk3).trans (congrArg (fun x => n + x * 64 ^ i) hy)) | rfl | (simp; done))) | (refine congrArg (V.int _) ?_; (first | with_reducible rfl | omega | exact congrArg (fun x : Nat => (x : Int)) ((or_val _ _ _ hk3).trans (congrArg (fun x => n + x * 64 ^ i) hy)) | rfl | (simp; done))) | (refine congrArg V.bool ?_; (first | with_reducible rfl | omega | exact congrArg (fun x : Nat => (x : Int)) ((or_val _ _ _ hk3).trans (congrArg (fun x => n + x * 64 ^ i) hy)) | rfl | (simp; done))) | (refine congrArg V.sl ?_; (first | with_reducible rfl | omega | exact congrArg (fun x : Nat => (x : Int)) ((or_val _ _ _ hk3).trans (congrArg (fun x => n + x * 64 ^ i) hy)) | rfl | (simp; done))) | (first | with_reducible rfl | omega | exact congrArg (fun x : Nat => (x : Int)) ((or_val _ _ _ hk3).trans (congrArg (fun x => n + x * 64 ^ i) hy)) | rfl | (simp; done)) | rfl)))))
  · rintro ⟨i, n, m⟩ hk
    obtain ⟨hk1, hk2, hk3, hk4, hk5⟩ := hk
    have hn8 := lt8 hk3 hk1
    rcases Nat.lt_or_ge m 64 with hm | hm
    · obtain ⟨hl, hx, hd⟩ := take_lo hk5 hm
      have hy : (s.getD (i : Int).toNat 0).toNat % 64 = m := by rw [Int.toNat_natCast, hx]; omega
      have hret : n + (s.getD (i : Int).toNat 0).toNat % 64 * 64 ^ i = k := by rw [hy]; exact hk2.symm
      have hdrop : List.drop ((i : Int) + 1).toNat (List.take s.length s) = rest := by rw [List.take_length, toNat_succ']; exact hd
      repeat' (first
          | (with_reducible refine AW.seq ?_) | (with_reducible refine AW.region base (by kernel_rfl) ?_) | (with_reducible refine AW.cond ?_) | (with_reducible refine AW.block ?_) | (with_reducible refine AW.ret ?_) | (with_reducible refine AW.exit ?_) | (with_reducible refine AW.skip ?_)
          | ((conv => whnf); (first
             | (with_reducible refine Br.t ?_)
             | (with_reducible refine Br.f ?_)
             | ((with_reducible refine Or.inl ?_); (conv => whnf); (with_reducible refine And.intro LitSl.mk ?_))
             | (refine Br.t ?_)
             | (refine Br.f ?_)
             | (with_reducible refine Br.mk (fun hb => ?_) (fun hb => (by exfalso; simp at hb; omega)))
             | (with_reducible refine Br.mk (fun hb => (by exfalso; simp at hb; omega)) (fun hb => ?_))
             | (with_reducible refine Or.inl ⟨_, new_fn _ _ (by decide), ?_⟩)
             | ((with_reducible refine Or.inl ?_); (conv => whnf); (with_reducible refine ⟨_, new_fn _ _ (by decide), ?_⟩))
             | (with_reducible refine Br.mk (fun hb => ?_) (fun hb => ?_) <;> (try rw [hb]) <;> (try simp only [List.length_map, decide_eq_true_eq, decide_eq_false_iff_not, Bool.not_eq_true', Bool.not_eq_false', Int.ofNat_lt, Int.ofNat_le, Int.not_lt, Int.not_le, Int.toNat_natCast, List.length_append] at hb))
             | (with_reducible refine ⟨_, (by first | exact ByteRows.map _ | (repeat (first | exact ByteRows.nil | exact ByteRows.map _ | refine ByteRows.cons ?_ | refine ByteRows.app ?_ ?_))), ?_⟩)
             | (refine Exists.intro _ (And.intro (ByteRows.rep _) ?_))
             | (refine Exists.intro _ (And.intro (ByteRows.app (ByteRows.map _) (ByteRows.cons ByteRows.nil)) ?_))
             | ((with_reducible refine Or.inl (And.intro ?_ ?_)); (focus (first | with_reducible rfl | exact trivial | (exact ⟨rfl, trivial⟩) | (exact ⟨rfl, rfl, trivial⟩) | omega | (intro r hr; simp only [List.mem_singleton] at hr; subst hr; rfl)  | ((exact shl_in64 _ _ (by omega))) | ((exact or_side _ _ _ (by omega) (by assumption))) | ((simp only [in64]; rw [y63]; omega)) | ((simp only [limK]; omega)) | ((simp [limK]; omega)) | ((simp [IntKind.bits]; omega)) | (simp only [in64]; omega) | assumption | (simp; done) | (simp [V.cells]; done) | (simp [in64, maxLen, limK] at *; omega) | ((show confB _ _ = true); kernel_rfl) | rfl)))
             | ((with_reducible refine And.intro ?_ ?_); (focus (first | with_reducible rfl | exact trivial | (exact ⟨rfl, trivial⟩) | (exact ⟨rfl, rfl, trivial⟩) | omega | (intro r hr; simp only [List.mem_singleton] at hr; subst hr; rfl)  | ((exact shl_in64 _ _ (by omega))) | ((exact or_side _ _ _ (by omega) (by assumption))) | ((simp only [in64]; rw [y63]; omega)) | ((simp only [limK]; omega)) | ((simp [limK]; omega)) | ((simp [IntKind.bits]; omega)) | (simp only [in64]; omega) | assumption | (simp; done) | (simp [V.cells]; done) | (simp [in64, maxLen, limK] at *; omega) | ((show confB _ _ = true); kernel_rfl) | rfl)))
             | (intro row hrow; (try simp only [Int.toNat_natCast, List.length_map, toNat_pred, toNat_succ', toNat_zero', toNat_one'] at hrow); (first | (have hsm := same_map (by assumption) hrow; subst hsm; clear hrow) | (obtain ⟨p, hp, rfl⟩ := of_map hrow; clear hrow)))
             | (with_reducible refine AW.seq ?_) | (with_reducible refine AW.region base (by kernel_rfl) ?_) | (with_reducible refine AW.cond ?_) | (with_reducible refine AW.block ?_) | (with_reducible refine AW.ret ?_) | (with_reducible refine AW.exit ?_) | (with_reducible refine AW.skip ?_))))
      all_goals ((conv => whnf); first | (exact ret3 (congrArg (fun x : Nat => (x : Int)) ((or_val _ _ _ hk3).trans hret)) hdrop) | (exfalso; simp at *; omega))
    obtain ⟨hl, hx, hd⟩ := take_hi hk5 hm
    have hy : (s.getD (i : Int).toNat 0).toNat % 64 = m % 64 := by rw [Int.toNat_natCast, hx]; omega
    have hi := next_le hk2 hk8 hm
    repeat' (first
        | (with_reducible refine AW.seq ?_) | (with_reducible refine AW.region base (by kernel_rfl) ?_) | (with_reducible refine AW.cond ?_) | (with_reducible refine AW.block ?_) | (with_reducible refine AW.ret ?_) | (with_reducible refine AW.exit ?_) | (with_reducible refine AW.skip ?_)
        | ((conv => whnf); (first
           | (with_reducible refine Br.t ?_)
           | (with_reducible refine Br.f ?_)
           | ((with_reducible refine Or.inl ?_); (conv => whnf); (with_reducible refine And.intro LitSl.mk ?_))
           | (refine Br.t ?_)
           | (refine Br.f ?_)
           | (with_reducible refine Br.mk (fun hb => ?_) (fun hb => (by exfalso; simp at hb; omega)))
           | (with_reducible refine Br.mk (fun hb => (by exfalso; simp at hb; omega)) (fun hb => ?_))
           | (with_reducible refine Or.inl ⟨_, new_fn _ _ (by decide), ?_⟩)
           | ((with_reducible refine Or.inl ?_); (conv => whnf); (with_reducible refine ⟨_, new_fn _ _ (by decide), ?_⟩))
           | (with_reducible refine Br.mk (fun hb => ?_) (fun hb => ?_) <;> (try rw [hb]) <;> (try simp only [List.length_map, decide_eq_true_eq, decide_eq_false_iff_not, Bool.not_eq_true', Bool.not_eq_false', Int.ofNat_lt, Int.ofNat_le, Int.not_lt, Int.not_le, Int.toNat_natCast, List.length_append] at hb))
           | (with_reducible refine ⟨_, (by first | exact ByteRows.map _ | (repeat (first | exact ByteRows.nil | exact ByteRows.map _ | refine ByteRows.cons ?_ | refine ByteRows.app ?_ ?_))), ?_⟩)
           | (refine Exists.intro _ (And.intro (ByteRows.rep _) ?_))
           | (refine Exists.intro _ (And.intro (ByteRows.app (ByteRows.map _) (ByteRows.cons ByteRows.nil)) ?_))
           | ((with_reducible refine Or.inl (And.intro ?_ ?_)); (focus (first | with_reducible rfl | exact trivial | (exact ⟨rfl, trivial⟩) | (exact ⟨rfl, rfl, trivial⟩) | omega | (intro r hr; simp only [List.mem_singleton] at hr; subst hr; rfl)  | ((exact shl_in64 _ _ (by omega))) | ((exact or_side _ _ _ (by omega) (by assumption))) | ((simp only [in64]; rw [y63]; omega)) | ((simp only [limK]; omega)) | ((simp [limK]; omega)) | ((simp [IntKind.bits]; omega)) | (simp only [in64]; omega) | assumption | (simp; done) | (simp [V.cells]; done) | (simp [in64, maxLen, limK] at *; omega) | ((show confB _ _ = true); kernel_rfl) | rfl)))
           | ((with_reducible refine And.intro ?_ ?_); (focus (first | with_reducible rfl | exact trivial | (exact ⟨rfl, trivial⟩) | (exact ⟨rfl, rfl, trivial⟩) | omega | (intro r hr; simp only [List.mem_singleton] at hr; subst hr; rfl)  | ((exact shl_in64 _ _ (by omega))) | ((exact or_side _ _ _ (by omega) (by assumption))) | ((simp only [in64]; rw [y63]; omega)) | ((simp only [limK]; omega)) | ((simp [limK]; omega)) | ((simp [IntKind.bits]; omega)) | (simp only [in64]; omega) | assumption | (simp; done) | (simp [V.cells]; done) | (simp [in64, maxLen, limK] at *; omega) | ((show confB _ _ = true); kernel_rfl) | rfl)))
           | (intro row hrow; (try simp only [Int.toNat_natCast, List.length_map, toNat_pred, toNat_succ', toNat_zero', toNat_one'] at hrow); (first | (have hsm := same_map (by assumption) hrow; subst hsm; clear hrow) | (obtain ⟨p, hp, rfl⟩ := of_map hrow; clear hrow)))
           | (with_reducible refine AW.seq ?_) | (with_reducible refine AW.region base (by kernel_rfl) ?_) | (with_reducible refine AW.cond ?_) | (with_reducible refine AW.block ?_) | (with_reducible refine AW.ret ?_) | (with_reducible refine AW.exit ?_) | (with_reducible refine AW.skip ?_))))
    all_goals (try first | with_reducible assumption | ((show (_ : Int) ≤ _); (first | omega | (simp at *; omega))) | ((show (_ : Nat) ≤ _); (first | omega | (simp at *; omega))) | ((show in64 _); (simp only [in64] at *; (first | omega | (simp at *; omega)))) | ((show (_ : Int) < _); (first | omega | (simp at *; omega))) | ((show ¬ (_ : Int) = _); (first | omega | (simp at *; omega))) | ((with_reducible refine And.intro ?_ ?_) <;> (first | omega | (simp at *; omega))))
    all_goals (first
      | (with_reducible exact absurd rfl (by assumption))
      | ((conv => whnf); (refine ⟨(i + 1, n + m % 64 * 64 ^ i, m / 64), ?_⟩); (refine And.intro ?_ (And.intro ?_ ?_)); (focus (refine ⟨⟨[], ?_⟩⟩; repeat' (first | (with_reducible rfl) | exact trivial | ((conv => whnf); (first | (with_reducible refine And.intro ?_ ?_) | (first | with_reducible rfl | (refine congrArg V.str ?_; (first | with_reducible rfl | omega | exact congrArg (fun x : Nat => (x : Int)) ((or_val _ _ _ hk3).trans (congrArg (fun x => n + x * 64 ^ i) hy)) | rfl | (simp; done))) | (refine congrArg (V.int _) ?_; (first | with_reducible rfl | omega | exact congrArg (fun x : Nat => (x : Int)) ((or_val _ _ _ hk3).trans (congrArg (fun x => n + x * 64 ^ i) hy)) | rfl | (simp; done))) | (refine congrArg V.bool ?_; (first | with_reducible rfl | omega | exact congrArg (fun x : Nat => (x : Int)) ((or_val _ _ _ hk3).trans (congrArg (fun x => n + x * 64 ^ i) hy)) | rfl | (simp; done))) | (refine congrArg V.sl ?_; (first | with_reducible rfl | omega | exact congrArg (fun x : Nat => (x : Int)) ((or_val _ _ _ hk3).trans (congrArg (fun x => n + x * 64 ^ i) hy)) | rfl | (simp; done))) | (first | with_reducible rfl | omega | exact congrArg (fun x : Nat => (x : Int)) ((or_val _ _ _ hk3).trans (congrArg (fun x => n + x * 64 ^ i) hy)) | rfl | (simp; done)) | rfl)))))); (focus (exact ⟨hi, next_eq hk2, next_lt hk3, fun _ => by omega, hd⟩)); (focus (first | omega | (dsimp only; omega) | (simp; done) | (simp; omega) | (simp at *; omega))))
      | ((conv => whnf); (try (first | rfl | (exfalso; simp_all; done) | (exfalso; simp at *; omega))); done))


theorem take_ok (k : Nat) (rest : Bs) (hk8 : k < 281474976710656) : Fn Tryd.prog 32 [.str (num k ++ rest)] (.tup [.int .i64 (k : Int), .str rest, noErr]) := take_ok' _ k rest rfl hk8

set_option maxRecDepth 100000 in
set_option maxHeartbeats 400000 in
theorem take_short' (s : Bs) (h : ∀ (j : Nat), j < s.length → 64 ≤ (s.getD j 0).toNat ∧ (s.getD j 0).toNat ≤ 127) (hl : s.length ≤ 7) : Fn Tryd.prog 32 [.str s] (.tup [.int .i64 0, .str s, errV [[112, 97, 99, 107]] 11]) := by
  refine Fn.mk' base Tryd.func32 rfl rfl rfl ?_
  repeat' (first
      | (with_reducible refine AW.seq ?_) | (with_reducible refine AW.region base (by kernel_rfl) ?_) | (with_reducible refine AW.cond ?_) | (with_reducible refine AW.block ?_) | (with_reducible refine AW.ret ?_) | (with_reducible refine AW.exit ?_) | (with_reducible refine AW.skip ?_)
      | ((conv => whnf); (first
         | (with_reducible refine Br.t ?_)
         | (with_reducible refine Br.f ?_)
         | ((with_reducible refine Or.inl ?_); (conv => whnf); (with_reducible refine And.intro LitSl.mk ?_))
         | (refine Br.t ?_)
         | (refine Br.f ?_)
         | (with_reducible refine Br.mk (fun hb => ?_) (fun hb => ?_) <;> (try rw [hb]) <;> (try simp only [List.length_map, decide_eq_true_eq, decide_eq_false_iff_not, Bool.not_eq_true', Bool.not_eq_false', Int.ofNat_lt, Int.ofNat_le, Int.not_lt, Int.not_le, Int.toNat_natCast] at hb))
         | (with_reducible refine ⟨_, (by first | exact ByteRows.map _ | (repeat (first | exact ByteRows.nil | exact ByteRows.map _ | refine ByteRows.cons ?_ | refine ByteRows.app ?_ ?_))), ?_⟩)
         | (refine Exists.intro _ (And.intro (ByteRows.rep _) ?_))
         | (refine Exists.intro _ (And.intro (ByteRows.app (ByteRows.map _) (ByteRows.cons ByteRows.nil)) ?_))
         | ((with_reducible refine Or.inl (And.intro ?_ ?_)); (focus (first | with_reducible rfl | exact trivial | (exact ⟨rfl, trivial⟩) | (exact ⟨rfl, rfl, trivial⟩) | omega | (intro r hr; simp only [List.mem_singleton] at hr; subst hr; rfl)  | ((exact shl_in64 _ _ (by omega))) | ((exact or_side _ _ _ (by omega) (by assumption))) | ((simp only [in64]; rw [y63]; omega)) | ((simp only [limK]; omega)) | ((simp [limK]; omega)) | ((simp [IntKind.bits]; omega)) | (simp only [in64]; omega) | assumption | (simp; done) | (simp [V.cells]; done) | (simp [in64, maxLen, limK] at *; omega) | ((show confB _ _ = true); kernel_rfl) | rfl)))
         | ((with_reducible refine And.intro ?_ ?_); (focus (first | with_reducible rfl | exact trivial | (exact ⟨rfl, trivial⟩) | (exact ⟨rfl, rfl, trivial⟩) | omega | (intro r hr; simp only [List.mem_singleton] at hr; subst hr; rfl)  | ((exact shl_in64 _ _ (by omega))) | ((exact or_side _ _ _ (by omega) (by assumption))) | ((simp only [in64]; rw [y63]; omega)) | ((simp only [limK]; omega)) | ((simp [limK]; omega)) | ((simp [IntKind.bits]; omega)) | (simp only [in64]; omega) | assumption | (simp; done) | (simp [V.cells]; done) | (simp [in64, maxLen, limK] at *; omega) | ((show confB _ _ = true); kernel_rfl) | rfl)))
         | (intro row hrow; (try simp only [Int.toNat_natCast, List.length_map, toNat_pred, toNat_succ', toNat_zero', toNat_one'] at hrow); (first | (have hsm := same_map (by assumption) hrow; subst hsm; clear hrow) | (obtain ⟨p, hp, rfl⟩ := of_map hrow; clear hrow)))
         | (with_reducible refine AW.seq ?_) | (with_reducible refine AW.region base (by kernel_rfl) ?_) | (with_reducible refine AW.cond ?_) | (with_reducible refine AW.block ?_) | (with_reducible refine AW.ret ?_) | (with_reducible refine AW.exit ?_) | (with_reducible refine AW.skip ?_))))
  refine AW.loop (fun (⟨i, n⟩ : Nat × Nat) => i ≤ s.length ∧ n < 64 ^ i) (fun (⟨i, n⟩ : Nat × Nat) => ⟨[(0, .str s), (5, .int .i64 (n : Int)), (7, .int .i64 (i : Int))], []⟩) (fun (⟨i, n⟩ : Nat × Nat) => 8 - i) (0, 0) ?_ ?_ ?_
  · (exact ⟨by omega, by simp⟩)
  · (refine ⟨⟨[], ?_⟩⟩; repeat' (first | (with_reducible rfl) | exact trivial | ((conv => whnf); (first | (with_reducible refine And.intro ?_ ?_) | (first | with_reducible rfl | (refine congrArg V.str ?_; (first | with_reducible rfl | omega | exact congrArg (fun x : Nat => (x : Int)) (or_val _ _ _ hk3) | rfl | (simp; done))) | (refine congrArg (V.int _) ?_; (first | with_reducible rfl | omega | exact congrArg (fun x : Nat => (x : Int)) (or_val _ _ _ hk3) | rfl | (simp; done))) | (refine congrArg V.bool ?_; (first | with_reducible rfl | omega | exact congrArg (fun x : Nat => (x : Int)) (or_val _ _ _ hk3) | rfl | (simp; done))) | (refine congrArg V.sl ?_; (first | with_reducible rfl | omega | exact congrArg (fun x : Nat => (x : Int)) (or_val _ _ _ hk3) | rfl | (simp; done))) | (first | with_reducible rfl | omega | exact congrArg (fun x : Nat => (x : Int)) (or_val _ _ _ hk3) | rfl | (simp; done)) | rfl)))))
  · rintro ⟨i, n⟩ hk
    obtain ⟨hk1, hk3⟩ := hk
    have hn8 := lt8 hk3 (by omega)
    rcases (by omega : i < s.length ∨ i = s.length) with hi | hi
    · have hx := h i hi
      have hq : s.getD (i : Int).toNat 0 = s.getD i 0 := by rw [Int.toNat_natCast]
      repeat' (first
          | (with_reducible refine AW.seq ?_) | (with_reducible refine AW.region base (by kernel_rfl) ?_) | (with_reducible refine AW.cond ?_) | (with_reducible refine AW.block ?_) | (with_reducible refine AW.ret ?_) | (with_reducible refine AW.exit ?_) | (with_reducible refine AW.skip ?_)
          | ((conv => whnf); (first
             | (with_reducible refine Br.t ?_)
             | (with_reducible refine Br.f ?_)
             | ((with_reducible refine Or.inl ?_); (conv => whnf); (with_reducible refine And.intro LitSl.mk ?_))
             | (refine Br.t ?_)
             | (refine Br.f ?_)
             | (with_reducible refine Br.mk (fun hb => ?_) (fun hb => (by exfalso; simp at hb; omega)))
             | (with_reducible refine Br.mk (fun hb => (by exfalso; simp at hb; omega)) (fun hb => ?_))
             | (with_reducible refine Or.inl ⟨_, new_fn _ _ (by decide), ?_⟩)
             | ((with_reducible refine Or.inl ?_); (conv => whnf); (with_reducible refine ⟨_, new_fn _ _ (by decide), ?_⟩))
             | (with_reducible refine Br.mk (fun hb => ?_) (fun hb => ?_) <;> (try rw [hb]) <;> (try simp only [List.length_map, decide_eq_true_eq, decide_eq_false_iff_not, Bool.not_eq_true', Bool.not_eq_false', Int.ofNat_lt, Int.ofNat_le, Int.not_lt, Int.not_le, Int.toNat_natCast, List.length_append] at hb))
             | (with_reducible refine ⟨_, (by first | exact ByteRows.map _ | (repeat (first | exact ByteRows.nil | exact ByteRows.map _ | refine ByteRows.cons ?_ | refine ByteRows.app ?_ ?_))), ?_⟩)
             | (refine Exists.intro _ (And.intro (ByteRows.rep _) ?_))
             | (refine Exists.intro _ (And.intro (ByteRows.app (ByteRows.map _) (ByteRows.cons ByteRows.nil)) ?_))
             | ((with_reducible refine Or.inl (And.intro ?_ ?_)); (focus (first | with_reducible rfl | exact trivial | (exact ⟨rfl, trivial⟩) | (exact ⟨rfl, rfl, trivial⟩) | omega | (intro r hr; simp only [List.mem_singleton] at hr; subst hr; rfl)  | ((exact shl_in64 _ _ (by omega))) | ((exact or_side _ _ _ (by omega) (by assumption))) | ((simp only [in64]; rw [y63]; omega)) | ((simp only [limK]; omega)) | ((simp [limK]; omega)) | ((simp [IntKind.bits]; omega)) | (simp only [in64]; omega) | assumption | (simp; done) | (simp [V.cells]; done) | (simp [in64, maxLen, limK] at *; omega) | ((show confB _ _ = true); kernel_rfl) | rfl)))
             | ((with_reducible refine And.intro ?_ ?_); (focus (first | with_reducible rfl | exact trivial | (exact ⟨rfl, trivial⟩) | (exact ⟨rfl, rfl, trivial⟩) | omega | (intro r hr; simp only [List.mem_singleton] at hr; subst hr; rfl)  | ((exact shl_in64 _ _ (by omega))) | ((exact or_side _ _ _ (by omega) (by assumption))) | ((simp only [in64]; rw [y63]; omega)) | ((simp only [limK]; omega)) | ((simp [limK]; omega)) | ((simp [IntKind.bits]; omega)) | (simp only [in64]; omega) | assumption | (simp; done) | (simp [V.cells]; done) | (simp [in64, maxLen, limK] at *; omega) | ((show confB _ _ = true); kernel_rfl) | rfl)))
             | (intro row hrow; (try simp only [Int.toNat_natCast, List.length_map, toNat_pred, toNat_succ', toNat_zero', toNat_one'] at hrow); (first | (have hsm := same_map (by assumption) hrow; subst hsm; clear hrow) | (obtain ⟨p, hp, rfl⟩ := of_map hrow; clear hrow)))
             | (with_reducible refine AW.seq ?_) | (with_reducible refine AW.region base (by kernel_rfl) ?_) | (with_reducible refine AW.cond ?_) | (with_reducible refine AW.block ?_) | (with_reducible refine AW.ret ?_) | (with_reducible refine AW.exit ?_) | (with_reducible refine AW.skip ?_))))
      all_goals (first
        | ((conv => whnf); (refine ⟨(i + 1, n + (s.getD (i : Int).toNat 0).toNat % 64 * 64 ^ i), ?_⟩); (refine And.intro ?_ (And.intro ?_ ?_)); (focus (refine ⟨⟨[], ?_⟩⟩; repeat' (first | (with_reducible rfl) | exact trivial | ((conv => whnf); (first | (with_reducible refine And.intro ?_ ?_) | (first | with_reducible rfl | (refine congrArg V.str ?_; (first | with_reducible rfl | omega | exact congrArg (fun x : Nat => (x : Int)) (or_val _ _ _ hk3) | rfl | (simp; done))) | (refine congrArg (V.int _) ?_; (first | with_reducible rfl | omega | exact congrArg (fun x : Nat => (x : Int)) (or_val _ _ _ hk3) | rfl | (simp; done))) | (refine congrArg V.bool ?_; (first | with_reducible rfl | omega | exact congrArg (fun x : Nat => (x : Int)) (or_val _ _ _ hk3) | rfl | (simp; done))) | (refine congrArg V.sl ?_; (first | with_reducible rfl | omega | exact congrArg (fun x : Nat => (x : Int)) (or_val _ _ _ hk3) | rfl | (simp; done))) | (first | with_reducible rfl | omega | exact congrArg (fun x : Nat => (x : Int)) (or_val _ _ _ hk3) | rfl | (simp; done)) | rfl)))))); (focus (exact ⟨by omega, next_lt hk3⟩)); (focus (first | omega | (dsimp only; omega))))
        | ((conv => whnf); (exfalso; simp at *; omega)))
    repeat' (first
        | (with_reducible refine AW.seq ?_) | (with_reducible refine AW.region base (by kernel_rfl) ?_) | (with_reducible refine AW.cond ?_) | (with_reducible refine AW.block ?_) | (with_reducible refine AW.ret ?_) | (with_reducible refine AW.exit ?_) | (with_reducible refine AW.skip ?_)
        | ((conv => whnf); (first
           | (with_reducible refine Br.t ?_)
           | (with_reducible refine Br.f ?_)
           | ((with_reducible refine Or.inl ?_); (conv => whnf); (with_reducible refine And.intro LitSl.mk ?_))
           | (refine Br.t ?_)
           | (refine Br.f ?_)
           | (with_reducible refine Br.mk (fun hb => ?_) (fun hb => (by exfalso; simp at hb; omega)))
           | (with_reducible refine Br.mk (fun hb => (by exfalso; simp at hb; omega)) (fun hb => ?_))
           | (with_reducible refine Or.inl ⟨_, new_fn _ _ (by decide), ?_⟩)
           | ((with_reducible refine Or.inl ?_); (conv => whnf); (with_reducible refine ⟨_, new_fn _ _ (by decide), ?_⟩))
           | (with_reducible refine Br.mk (fun hb => ?_) (fun hb => ?_) <;> (try rw [hb]) <;> (try simp only [List.length_map, decide_eq_true_eq, decide_eq_false_iff_not, Bool.not_eq_true', Bool.not_eq_false', Int.ofNat_lt, Int.ofNat_le, Int.not_lt, Int.not_le, Int.toNat_natCast, List.length_append] at hb))
           | (with_reducible refine ⟨_, (by first | exact ByteRows.map _ | (repeat (first | exact ByteRows.nil | exact ByteRows.map _ | refine ByteRows.cons ?_ | refine ByteRows.app ?_ ?_))), ?_⟩)
           | (refine Exists.intro _ (And.intro (ByteRows.rep _) ?_))
           | (refine Exists.intro _ (And.intro (ByteRows.app (ByteRows.map _) (ByteRows.cons ByteRows.nil)) ?_))
           | ((with_reducible refine Or.inl (And.intro ?_ ?_)); (focus (first | with_reducible rfl | exact trivial | (exact ⟨rfl, trivial⟩) | (exact ⟨rfl, rfl, trivial⟩) | omega | (intro r hr; simp only [List.mem_singleton] at hr; subst hr; rfl)  | ((exact shl_in64 _ _ (by omega))) | ((exact or_side _ _ _ (by omega) (by assumption))) | ((simp only [in64]; rw [y63]; omega)) | ((simp only [limK]; omega)) | ((simp [limK]; omega)) | ((simp [IntKind.bits]; omega)) | (simp only [in64]; omega) | assumption | (simp; done) | (simp [V.cells]; done) | (simp [in64, maxLen, limK] at *; omega) | ((show confB _ _ = true); kernel_rfl) | rfl)))
           | ((with_reducible refine And.intro ?_ ?_); (focus (first | with_reducible rfl | exact trivial | (exact ⟨rfl, trivial⟩) | (exact ⟨rfl, rfl, trivial⟩) | omega | (intro r hr; simp only [List.mem_singleton] at hr; subst hr; rfl)  | ((exact shl_in64 _ _ (by omega))) | ((exact or_side _ _ _ (by omega) (by assumption))) | ((simp only [in64]; rw [y63]; omega)) | ((simp only [limK]; omega)) | ((simp [limK]; omega)) | ((simp [IntKind.bits]; omega)) | (simp only [in64]; omega) | assumption | (simp; done) | (simp [V.cells]; done) | (simp [in64, maxLen, limK] at *; omega) | ((show confB _ _ = true); kernel_rfl) | rfl)))
           | (intro row hrow; (try simp only [Int.toNat_natCast, List.length_map, toNat_pred, toNat_succ', toNat_zero', toNat_one'] at hrow); (first | (have hsm := same_map (by assumption) hrow; subst hsm; clear hrow) | (obtain ⟨p, hp, rfl⟩ := of_map hrow; clear hrow)))
           | (with_reducible refine AW.seq ?_) | (with_reducible refine AW.region base (by kernel_rfl) ?_) | (with_reducible refine AW.cond ?_) | (with_reducible refine AW.block ?_) | (with_reducible refine AW.ret ?_) | (with_reducible refine AW.exit ?_) | (with_reducible refine AW.skip ?_))))
    all_goals (try first | with_reducible assumption | ((show (_ : Int) ≤ _); (first | omega | (simp at *; omega))) | ((show (_ : Nat) ≤ _); (first | omega | (simp at *; omega))) | ((show in64 _); (simp only [in64] at *; (first | omega | (simp at *; omega)))) | ((show (_ : Int) < _); (first | omega | (simp at *; omega))) | ((show ¬ (_ : Int) = _); (first | omega | (simp at *; omega))) | ((with_reducible refine And.intro ?_ ?_) <;> (first | omega | (simp at *; omega))))
    all_goals (first
      | (with_reducible exact absurd rfl (by assumption))
      | ((conv => whnf); (refine ⟨(i + 1, n + (s.getD (i : Int).toNat 0).toNat % 64 * 64 ^ i), ?_⟩); (refine And.intro ?_ (And.intro ?_ ?_)); (focus (refine ⟨⟨[], ?_⟩⟩; repeat' (first | (with_reducible rfl) | exact trivial | ((conv => whnf); (first | (with_reducible refine And.intro ?_ ?_) | (first | with_reducible rfl | (refine congrArg V.str ?_; (first | with_reducible rfl | omega | exact congrArg (fun x : Nat => (x : Int)) (or_val _ _ _ hk3) | rfl | (simp; done))) | (refine congrArg (V.int _) ?_; (first | with_reducible rfl | omega | exact congrArg (fun x : Nat => (x : Int)) (or_val _ _ _ hk3) | rfl | (simp; done))) | (refine congrArg V.bool ?_; (first | with_reducible rfl | omega | exact congrArg (fun x : Nat => (x : Int)) (or_val _ _ _ hk3) | rfl | (simp; done))) | (refine congrArg V.sl ?_; (first | with_reducible rfl | omega | exact congrArg (fun x : Nat => (x : Int)) (or_val _ _ _ hk3) | rfl | (simp; done))) | (first | with_reducible rfl | omega | exact congrArg (fun x : Nat => (x : Int)) (or_val _ _ _ hk3) | rfl | (simp; done)) | rfl)))))); (focus (exact ⟨by omega, next_lt hk3⟩)); (focus (first | omega | (dsimp only; omega) | (simp; done) | (simp; omega) | (simp at *; omega))))
      | ((conv => whnf); (try (first | rfl | (exfalso; simp_all; done) | (exfalso; simp at *; omega) | (exact congrArg V.tup rfl))); done))


theorem num_bytes (k : Nat) : ∀ (j : Nat), j + 1 < (num k).length → 64 ≤ ((num k).getD j 0).toNat ∧ ((num k).getD j 0).toNat ≤ 127 := by
  induction k using Nat.strongRecOn with
  | ind k ih =>
    intro j hj
    rcases Nat.lt_or_ge k 64 with h | h
    · rw [num_lo h] at hj; simp at hj
    · rw [num_hi h] at hj ⊢
      cases j with
      | zero => simp only [List.getD_cons_zero, UInt8.toNat_ofNat']; omega
      | succ j => rw [List.getD_cons_succ]; exact ih (k / 64) (by omega) j (by simpa using hj)
theorem take_cut (k c : Nat) (hk : k < 281474976710656) (h : c < (num k).length) : Fn Tryd.prog 32 [.str (List.drop 0 (List.take c (num k)))] (.tup [.int .i64 0, .str (List.drop 0 (List.take c (num k))), errV [[112, 97, 99, 107]] 11]) := by
  have hn := num_len 7 k (by omega)
  rw [List.drop_zero]
  refine take_short' _ (fun j hj => ?_) (by simp only [List.length_take]; omega)
  have hj' : j < c := by simp only [List.length_take] at hj; omega
  have : (List.take c (num k)).getD j 0 = (num k).getD j 0 := by simp only [List.getD_eq_getElem?_getD, List.getElem?_take, if_pos hj']
  rw [this]; exact num_bytes k j (by omega)
theorem text_take_lo (t : Bs) (c : Nat) (h : c < (num t.length).length) : List.take c (text t) = List.take c (num t.length) := by
  rw [text, List.take_append_of_le_length (by omega)]
theorem text_take_hi (t : Bs) (c : Nat) (h : (num t.length).length ≤ c) : List.take c (text t) = num t.length ++ List.take (c - (num t.length).length) t := by
  rw [text, List.take_append, List.take_of_length_le h]
theorem text_len (t : Bs) : (text t).length = (num t.length).length + t.length := by rw [text, List.length_append]
theorem text_app (t rest : Bs) : text t ++ rest = num t.length ++ (t ++ rest) := by rw [text, List.append_assoc]

set_option maxRecDepth 100000 in
set_option maxHeartbeats 400000 in
theorem text_fn (s : Bs) (h : s.length ≤ 1000000) : Fn Tryd.prog 21 [.str s] (.str (text s)) := by
  refine Fn.mk' base Tryd.func21 rfl rfl rfl ?_
  repeat' (first
      | (with_reducible refine AW.seq ?_) | (with_reducible refine AW.region base (by kernel_rfl) ?_) | (with_reducible refine AW.cond ?_) | (with_reducible refine AW.block ?_) | (with_reducible refine AW.ret ?_) | (with_reducible refine AW.exit ?_) | (with_reducible refine AW.skip ?_)
      | ((conv => whnf); (first
         | (with_reducible refine Br.t ?_)
         | (with_reducible refine Br.f ?_)
         | ((with_reducible refine Or.inl ?_); (conv => whnf); (with_reducible refine And.intro LitSl.mk ?_))
         | (refine Br.t ?_)
         | (refine Br.f ?_)
         | (with_reducible refine Or.inl ⟨_, num_fn _ (by omega), ?_⟩)
         | ((with_reducible refine Or.inl ?_); (conv => whnf); (with_reducible refine ⟨_, num_fn _ (by omega), ?_⟩))
         | (with_reducible refine Br.mk (fun hb => ?_) (fun hb => ?_) <;> (try rw [hb]) <;> (try simp only [List.length_map, decide_eq_true_eq, decide_eq_false_iff_not, Bool.not_eq_true', Bool.not_eq_false', Int.ofNat_lt, Int.ofNat_le, Int.not_lt, Int.not_le, Int.toNat_natCast] at hb))
         | (with_reducible refine ⟨_, (by first | exact ByteRows.map _ | (repeat (first | exact ByteRows.nil | exact ByteRows.map _ | refine ByteRows.cons ?_ | refine ByteRows.app ?_ ?_))), ?_⟩)
         | (refine Exists.intro _ (And.intro (ByteRows.rep _) ?_))
         | (refine Exists.intro _ (And.intro (ByteRows.app (ByteRows.map _) (ByteRows.cons ByteRows.nil)) ?_))
         | ((with_reducible refine Or.inl (And.intro ?_ ?_)); (focus (first | with_reducible rfl | exact trivial | (exact ⟨rfl, trivial⟩) | (exact ⟨rfl, rfl, trivial⟩) | omega | (intro r hr; simp only [List.mem_singleton] at hr; subst hr; rfl)  | ((have := num_len 7 s.length (by omega); simp only [maxLen, Int.toNat_natCast]; omega)) | (simp only [in64]; omega) | assumption | (simp; done) | (simp [V.cells]; done) | (simp [in64, maxLen, limK] at *; omega) | ((show confB _ _ = true); kernel_rfl) | rfl)))
         | ((with_reducible refine And.intro ?_ ?_); (focus (first | with_reducible rfl | exact trivial | (exact ⟨rfl, trivial⟩) | (exact ⟨rfl, rfl, trivial⟩) | omega | (intro r hr; simp only [List.mem_singleton] at hr; subst hr; rfl)  | ((have := num_len 7 s.length (by omega); simp only [maxLen, Int.toNat_natCast]; omega)) | (simp only [in64]; omega) | assumption | (simp; done) | (simp [V.cells]; done) | (simp [in64, maxLen, limK] at *; omega) | ((show confB _ _ = true); kernel_rfl) | rfl)))
         | (intro row hrow; (try simp only [Int.toNat_natCast, List.length_map, toNat_pred, toNat_succ', toNat_zero', toNat_one'] at hrow); (first | (have hsm := same_map (by assumption) hrow; subst hsm; clear hrow) | (obtain ⟨p, hp, rfl⟩ := of_map hrow; clear hrow)))
         | (with_reducible refine AW.seq ?_) | (with_reducible refine AW.region base (by kernel_rfl) ?_) | (with_reducible refine AW.cond ?_) | (with_reducible refine AW.block ?_) | (with_reducible refine AW.ret ?_) | (with_reducible refine AW.exit ?_) | (with_reducible refine AW.skip ?_))))
  all_goals (conv => whnf)
  all_goals (first | rfl | (simp only [V.bool.injEq, V.tup.injEq, V.agg.injEq, V.str.injEq, V.int.injEq, V.sl.injEq, V.ifc.injEq, List.cons.injEq, and_true, true_and, and_self]; done) | (simp only [V.bool.injEq, V.tup.injEq, V.agg.injEq, V.str.injEq, V.int.injEq, V.sl.injEq, V.ifc.injEq, List.cons.injEq, and_true, true_and, and_self]; grind) | (simp  at *; done) | (simp  at *; grind) | (exact congrArg V.str (by rw [Int.toNat_natCast]; rfl)))

set_option maxRecDepth 100000 in
set_option maxHeartbeats 400000 in
theorem flag_fn  : Fn Tryd.prog 22 [.bool true] (.str [1]) := by
  refine Fn.mk' base Tryd.func22 rfl rfl rfl ?_
  repeat' (first
      | (with_reducible refine AW.seq ?_) | (with_reducible refine AW.region base (by kernel_rfl) ?_) | (with_reducible refine AW.cond ?_) | (with_reducible refine AW.block ?_) | (with_reducible refine AW.ret ?_) | (with_reducible refine AW.exit ?_) | (with_reducible refine AW.skip ?_)
      | ((conv => whnf); (first
         | (with_reducible refine Br.t ?_)
         | (with_reducible refine Br.f ?_)
         | ((with_reducible refine Or.inl ?_); (conv => whnf); (with_reducible refine And.intro LitSl.mk ?_))
         | (refine Br.t ?_)
         | (refine Br.f ?_)
         | (with_reducible refine Br.mk (fun hb => ?_) (fun hb => ?_) <;> (try rw [hb]) <;> (try simp only [List.length_map, decide_eq_true_eq, decide_eq_false_iff_not, Bool.not_eq_true', Bool.not_eq_false', Int.ofNat_lt, Int.ofNat_le, Int.not_lt, Int.not_le, Int.toNat_natCast] at hb))
         | (with_reducible refine ⟨_, (by first | exact ByteRows.map _ | (repeat (first | exact ByteRows.nil | exact ByteRows.map _ | refine ByteRows.cons ?_ | refine ByteRows.app ?_ ?_))), ?_⟩)
         | (refine Exists.intro _ (And.intro (ByteRows.rep _) ?_))
         | (refine Exists.intro _ (And.intro (ByteRows.app (ByteRows.map _) (ByteRows.cons ByteRows.nil)) ?_))
         | ((with_reducible refine Or.inl (And.intro ?_ ?_)); (focus (first | with_reducible rfl | exact trivial | (exact ⟨rfl, trivial⟩) | (exact ⟨rfl, rfl, trivial⟩) | omega | (intro r hr; simp only [List.mem_singleton] at hr; subst hr; rfl)  | (simp only [in64]; omega) | assumption | (simp; done) | (simp [V.cells]; done) | (simp [in64, maxLen, limK] at *; omega) | ((show confB _ _ = true); kernel_rfl) | rfl)))
         | ((with_reducible refine And.intro ?_ ?_); (focus (first | with_reducible rfl | exact trivial | (exact ⟨rfl, trivial⟩) | (exact ⟨rfl, rfl, trivial⟩) | omega | (intro r hr; simp only [List.mem_singleton] at hr; subst hr; rfl)  | (simp only [in64]; omega) | assumption | (simp; done) | (simp [V.cells]; done) | (simp [in64, maxLen, limK] at *; omega) | ((show confB _ _ = true); kernel_rfl) | rfl)))
         | (intro row hrow; (try simp only [Int.toNat_natCast, List.length_map, toNat_pred, toNat_succ', toNat_zero', toNat_one'] at hrow); (first | (have hsm := same_map (by assumption) hrow; subst hsm; clear hrow) | (obtain ⟨p, hp, rfl⟩ := of_map hrow; clear hrow)))
         | (with_reducible refine AW.seq ?_) | (with_reducible refine AW.region base (by kernel_rfl) ?_) | (with_reducible refine AW.cond ?_) | (with_reducible refine AW.block ?_) | (with_reducible refine AW.ret ?_) | (with_reducible refine AW.exit ?_) | (with_reducible refine AW.skip ?_))))
  all_goals (conv => whnf)
  all_goals (first | rfl | (simp only [V.bool.injEq, V.tup.injEq, V.agg.injEq, V.str.injEq, V.int.injEq, V.sl.injEq, V.ifc.injEq, List.cons.injEq, and_true, true_and, and_self]; done) | (simp only [V.bool.injEq, V.tup.injEq, V.agg.injEq, V.str.injEq, V.int.injEq, V.sl.injEq, V.ifc.injEq, List.cons.injEq, and_true, true_and, and_self]; grind) | (simp  at *; done) | (simp  at *; grind))

set_option maxRecDepth 100000 in
set_option maxHeartbeats 400000 in
theorem takeFlag_ok  : Fn Tryd.prog 34 [.str [1]] (.tup [.bool true, .str [], noErr]) := by
  refine Fn.mk' base Tryd.func34 rfl rfl rfl ?_
  repeat' (first
      | (with_reducible refine AW.seq ?_) | (with_reducible refine AW.region base (by kernel_rfl) ?_) | (with_reducible refine AW.cond ?_) | (with_reducible refine AW.block ?_) | (with_reducible refine AW.ret ?_) | (with_reducible refine AW.exit ?_) | (with_reducible refine AW.skip ?_)
      | ((conv => whnf); (first
         | (with_reducible refine Br.t ?_)
         | (with_reducible refine Br.f ?_)
         | ((with_reducible refine Or.inl ?_); (conv => whnf); (with_reducible refine And.intro LitSl.mk ?_))
         | (refine Br.t ?_)
         | (refine Br.f ?_)
         | (with_reducible refine Or.inl ⟨_, new_fn _ _ (by decide), ?_⟩)
         | ((with_reducible refine Or.inl ?_); (conv => whnf); (with_reducible refine ⟨_, new_fn _ _ (by decide), ?_⟩))
         | (with_reducible refine Br.mk (fun hb => ?_) (fun hb => ?_) <;> (try rw [hb]) <;> (try simp only [List.length_map, decide_eq_true_eq, decide_eq_false_iff_not, Bool.not_eq_true', Bool.not_eq_false', Int.ofNat_lt, Int.ofNat_le, Int.not_lt, Int.not_le, Int.toNat_natCast] at hb))
         | (with_reducible refine ⟨_, (by first | exact ByteRows.map _ | (repeat (first | exact ByteRows.nil | exact ByteRows.map _ | refine ByteRows.cons ?_ | refine ByteRows.app ?_ ?_))), ?_⟩)
         | (refine Exists.intro _ (And.intro (ByteRows.rep _) ?_))
         | (refine Exists.intro _ (And.intro (ByteRows.app (ByteRows.map _) (ByteRows.cons ByteRows.nil)) ?_))
         | ((with_reducible refine Or.inl (And.intro ?_ ?_)); (focus (first | with_reducible rfl | exact trivial | (exact ⟨rfl, trivial⟩) | (exact ⟨rfl, rfl, trivial⟩) | omega | (intro r hr; simp only [List.mem_singleton] at hr; subst hr; rfl)  | ((simp only [List.length_append, maxLen] at *; omega)) | ((simp only [in64] at *; omega)) | (simp only [in64]; omega) | assumption | (simp; done) | (simp [V.cells]; done) | (simp [in64, maxLen, limK] at *; omega) | ((show confB _ _ = true); kernel_rfl) | rfl)))
         | ((with_reducible refine And.intro ?_ ?_); (focus (first | with_reducible rfl | exact trivial | (exact ⟨rfl, trivial⟩) | (exact ⟨rfl, rfl, trivial⟩) | omega | (intro r hr; simp only [List.mem_singleton] at hr; subst hr; rfl)  | ((simp only [List.length_append, maxLen] at *; omega)) | ((simp only [in64] at *; omega)) | (simp only [in64]; omega) | assumption | (simp; done) | (simp [V.cells]; done) | (simp [in64, maxLen, limK] at *; omega) | ((show confB _ _ = true); kernel_rfl) | rfl)))
         | (intro row hrow; (try simp only [Int.toNat_natCast, List.length_map, toNat_pred, toNat_succ', toNat_zero', toNat_one'] at hrow); (first | (have hsm := same_map (by assumption) hrow; subst hsm; clear hrow) | (obtain ⟨p, hp, rfl⟩ := of_map hrow; clear hrow)))
         | (with_reducible refine AW.seq ?_) | (with_reducible refine AW.region base (by kernel_rfl) ?_) | (with_reducible refine AW.cond ?_) | (with_reducible refine AW.block ?_) | (with_reducible refine AW.ret ?_) | (with_reducible refine AW.exit ?_) | (with_reducible refine AW.skip ?_))))
  all_goals (conv => whnf)
  all_goals (first | rfl | (simp only [V.bool.injEq, V.tup.injEq, V.agg.injEq, V.str.injEq, V.int.injEq, V.sl.injEq, V.ifc.injEq, List.cons.injEq, and_true, true_and, and_self]; done) | (simp only [V.bool.injEq, V.tup.injEq, V.agg.injEq, V.str.injEq, V.int.injEq, V.sl.injEq, V.ifc.injEq, List.cons.injEq, and_true, true_and, and_self]; grind) | (simp  at *; done) | (simp  at *; grind))

set_option maxRecDepth 100000 in
set_option maxHeartbeats 400000 in
theorem takeFlag_bad  : Fn Tryd.prog 34 [.str [2]] (.tup [.bool false, .str [2], errV [[112, 97, 99, 107]] 10]) := by
  refine Fn.mk' base Tryd.func34 rfl rfl rfl ?_
  repeat' (first
      | (with_reducible refine AW.seq ?_) | (with_reducible refine AW.region base (by kernel_rfl) ?_) | (with_reducible refine AW.cond ?_) | (with_reducible refine AW.block ?_) | (with_reducible refine AW.ret ?_) | (with_reducible refine AW.exit ?_) | (with_reducible refine AW.skip ?_)
      | ((conv => whnf); (first
         | (with_reducible refine Br.t ?_)
         | (with_reducible refine Br.f ?_)
         | ((with_reducible refine Or.inl ?_); (conv => whnf); (with_reducible refine And.intro LitSl.mk ?_))
         | (refine Br.t ?_)
         | (refine Br.f ?_)
         | (with_reducible refine Or.inl ⟨_, new_fn _ _ (by decide), ?_⟩)
         | ((with_reducible refine Or.inl ?_); (conv => whnf); (with_reducible refine ⟨_, new_fn _ _ (by decide), ?_⟩))
         | (with_reducible refine Br.mk (fun hb => ?_) (fun hb => ?_) <;> (try rw [hb]) <;> (try simp only [List.length_map, decide_eq_true_eq, decide_eq_false_iff_not, Bool.not_eq_true', Bool.not_eq_false', Int.ofNat_lt, Int.ofNat_le, Int.not_lt, Int.not_le, Int.toNat_natCast] at hb))
         | (with_reducible refine ⟨_, (by first | exact ByteRows.map _ | (repeat (first | exact ByteRows.nil | exact ByteRows.map _ | refine ByteRows.cons ?_ | refine ByteRows.app ?_ ?_))), ?_⟩)
         | (refine Exists.intro _ (And.intro (ByteRows.rep _) ?_))
         | (refine Exists.intro _ (And.intro (ByteRows.app (ByteRows.map _) (ByteRows.cons ByteRows.nil)) ?_))
         | ((with_reducible refine Or.inl (And.intro ?_ ?_)); (focus (first | with_reducible rfl | exact trivial | (exact ⟨rfl, trivial⟩) | (exact ⟨rfl, rfl, trivial⟩) | omega | (intro r hr; simp only [List.mem_singleton] at hr; subst hr; rfl)  | ((simp only [List.length_append, maxLen] at *; omega)) | ((simp only [in64] at *; omega)) | (simp only [in64]; omega) | assumption | (simp; done) | (simp [V.cells]; done) | (simp [in64, maxLen, limK] at *; omega) | ((show confB _ _ = true); kernel_rfl) | rfl)))
         | ((with_reducible refine And.intro ?_ ?_); (focus (first | with_reducible rfl | exact trivial | (exact ⟨rfl, trivial⟩) | (exact ⟨rfl, rfl, trivial⟩) | omega | (intro r hr; simp only [List.mem_singleton] at hr; subst hr; rfl)  | ((simp only [List.length_append, maxLen] at *; omega)) | ((simp only [in64] at *; omega)) | (simp only [in64]; omega) | assumption | (simp; done) | (simp [V.cells]; done) | (simp [in64, maxLen, limK] at *; omega) | ((show confB _ _ = true); kernel_rfl) | rfl)))
         | (intro row hrow; (try simp only [Int.toNat_natCast, List.length_map, toNat_pred, toNat_succ', toNat_zero', toNat_one'] at hrow); (first | (have hsm := same_map (by assumption) hrow; subst hsm; clear hrow) | (obtain ⟨p, hp, rfl⟩ := of_map hrow; clear hrow)))
         | (with_reducible refine AW.seq ?_) | (with_reducible refine AW.region base (by kernel_rfl) ?_) | (with_reducible refine AW.cond ?_) | (with_reducible refine AW.block ?_) | (with_reducible refine AW.ret ?_) | (with_reducible refine AW.exit ?_) | (with_reducible refine AW.skip ?_))))
  all_goals (conv => whnf)
  all_goals (first | rfl | (simp only [V.bool.injEq, V.tup.injEq, V.agg.injEq, V.str.injEq, V.int.injEq, V.sl.injEq, V.ifc.injEq, List.cons.injEq, and_true, true_and, and_self]; done) | (simp only [V.bool.injEq, V.tup.injEq, V.agg.injEq, V.str.injEq, V.int.injEq, V.sl.injEq, V.ifc.injEq, List.cons.injEq, and_true, true_and, and_self]; grind) | (simp  at *; done) | (simp  at *; grind))

theorem ret2 {a b x y : Bs} {e : V} (h1 : a = b) (h2 : x = y) : V.tup [.str a, .str x, e] = V.tup [.str b, .str y, e] := by rw [h1, h2]

set_option maxRecDepth 100000 in
set_option maxHeartbeats 400000 in
theorem takeText_ok' (s t rest : Bs) (most : Int) (hs : s = num t.length ++ (t ++ rest)) (h : t.length ≤ most) (h2 : t.length ≤ 1000000) : Fn Tryd.prog 33 [.str s, .int .i64 most] (.tup [.str t, .str rest, noErr]) := by
  refine Fn.mk' base Tryd.func33 rfl rfl rfl ?_
  repeat' (first
      | (with_reducible refine AW.seq ?_) | (with_reducible refine AW.region base (by kernel_rfl) ?_) | (with_reducible refine AW.cond ?_) | (with_reducible refine AW.block ?_) | (with_reducible refine AW.ret ?_) | (with_reducible refine AW.exit ?_) | (with_reducible refine AW.skip ?_)
      | ((conv => whnf); (first
         | (with_reducible refine Br.t ?_)
         | (with_reducible refine Br.f ?_)
         | ((with_reducible refine Or.inl ?_); (conv => whnf); (with_reducible refine And.intro LitSl.mk ?_))
         | (refine Br.t ?_)
         | (refine Br.f ?_)
         | (with_reducible refine Br.mk (fun hb => ?_) (fun hb => (by exfalso; simp at hb; omega)))
         | (with_reducible refine Br.mk (fun hb => (by exfalso; simp at hb; omega)) (fun hb => ?_))
         | (with_reducible refine Or.inl ⟨_, take_ok' _ _ _ hs (by omega), ?_⟩)
         | ((with_reducible refine Or.inl ?_); (conv => whnf); (with_reducible refine ⟨_, take_ok' _ _ _ hs (by omega), ?_⟩))
         | (with_reducible refine Or.inl ⟨_, new_fn _ _ (by decide), ?_⟩)
         | ((with_reducible refine Or.inl ?_); (conv => whnf); (with_reducible refine ⟨_, new_fn _ _ (by decide), ?_⟩))
         | (with_reducible refine Or.inl ⟨_, isE_nil _, ?_⟩)
         | ((with_reducible refine Or.inl ?_); (conv => whnf); (with_reducible refine ⟨_, isE_nil _, ?_⟩))
         | (refine Or.inl ⟨_, isE_fn [[112, 97, 99, 107]] 11 _, ?_⟩)
         | ((with_reducible refine Or.inl ?_); (conv => whnf); (refine ⟨_, isE_fn [[112, 97, 99, 107]] 11 _, ?_⟩))
         | (with_reducible refine Br.mk (fun hb => ?_) (fun hb => ?_) <;> (try rw [hb]) <;> (try simp only [List.length_map, decide_eq_true_eq, decide_eq_false_iff_not, Bool.not_eq_true', Bool.not_eq_false', Int.ofNat_lt, Int.ofNat_le, Int.not_lt, Int.not_le, Int.toNat_natCast, List.length_append] at hb))
         | (with_reducible refine ⟨_, (by first | exact ByteRows.map _ | (repeat (first | exact ByteRows.nil | exact ByteRows.map _ | refine ByteRows.cons ?_ | refine ByteRows.app ?_ ?_))), ?_⟩)
         | (refine Exists.intro _ (And.intro (ByteRows.rep _) ?_))
         | (refine Exists.intro _ (And.intro (ByteRows.app (ByteRows.map _) (ByteRows.cons ByteRows.nil)) ?_))
         | ((with_reducible refine Or.inl (And.intro ?_ ?_)); (focus (first | with_reducible rfl | exact trivial | (exact ⟨rfl, trivial⟩) | (exact ⟨rfl, rfl, trivial⟩) | omega | (intro r hr; simp only [List.mem_singleton] at hr; subst hr; rfl)  | ((simp only [List.length_append, maxLen] at *; omega)) | ((simp only [in64] at *; omega)) | ((subst hs; simp; omega)) | ((simp; omega)) | ((simp)) | (simp only [in64]; omega) | assumption | (simp; done) | (simp [V.cells]; done) | (simp [in64, maxLen, limK] at *; omega) | ((show confB _ _ = true); kernel_rfl) | rfl)))
         | ((with_reducible refine And.intro ?_ ?_); (focus (first | with_reducible rfl | exact trivial | (exact ⟨rfl, trivial⟩) | (exact ⟨rfl, rfl, trivial⟩) | omega | (intro r hr; simp only [List.mem_singleton] at hr; subst hr; rfl)  | ((simp only [List.length_append, maxLen] at *; omega)) | ((simp only [in64] at *; omega)) | ((subst hs; simp; omega)) | ((simp; omega)) | ((simp)) | (simp only [in64]; omega) | assumption | (simp; done) | (simp [V.cells]; done) | (simp [in64, maxLen, limK] at *; omega) | ((show confB _ _ = true); kernel_rfl) | rfl)))
         | (intro row hrow; (try simp only [Int.toNat_natCast, List.length_map, toNat_pred, toNat_succ', toNat_zero', toNat_one'] at hrow); (first | (have hsm := same_map (by assumption) hrow; subst hsm; clear hrow) | (obtain ⟨p, hp, rfl⟩ := of_map hrow; clear hrow)))
         | (with_reducible refine AW.seq ?_) | (with_reducible refine AW.region base (by kernel_rfl) ?_) | (with_reducible refine AW.cond ?_) | (with_reducible refine AW.block ?_) | (with_reducible refine AW.ret ?_) | (with_reducible refine AW.exit ?_) | (with_reducible refine AW.skip ?_))))
  all_goals (conv => whnf)
  all_goals (first | rfl | (simp only [V.bool.injEq, V.tup.injEq, V.agg.injEq, V.str.injEq, V.int.injEq, V.sl.injEq, V.ifc.injEq, List.cons.injEq, and_true, true_and, and_self]; done) | (simp only [V.bool.injEq, V.tup.injEq, V.agg.injEq, V.str.injEq, V.int.injEq, V.sl.injEq, V.ifc.injEq, List.cons.injEq, and_true, true_and, and_self]; grind) | (simp  at *; done) | (simp  at *; grind) | (exact ret2 (by simp) (by simp)))

set_option maxRecDepth 100000 in
set_option maxHeartbeats 400000 in
theorem takeText_large' (s t rest : Bs) (most : Int) (hs : s = num t.length ++ (t ++ rest)) (h : most < t.length) (h2 : t.length ≤ 1000000) : Fn Tryd.prog 33 [.str s, .int .i64 most] (.tup [.str [], .str s, errV [[112, 97, 99, 107]] 13]) := by
  refine Fn.mk' base Tryd.func33 rfl rfl rfl ?_
  repeat' (first
      | (with_reducible refine AW.seq ?_) | (with_reducible refine AW.region base (by kernel_rfl) ?_) | (with_reducible refine AW.cond ?_) | (with_reducible refine AW.block ?_) | (with_reducible refine AW.ret ?_) | (with_reducible refine AW.exit ?_) | (with_reducible refine AW.skip ?_)
      | ((conv => whnf); (first
         | (with_reducible refine Br.t ?_)
         | (with_reducible refine Br.f ?_)
         | ((with_reducible refine Or.inl ?_); (conv => whnf); (with_reducible refine And.intro LitSl.mk ?_))
         | (refine Br.t ?_)
         | (refine Br.f ?_)
         | (with_reducible refine Br.mk (fun hb => ?_) (fun hb => (by exfalso; simp at hb; omega)))
         | (with_reducible refine Br.mk (fun hb => (by exfalso; simp at hb; omega)) (fun hb => ?_))
         | (with_reducible refine Or.inl ⟨_, take_ok' _ _ _ hs (by omega), ?_⟩)
         | ((with_reducible refine Or.inl ?_); (conv => whnf); (with_reducible refine ⟨_, take_ok' _ _ _ hs (by omega), ?_⟩))
         | (with_reducible refine Or.inl ⟨_, new_fn _ _ (by decide), ?_⟩)
         | ((with_reducible refine Or.inl ?_); (conv => whnf); (with_reducible refine ⟨_, new_fn _ _ (by decide), ?_⟩))
         | (with_reducible refine Or.inl ⟨_, isE_nil _, ?_⟩)
         | ((with_reducible refine Or.inl ?_); (conv => whnf); (with_reducible refine ⟨_, isE_nil _, ?_⟩))
         | (refine Or.inl ⟨_, isE_fn [[112, 97, 99, 107]] 11 _, ?_⟩)
         | ((with_reducible refine Or.inl ?_); (conv => whnf); (refine ⟨_, isE_fn [[112, 97, 99, 107]] 11 _, ?_⟩))
         | (with_reducible refine Br.mk (fun hb => ?_) (fun hb => ?_) <;> (try rw [hb]) <;> (try simp only [List.length_map, decide_eq_true_eq, decide_eq_false_iff_not, Bool.not_eq_true', Bool.not_eq_false', Int.ofNat_lt, Int.ofNat_le, Int.not_lt, Int.not_le, Int.toNat_natCast, List.length_append] at hb))
         | (with_reducible refine ⟨_, (by first | exact ByteRows.map _ | (repeat (first | exact ByteRows.nil | exact ByteRows.map _ | refine ByteRows.cons ?_ | refine ByteRows.app ?_ ?_))), ?_⟩)
         | (refine Exists.intro _ (And.intro (ByteRows.rep _) ?_))
         | (refine Exists.intro _ (And.intro (ByteRows.app (ByteRows.map _) (ByteRows.cons ByteRows.nil)) ?_))
         | ((with_reducible refine Or.inl (And.intro ?_ ?_)); (focus (first | with_reducible rfl | exact trivial | (exact ⟨rfl, trivial⟩) | (exact ⟨rfl, rfl, trivial⟩) | omega | (intro r hr; simp only [List.mem_singleton] at hr; subst hr; rfl)  | ((simp only [List.length_append, maxLen] at *; omega)) | ((simp only [in64] at *; omega)) | ((subst hs; simp; omega)) | ((simp; omega)) | ((simp)) | (simp only [in64]; omega) | assumption | (simp; done) | (simp [V.cells]; done) | (simp [in64, maxLen, limK] at *; omega) | ((show confB _ _ = true); kernel_rfl) | rfl)))
         | ((with_reducible refine And.intro ?_ ?_); (focus (first | with_reducible rfl | exact trivial | (exact ⟨rfl, trivial⟩) | (exact ⟨rfl, rfl, trivial⟩) | omega | (intro r hr; simp only [List.mem_singleton] at hr; subst hr; rfl)  | ((simp only [List.length_append, maxLen] at *; omega)) | ((simp only [in64] at *; omega)) | ((subst hs; simp; omega)) | ((simp; omega)) | ((simp)) | (simp only [in64]; omega) | assumption | (simp; done) | (simp [V.cells]; done) | (simp [in64, maxLen, limK] at *; omega) | ((show confB _ _ = true); kernel_rfl) | rfl)))
         | (intro row hrow; (try simp only [Int.toNat_natCast, List.length_map, toNat_pred, toNat_succ', toNat_zero', toNat_one'] at hrow); (first | (have hsm := same_map (by assumption) hrow; subst hsm; clear hrow) | (obtain ⟨p, hp, rfl⟩ := of_map hrow; clear hrow)))
         | (with_reducible refine AW.seq ?_) | (with_reducible refine AW.region base (by kernel_rfl) ?_) | (with_reducible refine AW.cond ?_) | (with_reducible refine AW.block ?_) | (with_reducible refine AW.ret ?_) | (with_reducible refine AW.exit ?_) | (with_reducible refine AW.skip ?_))))
  all_goals (conv => whnf)
  all_goals (first | rfl | (simp only [V.bool.injEq, V.tup.injEq, V.agg.injEq, V.str.injEq, V.int.injEq, V.sl.injEq, V.ifc.injEq, List.cons.injEq, and_true, true_and, and_self]; done) | (simp only [V.bool.injEq, V.tup.injEq, V.agg.injEq, V.str.injEq, V.int.injEq, V.sl.injEq, V.ifc.injEq, List.cons.injEq, and_true, true_and, and_self]; grind) | (simp  at *; done) | (simp  at *; grind))

set_option maxRecDepth 100000 in
set_option maxHeartbeats 400000 in
theorem takeText_less' (s t : Bs) (k : Nat) (most : Int) (hs : s = num k ++ t) (h : t.length < k) (h1 : k ≤ most) (h2 : k ≤ 1000000) : Fn Tryd.prog 33 [.str s, .int .i64 most] (.tup [.str [], .str s, errV [[112, 97, 99, 107]] 11]) := by
  refine Fn.mk' base Tryd.func33 rfl rfl rfl ?_
  repeat' (first
      | (with_reducible refine AW.seq ?_) | (with_reducible refine AW.region base (by kernel_rfl) ?_) | (with_reducible refine AW.cond ?_) | (with_reducible refine AW.block ?_) | (with_reducible refine AW.ret ?_) | (with_reducible refine AW.exit ?_) | (with_reducible refine AW.skip ?_)
      | ((conv => whnf); (first
         | (with_reducible refine Br.t ?_)
         | (with_reducible refine Br.f ?_)
         | ((with_reducible refine Or.inl ?_); (conv => whnf); (with_reducible refine And.intro LitSl.mk ?_))
         | (refine Br.t ?_)
         | (refine Br.f ?_)
         | (with_reducible refine Br.mk (fun hb => ?_) (fun hb => (by exfalso; simp at hb; omega)))
         | (with_reducible refine Br.mk (fun hb => (by exfalso; simp at hb; omega)) (fun hb => ?_))
         | (with_reducible refine Or.inl ⟨_, take_ok' _ _ _ hs (by omega), ?_⟩)
         | ((with_reducible refine Or.inl ?_); (conv => whnf); (with_reducible refine ⟨_, take_ok' _ _ _ hs (by omega), ?_⟩))
         | (with_reducible refine Or.inl ⟨_, new_fn _ _ (by decide), ?_⟩)
         | ((with_reducible refine Or.inl ?_); (conv => whnf); (with_reducible refine ⟨_, new_fn _ _ (by decide), ?_⟩))
         | (with_reducible refine Or.inl ⟨_, isE_nil _, ?_⟩)
         | ((with_reducible refine Or.inl ?_); (conv => whnf); (with_reducible refine ⟨_, isE_nil _, ?_⟩))
         | (refine Or.inl ⟨_, isE_fn [[112, 97, 99, 107]] 11 _, ?_⟩)
         | ((with_reducible refine Or.inl ?_); (conv => whnf); (refine ⟨_, isE_fn [[112, 97, 99, 107]] 11 _, ?_⟩))
         | (with_reducible refine Br.mk (fun hb => ?_) (fun hb => ?_) <;> (try rw [hb]) <;> (try simp only [List.length_map, decide_eq_true_eq, decide_eq_false_iff_not, Bool.not_eq_true', Bool.not_eq_false', Int.ofNat_lt, Int.ofNat_le, Int.not_lt, Int.not_le, Int.toNat_natCast, List.length_append] at hb))
         | (with_reducible refine ⟨_, (by first | exact ByteRows.map _ | (repeat (first | exact ByteRows.nil | exact ByteRows.map _ | refine ByteRows.cons ?_ | refine ByteRows.app ?_ ?_))), ?_⟩)
         | (refine Exists.intro _ (And.intro (ByteRows.rep _) ?_))
         | (refine Exists.intro _ (And.intro (ByteRows.app (ByteRows.map _) (ByteRows.cons ByteRows.nil)) ?_))
         | ((with_reducible refine Or.inl (And.intro ?_ ?_)); (focus (first | with_reducible rfl | exact trivial | (exact ⟨rfl, trivial⟩) | (exact ⟨rfl, rfl, trivial⟩) | omega | (intro r hr; simp only [List.mem_singleton] at hr; subst hr; rfl)  | ((simp only [List.length_append, maxLen] at *; omega)) | ((simp only [in64] at *; omega)) | ((subst hs; simp; omega)) | ((simp; omega)) | ((simp)) | (simp only [in64]; omega) | assumption | (simp; done) | (simp [V.cells]; done) | (simp [in64, maxLen, limK] at *; omega) | ((show confB _ _ = true); kernel_rfl) | rfl)))
         | ((with_reducible refine And.intro ?_ ?_); (focus (first | with_reducible rfl | exact trivial | (exact ⟨rfl, trivial⟩) | (exact ⟨rfl, rfl, trivial⟩) | omega | (intro r hr; simp only [List.mem_singleton] at hr; subst hr; rfl)  | ((simp only [List.length_append, maxLen] at *; omega)) | ((simp only [in64] at *; omega)) | ((subst hs; simp; omega)) | ((simp; omega)) | ((simp)) | (simp only [in64]; omega) | assumption | (simp; done) | (simp [V.cells]; done) | (simp [in64, maxLen, limK] at *; omega) | ((show confB _ _ = true); kernel_rfl) | rfl)))
         | (intro row hrow; (try simp only [Int.toNat_natCast, List.length_map, toNat_pred, toNat_succ', toNat_zero', toNat_one'] at hrow); (first | (have hsm := same_map (by assumption) hrow; subst hsm; clear hrow) | (obtain ⟨p, hp, rfl⟩ := of_map hrow; clear hrow)))
         | (with_reducible refine AW.seq ?_) | (with_reducible refine AW.region base (by kernel_rfl) ?_) | (with_reducible refine AW.cond ?_) | (with_reducible refine AW.block ?_) | (with_reducible refine AW.ret ?_) | (with_reducible refine AW.exit ?_) | (with_reducible refine AW.skip ?_))))
  all_goals (conv => whnf)
  all_goals (first | rfl | (simp only [V.bool.injEq, V.tup.injEq, V.agg.injEq, V.str.injEq, V.int.injEq, V.sl.injEq, V.ifc.injEq, List.cons.injEq, and_true, true_and, and_self]; done) | (simp only [V.bool.injEq, V.tup.injEq, V.agg.injEq, V.str.injEq, V.int.injEq, V.sl.injEq, V.ifc.injEq, List.cons.injEq, and_true, true_and, and_self]; grind) | (simp  at *; done) | (simp  at *; grind))

set_option maxRecDepth 100000 in
set_option maxHeartbeats 400000 in
theorem takeText_short' (s : Bs) (most : Int) (hs : Fn Tryd.prog 32 [.str s] (.tup [.int .i64 0, .str s, errV [[112, 97, 99, 107]] 11])) : Fn Tryd.prog 33 [.str s, .int .i64 most] (.tup [.str [], .str s, errV [[112, 97, 99, 107]] 11]) := by
  refine Fn.mk' base Tryd.func33 rfl rfl rfl ?_
  repeat' (first
      | (with_reducible refine AW.seq ?_) | (with_reducible refine AW.region base (by kernel_rfl) ?_) | (with_reducible refine AW.cond ?_) | (with_reducible refine AW.block ?_) | (with_reducible refine AW.ret ?_) | (with_reducible refine AW.exit ?_) | (with_reducible refine AW.skip ?_)
      | ((conv => whnf); (first
         | (with_reducible refine Br.t ?_)
         | (with_reducible refine Br.f ?_)
         | ((with_reducible refine Or.inl ?_); (conv => whnf); (with_reducible refine And.intro LitSl.mk ?_))
         | (refine Br.t ?_)
         | (refine Br.f ?_)
         | (with_reducible refine Br.mk (fun hb => ?_) (fun hb => (by exfalso; simp at hb; omega)))
         | (with_reducible refine Br.mk (fun hb => (by exfalso; simp at hb; omega)) (fun hb => ?_))
         | (with_reducible refine Or.inl ⟨_, hs, ?_⟩)
         | ((with_reducible refine Or.inl ?_); (conv => whnf); (with_reducible refine ⟨_, hs, ?_⟩))
         | (with_reducible refine Or.inl ⟨_, new_fn _ _ (by decide), ?_⟩)
         | ((with_reducible refine Or.inl ?_); (conv => whnf); (with_reducible refine ⟨_, new_fn _ _ (by decide), ?_⟩))
         | (with_reducible refine Or.inl ⟨_, isE_nil _, ?_⟩)
         | ((with_reducible refine Or.inl ?_); (conv => whnf); (with_reducible refine ⟨_, isE_nil _, ?_⟩))
         | (refine Or.inl ⟨_, isE_fn [[112, 97, 99, 107]] 11 _, ?_⟩)
         | ((with_reducible refine Or.inl ?_); (conv => whnf); (refine ⟨_, isE_fn [[112, 97, 99, 107]] 11 _, ?_⟩))
         | (with_reducible refine Br.mk (fun hb => ?_) (fun hb => ?_) <;> (try rw [hb]) <;> (try simp only [List.length_map, decide_eq_true_eq, decide_eq_false_iff_not, Bool.not_eq_true', Bool.not_eq_false', Int.ofNat_lt, Int.ofNat_le, Int.not_lt, Int.not_le, Int.toNat_natCast, List.length_append] at hb))
         | (with_reducible refine ⟨_, (by first | exact ByteRows.map _ | (repeat (first | exact ByteRows.nil | exact ByteRows.map _ | refine ByteRows.cons ?_ | refine ByteRows.app ?_ ?_))), ?_⟩)
         | (refine Exists.intro _ (And.intro (ByteRows.rep _) ?_))
         | (refine Exists.intro _ (And.intro (ByteRows.app (ByteRows.map _) (ByteRows.cons ByteRows.nil)) ?_))
         | ((with_reducible refine Or.inl (And.intro ?_ ?_)); (focus (first | with_reducible rfl | exact trivial | (exact ⟨rfl, trivial⟩) | (exact ⟨rfl, rfl, trivial⟩) | omega | (intro r hr; simp only [List.mem_singleton] at hr; subst hr; rfl)  | ((simp only [List.length_append, maxLen] at *; omega)) | ((simp only [in64] at *; omega)) | ((subst hs; simp; omega)) | ((simp; omega)) | ((simp)) | (simp only [in64]; omega) | assumption | (simp; done) | (simp [V.cells]; done) | (simp [in64, maxLen, limK] at *; omega) | ((show confB _ _ = true); kernel_rfl) | rfl)))
         | ((with_reducible refine And.intro ?_ ?_); (focus (first | with_reducible rfl | exact trivial | (exact ⟨rfl, trivial⟩) | (exact ⟨rfl, rfl, trivial⟩) | omega | (intro r hr; simp only [List.mem_singleton] at hr; subst hr; rfl)  | ((simp only [List.length_append, maxLen] at *; omega)) | ((simp only [in64] at *; omega)) | ((subst hs; simp; omega)) | ((simp; omega)) | ((simp)) | (simp only [in64]; omega) | assumption | (simp; done) | (simp [V.cells]; done) | (simp [in64, maxLen, limK] at *; omega) | ((show confB _ _ = true); kernel_rfl) | rfl)))
         | (intro row hrow; (try simp only [Int.toNat_natCast, List.length_map, toNat_pred, toNat_succ', toNat_zero', toNat_one'] at hrow); (first | (have hsm := same_map (by assumption) hrow; subst hsm; clear hrow) | (obtain ⟨p, hp, rfl⟩ := of_map hrow; clear hrow)))
         | (with_reducible refine AW.seq ?_) | (with_reducible refine AW.region base (by kernel_rfl) ?_) | (with_reducible refine AW.cond ?_) | (with_reducible refine AW.block ?_) | (with_reducible refine AW.ret ?_) | (with_reducible refine AW.exit ?_) | (with_reducible refine AW.skip ?_))))
  all_goals (conv => whnf)
  all_goals (first | rfl | (simp only [V.bool.injEq, V.tup.injEq, V.agg.injEq, V.str.injEq, V.int.injEq, V.sl.injEq, V.ifc.injEq, List.cons.injEq, and_true, true_and, and_self]; done) | (simp only [V.bool.injEq, V.tup.injEq, V.agg.injEq, V.str.injEq, V.int.injEq, V.sl.injEq, V.ifc.injEq, List.cons.injEq, and_true, true_and, and_self]; grind) | (simp  at *; done) | (simp  at *; grind))

theorem takeText_ok (t rest : Bs) (most : Int) (h : t.length ≤ most) (h2 : t.length ≤ 1000000) : Fn Tryd.prog 33 [.str (text t ++ rest), .int .i64 most] (.tup [.str t, .str rest, noErr]) := takeText_ok' _ t rest most (text_app t rest) h h2
theorem takeText_large (t : Bs) (most : Int) (h : most < t.length) (h2 : t.length ≤ 1000000) : Fn Tryd.prog 33 [.str (text t), .int .i64 most] (.tup [.str [], .str (text t), errV [[112, 97, 99, 107]] 13]) := takeText_large' _ t [] most (by rw [List.append_nil]; rfl) h h2
theorem takeText_cut (t : Bs) (c : Nat) (most : Int) (h : c < (text t).length) (h1 : t.length ≤ most) (h2 : t.length ≤ 1000000) : Fn Tryd.prog 33 [.str (List.drop 0 (List.take c (text t))), .int .i64 most] (.tup [.str [], .str (List.drop 0 (List.take c (text t))), errV [[112, 97, 99, 107]] 11]) := by
  rcases Nat.lt_or_ge c (num t.length).length with hc | hc
  · rw [text_take_lo t c hc]
    exact takeText_short' _ most (take_cut _ c (by omega) hc)
  · rw [text_len] at h
    rw [text_take_hi t c hc, List.drop_zero]
    exact takeText_less' _ _ t.length most rfl (by simp only [List.length_take]; omega) h1 h2
end Go.Proofs.YtnblecdpkbempaaDoor
