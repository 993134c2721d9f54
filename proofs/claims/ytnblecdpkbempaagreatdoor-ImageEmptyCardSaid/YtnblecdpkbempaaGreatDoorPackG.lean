/-
  Package pack over whatever bytes: what is taken, or why not. No conditions.
-/
import Derived.Test.YtnblecdpkbempaaGreatDoorPack
namespace Go.Proofs.YtnblecdpkbempaaGreatDoor
open Go.RowKit
set_option linter.unusedSimpArgs false
set_option linter.unusedVariables false

/-- a number at the front of bytes: fuel, its place, what is taken so far -/
def takeG : Nat → Nat → Nat → Bs → Option (Nat × Bs)
  | 0, _, _, _ => none
  | _ + 1, _, _, [] => none
  | f + 1, i, n, b :: r => if 127 < b.toNat ∨ (b.toNat = 0 ∧ 0 < i) then none else if b.toNat < 64 then some (n + b.toNat % 64 * 64 ^ i, r) else takeG f (i + 1) (n + b.toNat % 64 * 64 ^ i) r
def takeCG : Nat → Nat → Bs → Int
  | 0, _, _ => 10
  | _ + 1, _, [] => 11
  | f + 1, i, b :: r => if 127 < b.toNat ∨ (b.toNat = 0 ∧ 0 < i) then 10 else takeCG f (i + 1) r
def takeF (s : Bs) : Option (Nat × Bs) := takeG 8 0 0 s
def takeC (s : Bs) : Int := takeCG 8 0 s
def textF (s : Bs) (most : Int) : Option (Bs × Bs) := match takeF s with
  | none => none
  | some (n, r) => if most < n then none else if r.length < n then none else some (r.take n, r.drop n)
def textC (s : Bs) (most : Int) : Int := match takeF s with
  | none => takeC s
  | some (n, r) => if most < n then 13 else 11
def flagF : Bs → Option (Bool × Bs)
  | [] => none
  | b :: r => if 1 < b.toNat then none else some (decide (b.toNat = 1), r)
def flagC : Bs → Int
  | [] => 11
  | _ :: _ => 10
theorem drop_nth {s : Bs} {i : Nat} (h : i < s.length) : s.drop i = s.getD i 0 :: s.drop (i + 1) := by
  rw [List.drop_eq_getElem_cons h, List.getD_eq_getElem?_getD, List.getElem?_eq_getElem h]; rfl
theorem takeG_end {f i n : Nat} {s : Bs} (h : s.length ≤ i) : takeG f i n (s.drop i) = none := by
  rw [List.drop_of_length_le h]; cases f <;> rfl
theorem takeG_step {i n : Nat} {s : Bs} (h : i < s.length) (hi : i < 8) : takeG (8 - i) i n (s.drop i) = if 127 < (s.getD i 0).toNat ∨ ((s.getD i 0).toNat = 0 ∧ 0 < i) then none else if (s.getD i 0).toNat < 64 then some (n + (s.getD i 0).toNat % 64 * 64 ^ i, s.drop (i + 1)) else takeG (8 - (i + 1)) (i + 1) (n + (s.getD i 0).toNat % 64 * 64 ^ i) (s.drop (i + 1)) := by
  rw [drop_nth h, show 8 - i = (8 - (i + 1)) + 1 by omega, takeG]
theorem takeCG_end {i : Nat} {s : Bs} (h : s.length ≤ i) (hi : i < 8) : takeCG (8 - i) i (s.drop i) = 11 := by
  rw [List.drop_of_length_le h, show 8 - i = (8 - (i + 1)) + 1 by omega]; rfl
theorem takeCG_step {i : Nat} {s : Bs} (h : i < s.length) (hi : i < 8) : takeCG (8 - i) i (s.drop i) = if 127 < (s.getD i 0).toNat ∨ ((s.getD i 0).toNat = 0 ∧ 0 < i) then 10 else takeCG (8 - (i + 1)) (i + 1) (s.drop (i + 1)) := by
  rw [drop_nth h, show 8 - i = (8 - (i + 1)) + 1 by omega, takeCG]
theorem takeG_num : ∀ (f i n k : Nat) (rest : Bs), k < 64 ^ (f + 1) → (i = 0 ∨ 0 < k) → takeG (f + 1) i n (num k ++ rest) = some (n + k * 64 ^ i, rest) := fun f => by
  induction f with
  | zero =>
    intro i n k rest h h0
    have hk : k < 64 := by simpa using h
    rw [num_lo hk, List.singleton_append, takeG, UInt8.toNat_ofNat']
    rw [if_neg (by omega), if_pos (by omega), show k % 2 ^ 8 % 64 = k by omega]
  | succ f ih =>
    intro i n k rest h h0
    rcases Nat.lt_or_ge k 64 with hk | hk
    · rw [num_lo hk, List.singleton_append, takeG, UInt8.toNat_ofNat']
      rw [if_neg (by omega), if_pos (by omega), show k % 2 ^ 8 % 64 = k by omega]
    · rw [num_hi hk, List.cons_append, takeG, UInt8.toNat_ofNat']
      rw [if_neg (by omega), if_neg (by omega), show (64 + k % 64) % 2 ^ 8 % 64 = k % 64 by omega]
      rw [ih (i + 1) _ (k / 64) rest (Nat.div_lt_of_lt_mul (by rw [Nat.pow_succ] at h; omega)) (.inr (by omega))]
      congr 2
      exact (next_eq (k := n + k * 64 ^ i) rfl).symm
theorem takeF_num (k : Nat) (rest : Bs) (h : k < 281474976710656) : takeF (num k ++ rest) = some (k, rest) := by
  rw [takeF, takeG_num 7 0 0 k rest (by simpa using h) (.inl rfl)]; simp
theorem textF_text (t rest : Bs) (most : Int) (h : t.length ≤ most) (h2 : t.length < 281474976710656) : textF (text t ++ rest) most = some (t, rest) := by
  unfold textF
  rw [text_app, takeF_num _ _ h2]
  simp only
  rw [if_neg (by omega), if_neg (by simp)]
  simp
theorem flagF_flag (b : Bool) (rest : Bs) : flagF ((if b then [1] else [0]) ++ rest) = some (b, rest) := by cases b <;> rfl
theorem takeG_lt : ∀ (f i n : Nat) (s : Bs) (k : Nat) (rest : Bs), n < 64 ^ i → takeG f i n s = some (k, rest) → k < 64 ^ (i + f) ∧ rest.length < s.length
  | 0, i, n, s, k, rest, _, h => by simp [takeG] at h
  | f + 1, i, n, [], k, rest, _, h => by simp [takeG] at h
  | f + 1, i, n, b :: r, k, rest, hn, h => by
    rw [takeG] at h
    split at h
    · cases h
    · have hn2 := next_lt (y := b.toNat) hn
      split at h
      · obtain ⟨rfl, rfl⟩ := Prod.mk.inj (Option.some.inj h)
        exact ⟨Nat.lt_of_lt_of_le hn2 (Nat.pow_le_pow_right (by omega) (by omega)), by simp⟩
      · obtain ⟨h1, h2⟩ := takeG_lt f (i + 1) _ r k rest hn2 h
        exact ⟨by rw [show i + (f + 1) = i + 1 + f by omega]; exact h1, by simp; omega⟩
theorem takeF_lt {s : Bs} {k : Nat} {rest : Bs} (h : takeF s = some (k, rest)) : k < 281474976710656 ∧ rest.length < s.length := by
  have := takeG_lt 8 0 0 s k rest (by simp) h
  exact ⟨by simpa using this.1, this.2⟩

set_option maxRecDepth 100000 in
set_option maxHeartbeats 400000 in
theorem take_some (s : Bs) (k : Nat) (rest : Bs) (h : takeF s = some (k, rest)) : Fn Tryz.prog 124 [.str s] (.tup [.int .i64 (k : Int), .str rest, noErr]) := by
  refine Fn.mk' base Tryz.func124 rfl rfl rfl ?_
  repeat' ((conv => whnf); (first
   | (with_reducible first | refine AW.seq ?_ | refine AW.region base (by kernel_rfl) ?_ | refine AW.cond ?_ | refine AW.block ?_ | refine AW.ret ?_ | refine AW.exit ?_ | refine AW.skip ?_ | refine Br.t ?_ | refine Br.f ?_)
   | ((with_reducible refine Or.inl ?_); (conv => whnf); (with_reducible refine And.intro LitSl.mk ?_))
   | refine Br.t ?_
   | refine Br.f ?_
   | (with_reducible refine Br.mk (fun hb => ?_) (fun hb => ?_) <;> (try rw [hb]) <;> (try simp only [List.length_map, decide_eq_true_eq, decide_eq_false_iff_not, Bool.not_eq_true', Bool.not_eq_false', Int.ofNat_lt, Int.ofNat_le, Int.not_lt, Int.not_le, Int.toNat_natCast] at hb))
   | ((with_reducible first | refine Or.inl (And.intro ?_ ?_) | refine And.intro ?_ ?_); (focus (first | with_reducible rfl | exact trivial | (exact ⟨rfl, trivial⟩) | (exact ⟨rfl, rfl, trivial⟩) | omega | (intro r hr; simp only [List.mem_singleton] at hr; subst hr; rfl)  | ((exact shl_in64 _ _ (by omega))) | ((exact or_side _ _ _ (by omega) (by assumption))) | ((simp only [in64]; rw [y63]; omega)) | ((simp only [limK]; omega)) | ((simp [limK]; omega)) | ((simp [IntKind.bits]; omega)) | ((simp only [in64, maxLen] at *; omega)) | (simp only [in64]; omega) | assumption | (simp; done) | (simp [V.cells]; done) | (simp [in64, maxLen, limK] at *; omega) | ((show confB _ _ = true); kernel_rfl) | rfl)))
   | (intro row hrow; (try simp only [Int.toNat_natCast, List.length_map, toNat_pred, toNat_succ', toNat_zero', toNat_one'] at hrow); (first | (have hsm := same_map (by assumption) hrow; subst hsm; clear hrow) | (obtain ⟨p, hp, rfl⟩ := of_map hrow; clear hrow)))))
  refine AW.loop (fun (⟨i, n⟩ : Nat × Nat) => i ≤ 8 ∧ takeG (8 - i) i n (s.drop i) = some (k, rest) ∧ n < 64 ^ i) (fun (⟨i, n⟩ : Nat × Nat) => ⟨[(0, .str s), (5, .int .i64 (n : Int)), (7, .int .i64 (i : Int))], []⟩) (fun (⟨i, n⟩ : Nat × Nat) => 8 - i) (0, 0) ?_ ?_ ?_
  · (exact ⟨by omega, h, by simp⟩)
  · (refine ⟨⟨[], ?_⟩⟩; repeat' (first | (with_reducible rfl) | exact trivial | ((conv => whnf); (first | (with_reducible refine And.intro ?_ ?_) | (first | with_reducible rfl | ((first | refine congrArg V.str ?_ | refine congrArg (V.int _) ?_ | refine congrArg V.bool ?_ | refine congrArg V.sl ?_); (first | with_reducible rfl | omega | exact congrArg (fun x : Nat => (x : Int)) ((or_val _ _ _ hk3).trans (congrArg (fun x : UInt8 => n + x.toNat % 64 * 64 ^ i) hq)) | rfl | (simp; done))) | (first | with_reducible rfl | omega | exact congrArg (fun x : Nat => (x : Int)) ((or_val _ _ _ hk3).trans (congrArg (fun x : UInt8 => n + x.toNat % 64 * 64 ^ i) hq)) | rfl | (simp; done)) | rfl)))))
  · rintro ⟨i, n⟩ hk
    obtain ⟨hk1, hk2, hk3⟩ := hk
    have hn8 := fun h7 : i ≤ 7 => lt8 hk3 h7
    rcases (by omega : i = 8 ∨ i < 8) with hi8 | hi8
    · subst hi8
      exact absurd hk2 (by simp [takeG])
    have hn7 := hn8 (by omega)
    rcases Nat.lt_or_ge i s.length with hl | hl
    case inr =>
      skip
      rw [takeG_end hl] at hk2; cases hk2
    rw [takeG_step hl hi8] at hk2
    by_cases hbb : 127 < (s.getD i 0).toNat ∨ ((s.getD i 0).toNat = 0 ∧ 0 < i)
    · rw [if_pos hbb] at hk2
      cases hk2
    rw [if_neg hbb] at hk2
    have hq : s.getD (i : Int).toNat 0 = s.getD i 0 := by rw [Int.toNat_natCast]
    by_cases hlo : (s.getD i 0).toNat < 64
    · rw [if_pos hlo] at hk2
      obtain ⟨hk2⟩ : _ ∧ True := ⟨Prod.mk.inj (Option.some.inj hk2), trivial⟩
      repeat' ((conv => whnf); (first
       | (with_reducible first | refine AW.seq ?_ | refine AW.region base (by kernel_rfl) ?_ | refine AW.cond ?_ | refine AW.block ?_ | refine AW.ret ?_ | refine AW.exit ?_ | refine AW.skip ?_ | refine Br.t ?_ | refine Br.f ?_)
       | ((with_reducible refine Or.inl ?_); (conv => whnf); (with_reducible refine And.intro LitSl.mk ?_))
       | refine Br.t ?_
       | refine Br.f ?_
       | (with_reducible refine Br.mk (fun hb => ?_) (fun hb => (by exfalso; (first | (simp at hb; done) | omega | (simp at hb; omega) | fail))))
       | (with_reducible refine Br.mk (fun hb => (by exfalso; (first | (simp at hb; done) | omega | (simp at hb; omega) | fail))) (fun hb => ?_))
       | ((with_reducible refine Or.inl ?_); (conv => whnf); (first | (with_reducible first | refine ⟨_, new_fn _ _ (by decide), ?_⟩)))
       | (with_reducible refine Br.mk (fun hb => ?_) (fun hb => ?_) <;> (try rw [hb]) <;> (try simp only [List.length_map, decide_eq_true_eq, decide_eq_false_iff_not, Bool.not_eq_true', Bool.not_eq_false', Int.ofNat_lt, Int.ofNat_le, Int.not_lt, Int.not_le, Int.toNat_natCast, List.length_append] at hb))
       | ((with_reducible first | refine Or.inl (And.intro ?_ ?_) | refine And.intro ?_ ?_); (focus (first | with_reducible rfl | exact trivial | (exact ⟨rfl, trivial⟩) | (exact ⟨rfl, rfl, trivial⟩) | omega | (intro r hr; simp only [List.mem_singleton] at hr; subst hr; rfl)  | ((exact shl_in64 _ _ (by omega))) | ((exact or_side _ _ _ (by omega) (by assumption))) | ((simp only [in64]; rw [y63]; omega)) | ((simp only [limK]; omega)) | ((simp [limK]; omega)) | ((simp [IntKind.bits]; omega)) | ((simp only [in64, maxLen] at *; omega)) | (simp only [in64]; omega) | assumption | (simp; done) | (simp [V.cells]; done) | (simp [in64, maxLen, limK] at *; omega) | ((show confB _ _ = true); kernel_rfl) | rfl)))
       | (intro row hrow; (try simp only [Int.toNat_natCast, List.length_map, toNat_pred, toNat_succ', toNat_zero', toNat_one'] at hrow); (first | (have hsm := same_map (by assumption) hrow; subst hsm; clear hrow) | (obtain ⟨p, hp, rfl⟩ := of_map hrow; clear hrow)))))
      all_goals ((conv => whnf); first | (exact ret3 (congrArg (fun x : Nat => (x : Int)) (((or_val _ _ _ hk3).trans (congrArg (fun x : UInt8 => n + x.toNat % 64 * 64 ^ i) hq)).trans hk2.1)) (by rw [List.take_length, toNat_succ']; exact hk2.2)) | (exfalso; simp at *; omega))
    rw [if_neg hlo] at hk2
    repeat' ((conv => whnf); (first
     | (with_reducible first | refine AW.seq ?_ | refine AW.region base (by kernel_rfl) ?_ | refine AW.cond ?_ | refine AW.block ?_ | refine AW.ret ?_ | refine AW.exit ?_ | refine AW.skip ?_ | refine Br.t ?_ | refine Br.f ?_)
     | ((with_reducible refine Or.inl ?_); (conv => whnf); (with_reducible refine And.intro LitSl.mk ?_))
     | refine Br.t ?_
     | refine Br.f ?_
     | (with_reducible refine Br.mk (fun hb => ?_) (fun hb => (by exfalso; (first | (simp at hb; done) | omega | (simp at hb; omega) | fail))))
     | (with_reducible refine Br.mk (fun hb => (by exfalso; (first | (simp at hb; done) | omega | (simp at hb; omega) | fail))) (fun hb => ?_))
     | ((with_reducible refine Or.inl ?_); (conv => whnf); (first | (with_reducible first | refine ⟨_, new_fn _ _ (by decide), ?_⟩)))
     | (with_reducible refine Br.mk (fun hb => ?_) (fun hb => ?_) <;> (try rw [hb]) <;> (try simp only [List.length_map, decide_eq_true_eq, decide_eq_false_iff_not, Bool.not_eq_true', Bool.not_eq_false', Int.ofNat_lt, Int.ofNat_le, Int.not_lt, Int.not_le, Int.toNat_natCast, List.length_append] at hb))
     | ((with_reducible first | refine Or.inl (And.intro ?_ ?_) | refine And.intro ?_ ?_); (focus (first | with_reducible rfl | exact trivial | (exact ⟨rfl, trivial⟩) | (exact ⟨rfl, rfl, trivial⟩) | omega | (intro r hr; simp only [List.mem_singleton] at hr; subst hr; rfl)  | ((exact shl_in64 _ _ (by omega))) | ((exact or_side _ _ _ (by omega) (by assumption))) | ((simp only [in64]; rw [y63]; omega)) | ((simp only [limK]; omega)) | ((simp [limK]; omega)) | ((simp [IntKind.bits]; omega)) | ((simp only [in64, maxLen] at *; omega)) | (simp only [in64]; omega) | assumption | (simp; done) | (simp [V.cells]; done) | (simp [in64, maxLen, limK] at *; omega) | ((show confB _ _ = true); kernel_rfl) | rfl)))
     | (intro row hrow; (try simp only [Int.toNat_natCast, List.length_map, toNat_pred, toNat_succ', toNat_zero', toNat_one'] at hrow); (first | (have hsm := same_map (by assumption) hrow; subst hsm; clear hrow) | (obtain ⟨p, hp, rfl⟩ := of_map hrow; clear hrow)))))
    all_goals (try first | with_reducible assumption | ((first | show (_ : Int) ≤ _ | show (_ : Nat) ≤ _ | show (_ : Int) < _ | show ¬ (_ : Int) = _); (first | omega | (simp at *; omega))) | ((show in64 _); (simp only [in64] at *; (first | omega | (simp at *; omega)))) | ((with_reducible refine And.intro ?_ ?_) <;> (first | omega | (simp at *; omega))))
    all_goals (first
      | (with_reducible exact absurd rfl (by assumption))
      | ((conv => whnf); (refine ⟨(i + 1, n + (s.getD i 0).toNat % 64 * 64 ^ i), ?_⟩); (refine And.intro ?_ (And.intro ?_ ?_)); (focus (refine ⟨⟨[], ?_⟩⟩; repeat' (first | (with_reducible rfl) | exact trivial | ((conv => whnf); (first | (with_reducible refine And.intro ?_ ?_) | (first | with_reducible rfl | ((first | refine congrArg V.str ?_ | refine congrArg (V.int _) ?_ | refine congrArg V.bool ?_ | refine congrArg V.sl ?_); (first | with_reducible rfl | omega | exact congrArg (fun x : Nat => (x : Int)) ((or_val _ _ _ hk3).trans (congrArg (fun x : UInt8 => n + x.toNat % 64 * 64 ^ i) hq)) | rfl | (simp; done))) | (first | with_reducible rfl | omega | exact congrArg (fun x : Nat => (x : Int)) ((or_val _ _ _ hk3).trans (congrArg (fun x : UInt8 => n + x.toNat % 64 * 64 ^ i) hq)) | rfl | (simp; done)) | rfl)))))); (focus (exact ⟨by omega, hk2, next_lt hk3⟩)); (focus (first | omega | (dsimp only; omega) | (simp; done) | (simp; omega) | (simp at *; omega))))
      | ((conv => whnf); (try (first | rfl | (exfalso; simp_all; done) | (exfalso; simp at *; omega))); done))


set_option maxRecDepth 100000 in
set_option maxHeartbeats 400000 in
theorem take_none (s : Bs) (h : takeF s = none) : Fn Tryz.prog 124 [.str s] (.tup [.int .i64 0, .str s, errV [[112, 97, 99, 107]] (takeC s)]) := by
  refine Fn.mk' base Tryz.func124 rfl rfl rfl ?_
  repeat' ((conv => whnf); (first
   | (with_reducible first | refine AW.seq ?_ | refine AW.region base (by kernel_rfl) ?_ | refine AW.cond ?_ | refine AW.block ?_ | refine AW.ret ?_ | refine AW.exit ?_ | refine AW.skip ?_ | refine Br.t ?_ | refine Br.f ?_)
   | ((with_reducible refine Or.inl ?_); (conv => whnf); (with_reducible refine And.intro LitSl.mk ?_))
   | refine Br.t ?_
   | refine Br.f ?_
   | (with_reducible refine Br.mk (fun hb => ?_) (fun hb => ?_) <;> (try rw [hb]) <;> (try simp only [List.length_map, decide_eq_true_eq, decide_eq_false_iff_not, Bool.not_eq_true', Bool.not_eq_false', Int.ofNat_lt, Int.ofNat_le, Int.not_lt, Int.not_le, Int.toNat_natCast] at hb))
   | ((with_reducible first | refine Or.inl (And.intro ?_ ?_) | refine And.intro ?_ ?_); (focus (first | with_reducible rfl | exact trivial | (exact ⟨rfl, trivial⟩) | (exact ⟨rfl, rfl, trivial⟩) | omega | (intro r hr; simp only [List.mem_singleton] at hr; subst hr; rfl)  | ((exact shl_in64 _ _ (by omega))) | ((exact or_side _ _ _ (by omega) (by assumption))) | ((simp only [in64]; rw [y63]; omega)) | ((simp only [limK]; omega)) | ((simp [limK]; omega)) | ((simp [IntKind.bits]; omega)) | ((simp only [in64, maxLen] at *; omega)) | (simp only [in64]; omega) | assumption | (simp; done) | (simp [V.cells]; done) | (simp [in64, maxLen, limK] at *; omega) | ((show confB _ _ = true); kernel_rfl) | rfl)))
   | (intro row hrow; (try simp only [Int.toNat_natCast, List.length_map, toNat_pred, toNat_succ', toNat_zero', toNat_one'] at hrow); (first | (have hsm := same_map (by assumption) hrow; subst hsm; clear hrow) | (obtain ⟨p, hp, rfl⟩ := of_map hrow; clear hrow)))))
  refine AW.loop (fun (⟨i, n⟩ : Nat × Nat) => i ≤ 8 ∧ takeG (8 - i) i n (s.drop i) = none ∧ n < 64 ^ i ∧ takeC s = takeCG (8 - i) i (s.drop i)) (fun (⟨i, n⟩ : Nat × Nat) => ⟨[(0, .str s), (5, .int .i64 (n : Int)), (7, .int .i64 (i : Int))], []⟩) (fun (⟨i, n⟩ : Nat × Nat) => 8 - i) (0, 0) ?_ ?_ ?_
  · (exact ⟨by omega, h, by simp, rfl⟩)
  · (refine ⟨⟨[], ?_⟩⟩; repeat' (first | (with_reducible rfl) | exact trivial | ((conv => whnf); (first | (with_reducible refine And.intro ?_ ?_) | (first | with_reducible rfl | ((first | refine congrArg V.str ?_ | refine congrArg (V.int _) ?_ | refine congrArg V.bool ?_ | refine congrArg V.sl ?_); (first | with_reducible rfl | omega | exact congrArg (fun x : Nat => (x : Int)) ((or_val _ _ _ hk3).trans (congrArg (fun x : UInt8 => n + x.toNat % 64 * 64 ^ i) hq)) | rfl | (simp; done))) | (first | with_reducible rfl | omega | exact congrArg (fun x : Nat => (x : Int)) ((or_val _ _ _ hk3).trans (congrArg (fun x : UInt8 => n + x.toNat % 64 * 64 ^ i) hq)) | rfl | (simp; done)) | rfl)))))
  · rintro ⟨i, n⟩ hk
    obtain ⟨hk1, hk2, hk3, hk4⟩ := hk
    have hn8 := fun h7 : i ≤ 7 => lt8 hk3 h7
    rcases (by omega : i = 8 ∨ i < 8) with hi8 | hi8
    · subst hi8
      rw [show takeCG (8 - 8) 8 (s.drop 8) = 10 from rfl] at hk4
      repeat' ((conv => whnf); (first
       | (with_reducible first | refine AW.seq ?_ | refine AW.region base (by kernel_rfl) ?_ | refine AW.cond ?_ | refine AW.block ?_ | refine AW.ret ?_ | refine AW.exit ?_ | refine AW.skip ?_ | refine Br.t ?_ | refine Br.f ?_)
       | ((with_reducible refine Or.inl ?_); (conv => whnf); (with_reducible refine And.intro LitSl.mk ?_))
       | refine Br.t ?_
       | refine Br.f ?_
       | (with_reducible refine Br.mk (fun hb => ?_) (fun hb => (by exfalso; (first | (simp at hb; done) | omega | (simp at hb; omega) | fail))))
       | (with_reducible refine Br.mk (fun hb => (by exfalso; (first | (simp at hb; done) | omega | (simp at hb; omega) | fail))) (fun hb => ?_))
       | ((with_reducible refine Or.inl ?_); (conv => whnf); (first | (with_reducible first | refine ⟨_, new_fn _ _ (by decide), ?_⟩)))
       | (with_reducible refine Br.mk (fun hb => ?_) (fun hb => ?_) <;> (try rw [hb]) <;> (try simp only [List.length_map, decide_eq_true_eq, decide_eq_false_iff_not, Bool.not_eq_true', Bool.not_eq_false', Int.ofNat_lt, Int.ofNat_le, Int.not_lt, Int.not_le, Int.toNat_natCast, List.length_append] at hb))
       | ((with_reducible first | refine Or.inl (And.intro ?_ ?_) | refine And.intro ?_ ?_); (focus (first | with_reducible rfl | exact trivial | (exact ⟨rfl, trivial⟩) | (exact ⟨rfl, rfl, trivial⟩) | omega | (intro r hr; simp only [List.mem_singleton] at hr; subst hr; rfl)  | ((exact shl_in64 _ _ (by omega))) | ((exact or_side _ _ _ (by omega) (by assumption))) | ((simp only [in64]; rw [y63]; omega)) | ((simp only [limK]; omega)) | ((simp [limK]; omega)) | ((simp [IntKind.bits]; omega)) | ((simp only [in64, maxLen] at *; omega)) | (simp only [in64]; omega) | assumption | (simp; done) | (simp [V.cells]; done) | (simp [in64, maxLen, limK] at *; omega) | ((show confB _ _ = true); kernel_rfl) | rfl)))
       | (intro row hrow; (try simp only [Int.toNat_natCast, List.length_map, toNat_pred, toNat_succ', toNat_zero', toNat_one'] at hrow); (first | (have hsm := same_map (by assumption) hrow; subst hsm; clear hrow) | (obtain ⟨p, hp, rfl⟩ := of_map hrow; clear hrow)))))
      all_goals ((conv => whnf); first | (rw [hk4]; done) | (rw [hk4]; rfl) | (exfalso; simp at *; omega))
    have hn7 := hn8 (by omega)
    rcases Nat.lt_or_ge i s.length with hl | hl
    case inr =>
      skip
      rw [takeCG_end hl hi8] at hk4
      repeat' ((conv => whnf); (first
       | (with_reducible first | refine AW.seq ?_ | refine AW.region base (by kernel_rfl) ?_ | refine AW.cond ?_ | refine AW.block ?_ | refine AW.ret ?_ | refine AW.exit ?_ | refine AW.skip ?_ | refine Br.t ?_ | refine Br.f ?_)
       | ((with_reducible refine Or.inl ?_); (conv => whnf); (with_reducible refine And.intro LitSl.mk ?_))
       | refine Br.t ?_
       | refine Br.f ?_
       | (with_reducible refine Br.mk (fun hb => ?_) (fun hb => (by exfalso; (first | (simp at hb; done) | omega | (simp at hb; omega) | fail))))
       | (with_reducible refine Br.mk (fun hb => (by exfalso; (first | (simp at hb; done) | omega | (simp at hb; omega) | fail))) (fun hb => ?_))
       | ((with_reducible refine Or.inl ?_); (conv => whnf); (first | (with_reducible first | refine ⟨_, new_fn _ _ (by decide), ?_⟩)))
       | (with_reducible refine Br.mk (fun hb => ?_) (fun hb => ?_) <;> (try rw [hb]) <;> (try simp only [List.length_map, decide_eq_true_eq, decide_eq_false_iff_not, Bool.not_eq_true', Bool.not_eq_false', Int.ofNat_lt, Int.ofNat_le, Int.not_lt, Int.not_le, Int.toNat_natCast, List.length_append] at hb))
       | ((with_reducible first | refine Or.inl (And.intro ?_ ?_) | refine And.intro ?_ ?_); (focus (first | with_reducible rfl | exact trivial | (exact ⟨rfl, trivial⟩) | (exact ⟨rfl, rfl, trivial⟩) | omega | (intro r hr; simp only [List.mem_singleton] at hr; subst hr; rfl)  | ((exact shl_in64 _ _ (by omega))) | ((exact or_side _ _ _ (by omega) (by assumption))) | ((simp only [in64]; rw [y63]; omega)) | ((simp only [limK]; omega)) | ((simp [limK]; omega)) | ((simp [IntKind.bits]; omega)) | ((simp only [in64, maxLen] at *; omega)) | (simp only [in64]; omega) | assumption | (simp; done) | (simp [V.cells]; done) | (simp [in64, maxLen, limK] at *; omega) | ((show confB _ _ = true); kernel_rfl) | rfl)))
       | (intro row hrow; (try simp only [Int.toNat_natCast, List.length_map, toNat_pred, toNat_succ', toNat_zero', toNat_one'] at hrow); (first | (have hsm := same_map (by assumption) hrow; subst hsm; clear hrow) | (obtain ⟨p, hp, rfl⟩ := of_map hrow; clear hrow)))))
      all_goals ((conv => whnf); first | (rw [hk4]; done) | (rw [hk4]; rfl) | (exfalso; simp at *; omega))
    rw [takeG_step hl hi8] at hk2
    by_cases hbb : 127 < (s.getD i 0).toNat ∨ ((s.getD i 0).toNat = 0 ∧ 0 < i)
    · rw [if_pos hbb] at hk2
      rw [takeCG_step hl hi8, if_pos hbb] at hk4
      repeat' ((conv => whnf); (first
       | (with_reducible first | refine AW.seq ?_ | refine AW.region base (by kernel_rfl) ?_ | refine AW.cond ?_ | refine AW.block ?_ | refine AW.ret ?_ | refine AW.exit ?_ | refine AW.skip ?_ | refine Br.t ?_ | refine Br.f ?_)
       | ((with_reducible refine Or.inl ?_); (conv => whnf); (with_reducible refine And.intro LitSl.mk ?_))
       | refine Br.t ?_
       | refine Br.f ?_
       | (with_reducible refine Br.mk (fun hb => ?_) (fun hb => (by exfalso; (first | (simp at hb; done) | omega | (simp at hb; omega) | fail))))
       | (with_reducible refine Br.mk (fun hb => (by exfalso; (first | (simp at hb; done) | omega | (simp at hb; omega) | fail))) (fun hb => ?_))
       | ((with_reducible refine Or.inl ?_); (conv => whnf); (first | (with_reducible first | refine ⟨_, new_fn _ _ (by decide), ?_⟩)))
       | (with_reducible refine Br.mk (fun hb => ?_) (fun hb => ?_) <;> (try rw [hb]) <;> (try simp only [List.length_map, decide_eq_true_eq, decide_eq_false_iff_not, Bool.not_eq_true', Bool.not_eq_false', Int.ofNat_lt, Int.ofNat_le, Int.not_lt, Int.not_le, Int.toNat_natCast, List.length_append] at hb))
       | ((with_reducible first | refine Or.inl (And.intro ?_ ?_) | refine And.intro ?_ ?_); (focus (first | with_reducible rfl | exact trivial | (exact ⟨rfl, trivial⟩) | (exact ⟨rfl, rfl, trivial⟩) | omega | (intro r hr; simp only [List.mem_singleton] at hr; subst hr; rfl)  | ((exact shl_in64 _ _ (by omega))) | ((exact or_side _ _ _ (by omega) (by assumption))) | ((simp only [in64]; rw [y63]; omega)) | ((simp only [limK]; omega)) | ((simp [limK]; omega)) | ((simp [IntKind.bits]; omega)) | ((simp only [in64, maxLen] at *; omega)) | (simp only [in64]; omega) | assumption | (simp; done) | (simp [V.cells]; done) | (simp [in64, maxLen, limK] at *; omega) | ((show confB _ _ = true); kernel_rfl) | rfl)))
       | (intro row hrow; (try simp only [Int.toNat_natCast, List.length_map, toNat_pred, toNat_succ', toNat_zero', toNat_one'] at hrow); (first | (have hsm := same_map (by assumption) hrow; subst hsm; clear hrow) | (obtain ⟨p, hp, rfl⟩ := of_map hrow; clear hrow)))))
      all_goals ((conv => whnf); first | (rw [hk4]; done) | (rw [hk4]; rfl) | (exfalso; simp at *; omega))
    rw [if_neg hbb] at hk2
    have hq : s.getD (i : Int).toNat 0 = s.getD i 0 := by rw [Int.toNat_natCast]
    by_cases hlo : (s.getD i 0).toNat < 64
    · rw [if_pos hlo] at hk2
      cases hk2
    rw [if_neg hlo] at hk2
    rw [takeCG_step hl hi8, if_neg hbb] at hk4
    repeat' ((conv => whnf); (first
     | (with_reducible first | refine AW.seq ?_ | refine AW.region base (by kernel_rfl) ?_ | refine AW.cond ?_ | refine AW.block ?_ | refine AW.ret ?_ | refine AW.exit ?_ | refine AW.skip ?_ | refine Br.t ?_ | refine Br.f ?_)
     | ((with_reducible refine Or.inl ?_); (conv => whnf); (with_reducible refine And.intro LitSl.mk ?_))
     | refine Br.t ?_
     | refine Br.f ?_
     | (with_reducible refine Br.mk (fun hb => ?_) (fun hb => (by exfalso; (first | (simp at hb; done) | omega | (simp at hb; omega) | fail))))
     | (with_reducible refine Br.mk (fun hb => (by exfalso; (first | (simp at hb; done) | omega | (simp at hb; omega) | fail))) (fun hb => ?_))
     | ((with_reducible refine Or.inl ?_); (conv => whnf); (first | (with_reducible first | refine ⟨_, new_fn _ _ (by decide), ?_⟩)))
     | (with_reducible refine Br.mk (fun hb => ?_) (fun hb => ?_) <;> (try rw [hb]) <;> (try simp only [List.length_map, decide_eq_true_eq, decide_eq_false_iff_not, Bool.not_eq_true', Bool.not_eq_false', Int.ofNat_lt, Int.ofNat_le, Int.not_lt, Int.not_le, Int.toNat_natCast, List.length_append] at hb))
     | ((with_reducible first | refine Or.inl (And.intro ?_ ?_) | refine And.intro ?_ ?_); (focus (first | with_reducible rfl | exact trivial | (exact ⟨rfl, trivial⟩) | (exact ⟨rfl, rfl, trivial⟩) | omega | (intro r hr; simp only [List.mem_singleton] at hr; subst hr; rfl)  | ((exact shl_in64 _ _ (by omega))) | ((exact or_side _ _ _ (by omega) (by assumption))) | ((simp only [in64]; rw [y63]; omega)) | ((simp only [limK]; omega)) | ((simp [limK]; omega)) | ((simp [IntKind.bits]; omega)) | ((simp only [in64, maxLen] at *; omega)) | (simp only [in64]; omega) | assumption | (simp; done) | (simp [V.cells]; done) | (simp [in64, maxLen, limK] at *; omega) | ((show confB _ _ = true); kernel_rfl) | rfl)))
     | (intro row hrow; (try simp only [Int.toNat_natCast, List.length_map, toNat_pred, toNat_succ', toNat_zero', toNat_one'] at hrow); (first | (have hsm := same_map (by assumption) hrow; subst hsm; clear hrow) | (obtain ⟨p, hp, rfl⟩ := of_map hrow; clear hrow)))))
    all_goals (try first | with_reducible assumption | ((first | show (_ : Int) ≤ _ | show (_ : Nat) ≤ _ | show (_ : Int) < _ | show ¬ (_ : Int) = _); (first | omega | (simp at *; omega))) | ((show in64 _); (simp only [in64] at *; (first | omega | (simp at *; omega)))) | ((with_reducible refine And.intro ?_ ?_) <;> (first | omega | (simp at *; omega))))
    all_goals (first
      | (with_reducible exact absurd rfl (by assumption))
      | ((conv => whnf); (refine ⟨(i + 1, n + (s.getD i 0).toNat % 64 * 64 ^ i), ?_⟩); (refine And.intro ?_ (And.intro ?_ ?_)); (focus (refine ⟨⟨[], ?_⟩⟩; repeat' (first | (with_reducible rfl) | exact trivial | ((conv => whnf); (first | (with_reducible refine And.intro ?_ ?_) | (first | with_reducible rfl | ((first | refine congrArg V.str ?_ | refine congrArg (V.int _) ?_ | refine congrArg V.bool ?_ | refine congrArg V.sl ?_); (first | with_reducible rfl | omega | exact congrArg (fun x : Nat => (x : Int)) ((or_val _ _ _ hk3).trans (congrArg (fun x : UInt8 => n + x.toNat % 64 * 64 ^ i) hq)) | rfl | (simp; done))) | (first | with_reducible rfl | omega | exact congrArg (fun x : Nat => (x : Int)) ((or_val _ _ _ hk3).trans (congrArg (fun x : UInt8 => n + x.toNat % 64 * 64 ^ i) hq)) | rfl | (simp; done)) | rfl)))))); (focus (exact ⟨by omega, hk2, next_lt hk3, hk4⟩)); (focus (first | omega | (dsimp only; omega) | (simp; done) | (simp; omega) | (simp at *; omega))))
      | ((conv => whnf); (try (first | rfl | (exfalso; simp_all; done) | (exfalso; simp at *; omega))); done))


theorem textF_some {s : Bs} {most : Int} {t rest : Bs} (h : textF s most = some (t, rest)) : ∃ n r, takeF s = some (n, r) ∧ (n : Int) ≤ most ∧ n ≤ r.length ∧ t = r.take n ∧ rest = r.drop n := by
  unfold textF at h
  split at h
  · cases h
  · rename_i n r hq
    split at h
    · cases h
    · split at h
      · cases h
      · obtain ⟨h1, h2⟩ := Prod.mk.inj (Option.some.inj h)
        exact ⟨n, r, hq, by omega, by omega, h1.symm, h2.symm⟩
theorem textF_none {s : Bs} {most : Int} (h : textF s most = none) : (takeF s = none ∧ textC s most = takeC s) ∨ (∃ n r, takeF s = some (n, r) ∧ most < n ∧ textC s most = 13) ∨ ∃ n r, takeF s = some (n, r) ∧ ¬ most < n ∧ r.length < n ∧ textC s most = 11 := by
  unfold textF at h
  unfold textC
  split at h
  · rename_i hq; exact .inl ⟨hq, by first | rfl | simp [hq]⟩
  · rename_i n r hq
    rw [hq]
    split at h
    · rename_i h1; exact .inr (.inl ⟨n, r, rfl, h1, by simp [h1]⟩)
    · rename_i h1
      split at h
      · rename_i h2; exact .inr (.inr ⟨n, r, rfl, h1, h2, by simp [h1]⟩)
      · cases h

set_option maxRecDepth 100000 in
set_option maxHeartbeats 400000 in
theorem text_some (s t rest : Bs) (most : Int) (h : textF s most = some (t, rest)) : Fn Tryz.prog 87 [.str s, .int .i64 most] (.tup [.str t, .str rest, noErr]) := by
  refine Fn.mk' base Tryz.func87 rfl rfl rfl ?_
  obtain ⟨n, r, h1, h2, h3, rfl, rfl⟩ := textF_some h
  repeat' ((conv => whnf); (first
   | (with_reducible first | refine AW.seq ?_ | refine AW.region base (by kernel_rfl) ?_ | refine AW.cond ?_ | refine AW.block ?_ | refine AW.ret ?_ | refine AW.exit ?_ | refine AW.skip ?_ | refine Br.t ?_ | refine Br.f ?_)
   | ((with_reducible refine Or.inl ?_); (conv => whnf); (with_reducible refine And.intro LitSl.mk ?_))
   | refine Br.t ?_
   | refine Br.f ?_
   | (with_reducible refine Br.mk (fun hb => ?_) (fun hb => (by exfalso; (first | (simp at hb; done) | omega | (simp at hb; omega) | fail))))
   | (with_reducible refine Br.mk (fun hb => (by exfalso; (first | (simp at hb; done) | omega | (simp at hb; omega) | fail))) (fun hb => ?_))
   | ((with_reducible refine Or.inl ?_); (conv => whnf); (first | (with_reducible first | refine ⟨_, take_some _ _ _ h1, ?_⟩ | refine ⟨_, new_fn _ _ (by decide), ?_⟩ | refine ⟨_, isE_nil _, ?_⟩) | refine ⟨_, isE_fn [[112, 97, 99, 107]] _ _, ?_⟩))
   | (with_reducible refine Br.mk (fun hb => ?_) (fun hb => ?_) <;> (try rw [hb]) <;> (try simp only [List.length_map, decide_eq_true_eq, decide_eq_false_iff_not, Bool.not_eq_true', Bool.not_eq_false', Int.ofNat_lt, Int.ofNat_le, Int.not_lt, Int.not_le, Int.toNat_natCast, List.length_append] at hb))
   | ((with_reducible first | refine Or.inl (And.intro ?_ ?_) | refine And.intro ?_ ?_); (focus (first | with_reducible rfl | exact trivial | (exact ⟨rfl, trivial⟩) | (exact ⟨rfl, rfl, trivial⟩) | omega | (intro r hr; simp only [List.mem_singleton] at hr; subst hr; rfl)  | ((simp only [List.length_append, maxLen] at *; omega)) | ((simp only [in64] at *; omega)) | (simp only [in64]; omega) | assumption | (simp; done) | (simp [V.cells]; done) | (simp [in64, maxLen, limK] at *; omega) | ((show confB _ _ = true); kernel_rfl) | rfl)))
   | (intro row hrow; (try simp only [Int.toNat_natCast, List.length_map, toNat_pred, toNat_succ', toNat_zero', toNat_one'] at hrow); (first | (have hsm := same_map (by assumption) hrow; subst hsm; clear hrow) | (obtain ⟨p, hp, rfl⟩ := of_map hrow; clear hrow)))))
  all_goals (conv => whnf)
  all_goals (first | rfl | (simp only [V.bool.injEq, V.tup.injEq, V.agg.injEq, V.str.injEq, V.int.injEq, V.sl.injEq, V.ifc.injEq, List.cons.injEq, and_true, true_and, and_self]; done) | (simp only [V.bool.injEq, V.tup.injEq, V.agg.injEq, V.str.injEq, V.int.injEq, V.sl.injEq, V.ifc.injEq, List.cons.injEq, and_true, true_and, and_self]; grind) | (simp  at *; done) | (simp  at *; grind) | (exact ret2 (by simp) (by simp)))

set_option maxRecDepth 100000 in
set_option maxHeartbeats 400000 in
theorem text_none1 (s : Bs) (most : Int) (h1 : takeF s = none) : Fn Tryz.prog 87 [.str s, .int .i64 most] (.tup [.str [], .str s, errV [[112, 97, 99, 107]] (takeC s)]) := by
  refine Fn.mk' base Tryz.func87 rfl rfl rfl ?_
  repeat' ((conv => whnf); (first
   | (with_reducible first | refine AW.seq ?_ | refine AW.region base (by kernel_rfl) ?_ | refine AW.cond ?_ | refine AW.block ?_ | refine AW.ret ?_ | refine AW.exit ?_ | refine AW.skip ?_ | refine Br.t ?_ | refine Br.f ?_)
   | ((with_reducible refine Or.inl ?_); (conv => whnf); (with_reducible refine And.intro LitSl.mk ?_))
   | refine Br.t ?_
   | refine Br.f ?_
   | (with_reducible refine Br.mk (fun hb => ?_) (fun hb => (by exfalso; (first | (simp at hb; done) | omega | (simp at hb; omega) | fail))))
   | (with_reducible refine Br.mk (fun hb => (by exfalso; (first | (simp at hb; done) | omega | (simp at hb; omega) | fail))) (fun hb => ?_))
   | ((with_reducible refine Or.inl ?_); (conv => whnf); (first | (with_reducible first | refine ⟨_, take_none _ h1, ?_⟩ | refine ⟨_, new_fn _ _ (by decide), ?_⟩ | refine ⟨_, isE_nil _, ?_⟩) | refine ⟨_, isE_fn [[112, 97, 99, 107]] _ _, ?_⟩))
   | (with_reducible refine Br.mk (fun hb => ?_) (fun hb => ?_) <;> (try rw [hb]) <;> (try simp only [List.length_map, decide_eq_true_eq, decide_eq_false_iff_not, Bool.not_eq_true', Bool.not_eq_false', Int.ofNat_lt, Int.ofNat_le, Int.not_lt, Int.not_le, Int.toNat_natCast, List.length_append] at hb))
   | ((with_reducible first | refine Or.inl (And.intro ?_ ?_) | refine And.intro ?_ ?_); (focus (first | with_reducible rfl | exact trivial | (exact ⟨rfl, trivial⟩) | (exact ⟨rfl, rfl, trivial⟩) | omega | (intro r hr; simp only [List.mem_singleton] at hr; subst hr; rfl)  | ((simp only [List.length_append, maxLen] at *; omega)) | ((simp only [in64] at *; omega)) | (simp only [in64]; omega) | assumption | (simp; done) | (simp [V.cells]; done) | (simp [in64, maxLen, limK] at *; omega) | ((show confB _ _ = true); kernel_rfl) | rfl)))
   | (intro row hrow; (try simp only [Int.toNat_natCast, List.length_map, toNat_pred, toNat_succ', toNat_zero', toNat_one'] at hrow); (first | (have hsm := same_map (by assumption) hrow; subst hsm; clear hrow) | (obtain ⟨p, hp, rfl⟩ := of_map hrow; clear hrow)))))
  all_goals (conv => whnf)
  all_goals (first | rfl | (simp only [V.bool.injEq, V.tup.injEq, V.agg.injEq, V.str.injEq, V.int.injEq, V.sl.injEq, V.ifc.injEq, List.cons.injEq, and_true, true_and, and_self]; done) | (simp only [V.bool.injEq, V.tup.injEq, V.agg.injEq, V.str.injEq, V.int.injEq, V.sl.injEq, V.ifc.injEq, List.cons.injEq, and_true, true_and, and_self]; grind) | (simp  at *; done) | (simp  at *; grind))

set_option maxRecDepth 100000 in
set_option maxHeartbeats 400000 in
theorem text_none2 (s : Bs) (most : Int) (n : Nat) (r : Bs) (h1 : takeF s = some (n, r)) (h2 : most < n) : Fn Tryz.prog 87 [.str s, .int .i64 most] (.tup [.str [], .str s, errV [[112, 97, 99, 107]] 13]) := by
  refine Fn.mk' base Tryz.func87 rfl rfl rfl ?_
  repeat' ((conv => whnf); (first
   | (with_reducible first | refine AW.seq ?_ | refine AW.region base (by kernel_rfl) ?_ | refine AW.cond ?_ | refine AW.block ?_ | refine AW.ret ?_ | refine AW.exit ?_ | refine AW.skip ?_ | refine Br.t ?_ | refine Br.f ?_)
   | ((with_reducible refine Or.inl ?_); (conv => whnf); (with_reducible refine And.intro LitSl.mk ?_))
   | refine Br.t ?_
   | refine Br.f ?_
   | (with_reducible refine Br.mk (fun hb => ?_) (fun hb => (by exfalso; (first | (simp at hb; done) | omega | (simp at hb; omega) | fail))))
   | (with_reducible refine Br.mk (fun hb => (by exfalso; (first | (simp at hb; done) | omega | (simp at hb; omega) | fail))) (fun hb => ?_))
   | ((with_reducible refine Or.inl ?_); (conv => whnf); (first | (with_reducible first | refine ⟨_, take_some _ _ _ h1, ?_⟩ | refine ⟨_, new_fn _ _ (by decide), ?_⟩ | refine ⟨_, isE_nil _, ?_⟩) | refine ⟨_, isE_fn [[112, 97, 99, 107]] _ _, ?_⟩))
   | (with_reducible refine Br.mk (fun hb => ?_) (fun hb => ?_) <;> (try rw [hb]) <;> (try simp only [List.length_map, decide_eq_true_eq, decide_eq_false_iff_not, Bool.not_eq_true', Bool.not_eq_false', Int.ofNat_lt, Int.ofNat_le, Int.not_lt, Int.not_le, Int.toNat_natCast, List.length_append] at hb))
   | ((with_reducible first | refine Or.inl (And.intro ?_ ?_) | refine And.intro ?_ ?_); (focus (first | with_reducible rfl | exact trivial | (exact ⟨rfl, trivial⟩) | (exact ⟨rfl, rfl, trivial⟩) | omega | (intro r hr; simp only [List.mem_singleton] at hr; subst hr; rfl)  | ((simp only [List.length_append, maxLen] at *; omega)) | ((simp only [in64] at *; omega)) | (simp only [in64]; omega) | assumption | (simp; done) | (simp [V.cells]; done) | (simp [in64, maxLen, limK] at *; omega) | ((show confB _ _ = true); kernel_rfl) | rfl)))
   | (intro row hrow; (try simp only [Int.toNat_natCast, List.length_map, toNat_pred, toNat_succ', toNat_zero', toNat_one'] at hrow); (first | (have hsm := same_map (by assumption) hrow; subst hsm; clear hrow) | (obtain ⟨p, hp, rfl⟩ := of_map hrow; clear hrow)))))
  all_goals (conv => whnf)
  all_goals (first | rfl | (simp only [V.bool.injEq, V.tup.injEq, V.agg.injEq, V.str.injEq, V.int.injEq, V.sl.injEq, V.ifc.injEq, List.cons.injEq, and_true, true_and, and_self]; done) | (simp only [V.bool.injEq, V.tup.injEq, V.agg.injEq, V.str.injEq, V.int.injEq, V.sl.injEq, V.ifc.injEq, List.cons.injEq, and_true, true_and, and_self]; grind) | (simp  at *; done) | (simp  at *; grind))

set_option maxRecDepth 100000 in
set_option maxHeartbeats 400000 in
theorem text_none3 (s : Bs) (most : Int) (n : Nat) (r : Bs) (h1 : takeF s = some (n, r)) (h2 : ¬ most < n) (h3 : r.length < n) : Fn Tryz.prog 87 [.str s, .int .i64 most] (.tup [.str [], .str s, errV [[112, 97, 99, 107]] 11]) := by
  refine Fn.mk' base Tryz.func87 rfl rfl rfl ?_
  repeat' ((conv => whnf); (first
   | (with_reducible first | refine AW.seq ?_ | refine AW.region base (by kernel_rfl) ?_ | refine AW.cond ?_ | refine AW.block ?_ | refine AW.ret ?_ | refine AW.exit ?_ | refine AW.skip ?_ | refine Br.t ?_ | refine Br.f ?_)
   | ((with_reducible refine Or.inl ?_); (conv => whnf); (with_reducible refine And.intro LitSl.mk ?_))
   | refine Br.t ?_
   | refine Br.f ?_
   | (with_reducible refine Br.mk (fun hb => ?_) (fun hb => (by exfalso; (first | (simp at hb; done) | omega | (simp at hb; omega) | fail))))
   | (with_reducible refine Br.mk (fun hb => (by exfalso; (first | (simp at hb; done) | omega | (simp at hb; omega) | fail))) (fun hb => ?_))
   | ((with_reducible refine Or.inl ?_); (conv => whnf); (first | (with_reducible first | refine ⟨_, take_some _ _ _ h1, ?_⟩ | refine ⟨_, new_fn _ _ (by decide), ?_⟩ | refine ⟨_, isE_nil _, ?_⟩) | refine ⟨_, isE_fn [[112, 97, 99, 107]] _ _, ?_⟩))
   | (with_reducible refine Br.mk (fun hb => ?_) (fun hb => ?_) <;> (try rw [hb]) <;> (try simp only [List.length_map, decide_eq_true_eq, decide_eq_false_iff_not, Bool.not_eq_true', Bool.not_eq_false', Int.ofNat_lt, Int.ofNat_le, Int.not_lt, Int.not_le, Int.toNat_natCast, List.length_append] at hb))
   | ((with_reducible first | refine Or.inl (And.intro ?_ ?_) | refine And.intro ?_ ?_); (focus (first | with_reducible rfl | exact trivial | (exact ⟨rfl, trivial⟩) | (exact ⟨rfl, rfl, trivial⟩) | omega | (intro r hr; simp only [List.mem_singleton] at hr; subst hr; rfl)  | ((simp only [List.length_append, maxLen] at *; omega)) | ((simp only [in64] at *; omega)) | (simp only [in64]; omega) | assumption | (simp; done) | (simp [V.cells]; done) | (simp [in64, maxLen, limK] at *; omega) | ((show confB _ _ = true); kernel_rfl) | rfl)))
   | (intro row hrow; (try simp only [Int.toNat_natCast, List.length_map, toNat_pred, toNat_succ', toNat_zero', toNat_one'] at hrow); (first | (have hsm := same_map (by assumption) hrow; subst hsm; clear hrow) | (obtain ⟨p, hp, rfl⟩ := of_map hrow; clear hrow)))))
  all_goals (conv => whnf)
  all_goals (first | rfl | (simp only [V.bool.injEq, V.tup.injEq, V.agg.injEq, V.str.injEq, V.int.injEq, V.sl.injEq, V.ifc.injEq, List.cons.injEq, and_true, true_and, and_self]; done) | (simp only [V.bool.injEq, V.tup.injEq, V.agg.injEq, V.str.injEq, V.int.injEq, V.sl.injEq, V.ifc.injEq, List.cons.injEq, and_true, true_and, and_self]; grind) | (simp  at *; done) | (simp  at *; grind))

theorem text_none (s : Bs) (most : Int) (h : textF s most = none) : Fn Tryz.prog 87 [.str s, .int .i64 most] (.tup [.str [], .str s, errV [[112, 97, 99, 107]] (textC s most)]) := by
  rcases textF_none h with ⟨h1, h2⟩ | ⟨n, r, h1, h2, h3⟩ | ⟨n, r, h1, h2, h3, h4⟩
  · rw [h2]; exact text_none1 s most h1
  · rw [h3]; exact text_none2 s most n r h1 h2
  · rw [h4]; exact text_none3 s most n r h1 h2 h3

set_option maxRecDepth 100000 in
set_option maxHeartbeats 400000 in
theorem flag_some (b : UInt8) (r : Bs) (h : ¬ 1 < b.toNat) : Fn Tryz.prog 127 [.str (b :: r)] (.tup [.bool (decide (b.toNat = 1)), .str r, noErr]) := by
  refine Fn.mk' base Tryz.func127 rfl rfl rfl ?_
  repeat' ((conv => whnf); (first
   | (with_reducible first | refine AW.seq ?_ | refine AW.region base (by kernel_rfl) ?_ | refine AW.cond ?_ | refine AW.block ?_ | refine AW.ret ?_ | refine AW.exit ?_ | refine AW.skip ?_ | refine Br.t ?_ | refine Br.f ?_)
   | ((with_reducible refine Or.inl ?_); (conv => whnf); (with_reducible refine And.intro LitSl.mk ?_))
   | refine Br.t ?_
   | refine Br.f ?_
   | (with_reducible refine Br.mk (fun hb => ?_) (fun hb => (by exfalso; (first | (simp at hb; done) | (simp at hb; omega) | fail))))
   | (with_reducible refine Br.mk (fun hb => (by exfalso; (first | (simp at hb; done) | (simp at hb; omega) | fail))) (fun hb => ?_))
   | ((with_reducible refine Or.inl ?_); (conv => whnf); (first | (with_reducible first | refine ⟨_, new_fn _ _ (by decide), ?_⟩)))
   | (with_reducible refine Br.mk (fun hb => ?_) (fun hb => ?_) <;> (try rw [hb]) <;> (try simp only [List.length_map, decide_eq_true_eq, decide_eq_false_iff_not, Bool.not_eq_true', Bool.not_eq_false', Int.ofNat_lt, Int.ofNat_le, Int.not_lt, Int.not_le, Int.toNat_natCast, List.length_append] at hb))
   | ((with_reducible first | refine Or.inl (And.intro ?_ ?_) | refine And.intro ?_ ?_); (focus (first | with_reducible rfl | exact trivial | (exact ⟨rfl, trivial⟩) | (exact ⟨rfl, rfl, trivial⟩) | omega | (intro r hr; simp only [List.mem_singleton] at hr; subst hr; rfl)  | ((simp only [List.length_append, maxLen] at *; omega)) | ((simp only [in64] at *; omega)) | (simp only [in64]; omega) | assumption | (simp; done) | (simp [V.cells]; done) | (simp [in64, maxLen, limK] at *; omega) | ((show confB _ _ = true); kernel_rfl) | rfl)))
   | (intro row hrow; (try simp only [Int.toNat_natCast, List.length_map, toNat_pred, toNat_succ', toNat_zero', toNat_one'] at hrow); (first | (have hsm := same_map (by assumption) hrow; subst hsm; clear hrow) | (obtain ⟨p, hp, rfl⟩ := of_map hrow; clear hrow)))))
  all_goals (conv => whnf)
  all_goals (first | rfl | (simp only [V.bool.injEq, V.tup.injEq, V.agg.injEq, V.str.injEq, V.int.injEq, V.sl.injEq, V.ifc.injEq, List.cons.injEq, and_true, true_and, and_self]; done) | (simp only [V.bool.injEq, V.tup.injEq, V.agg.injEq, V.str.injEq, V.int.injEq, V.sl.injEq, V.ifc.injEq, List.cons.injEq, and_true, true_and, and_self]; grind) | (simp  at *; done) | (simp  at *; grind) | (simp; omega))

set_option maxRecDepth 100000 in
set_option maxHeartbeats 400000 in
theorem flag_none (b : UInt8) (r : Bs) (h : 1 < b.toNat) : Fn Tryz.prog 127 [.str (b :: r)] (.tup [.bool false, .str (b :: r), errV [[112, 97, 99, 107]] 10]) := by
  refine Fn.mk' base Tryz.func127 rfl rfl rfl ?_
  repeat' ((conv => whnf); (first
   | (with_reducible first | refine AW.seq ?_ | refine AW.region base (by kernel_rfl) ?_ | refine AW.cond ?_ | refine AW.block ?_ | refine AW.ret ?_ | refine AW.exit ?_ | refine AW.skip ?_ | refine Br.t ?_ | refine Br.f ?_)
   | ((with_reducible refine Or.inl ?_); (conv => whnf); (with_reducible refine And.intro LitSl.mk ?_))
   | refine Br.t ?_
   | refine Br.f ?_
   | (with_reducible refine Br.mk (fun hb => ?_) (fun hb => (by exfalso; (first | (simp at hb; done) | (simp at hb; omega) | fail))))
   | (with_reducible refine Br.mk (fun hb => (by exfalso; (first | (simp at hb; done) | (simp at hb; omega) | fail))) (fun hb => ?_))
   | ((with_reducible refine Or.inl ?_); (conv => whnf); (first | (with_reducible first | refine ⟨_, new_fn _ _ (by decide), ?_⟩)))
   | (with_reducible refine Br.mk (fun hb => ?_) (fun hb => ?_) <;> (try rw [hb]) <;> (try simp only [List.length_map, decide_eq_true_eq, decide_eq_false_iff_not, Bool.not_eq_true', Bool.not_eq_false', Int.ofNat_lt, Int.ofNat_le, Int.not_lt, Int.not_le, Int.toNat_natCast, List.length_append] at hb))
   | ((with_reducible first | refine Or.inl (And.intro ?_ ?_) | refine And.intro ?_ ?_); (focus (first | with_reducible rfl | exact trivial | (exact ⟨rfl, trivial⟩) | (exact ⟨rfl, rfl, trivial⟩) | omega | (intro r hr; simp only [List.mem_singleton] at hr; subst hr; rfl)  | ((simp only [List.length_append, maxLen] at *; omega)) | ((simp only [in64] at *; omega)) | (simp only [in64]; omega) | assumption | (simp; done) | (simp [V.cells]; done) | (simp [in64, maxLen, limK] at *; omega) | ((show confB _ _ = true); kernel_rfl) | rfl)))
   | (intro row hrow; (try simp only [Int.toNat_natCast, List.length_map, toNat_pred, toNat_succ', toNat_zero', toNat_one'] at hrow); (first | (have hsm := same_map (by assumption) hrow; subst hsm; clear hrow) | (obtain ⟨p, hp, rfl⟩ := of_map hrow; clear hrow)))))
  all_goals (conv => whnf)
  all_goals (first | rfl | (simp only [V.bool.injEq, V.tup.injEq, V.agg.injEq, V.str.injEq, V.int.injEq, V.sl.injEq, V.ifc.injEq, List.cons.injEq, and_true, true_and, and_self]; done) | (simp only [V.bool.injEq, V.tup.injEq, V.agg.injEq, V.str.injEq, V.int.injEq, V.sl.injEq, V.ifc.injEq, List.cons.injEq, and_true, true_and, and_self]; grind) | (simp  at *; done) | (simp  at *; grind))

set_option maxRecDepth 100000 in
set_option maxHeartbeats 400000 in
theorem flag_nil  : Fn Tryz.prog 127 [.str []] (.tup [.bool false, .str [], errV [[112, 97, 99, 107]] 11]) := by
  refine Fn.mk' base Tryz.func127 rfl rfl rfl ?_
  repeat' ((conv => whnf); (first
   | (with_reducible first | refine AW.seq ?_ | refine AW.region base (by kernel_rfl) ?_ | refine AW.cond ?_ | refine AW.block ?_ | refine AW.ret ?_ | refine AW.exit ?_ | refine AW.skip ?_ | refine Br.t ?_ | refine Br.f ?_)
   | ((with_reducible refine Or.inl ?_); (conv => whnf); (with_reducible refine And.intro LitSl.mk ?_))
   | refine Br.t ?_
   | refine Br.f ?_
   | (with_reducible refine Br.mk (fun hb => ?_) (fun hb => (by exfalso; (first | (simp at hb; done) | (simp at hb; omega) | fail))))
   | (with_reducible refine Br.mk (fun hb => (by exfalso; (first | (simp at hb; done) | (simp at hb; omega) | fail))) (fun hb => ?_))
   | ((with_reducible refine Or.inl ?_); (conv => whnf); (first | (with_reducible first | refine ⟨_, new_fn _ _ (by decide), ?_⟩)))
   | (with_reducible refine Br.mk (fun hb => ?_) (fun hb => ?_) <;> (try rw [hb]) <;> (try simp only [List.length_map, decide_eq_true_eq, decide_eq_false_iff_not, Bool.not_eq_true', Bool.not_eq_false', Int.ofNat_lt, Int.ofNat_le, Int.not_lt, Int.not_le, Int.toNat_natCast, List.length_append] at hb))
   | ((with_reducible first | refine Or.inl (And.intro ?_ ?_) | refine And.intro ?_ ?_); (focus (first | with_reducible rfl | exact trivial | (exact ⟨rfl, trivial⟩) | (exact ⟨rfl, rfl, trivial⟩) | omega | (intro r hr; simp only [List.mem_singleton] at hr; subst hr; rfl)  | ((simp only [List.length_append, maxLen] at *; omega)) | ((simp only [in64] at *; omega)) | (simp only [in64]; omega) | assumption | (simp; done) | (simp [V.cells]; done) | (simp [in64, maxLen, limK] at *; omega) | ((show confB _ _ = true); kernel_rfl) | rfl)))
   | (intro row hrow; (try simp only [Int.toNat_natCast, List.length_map, toNat_pred, toNat_succ', toNat_zero', toNat_one'] at hrow); (first | (have hsm := same_map (by assumption) hrow; subst hsm; clear hrow) | (obtain ⟨p, hp, rfl⟩ := of_map hrow; clear hrow)))))
  all_goals (conv => whnf)
  all_goals (first | rfl | (simp only [V.bool.injEq, V.tup.injEq, V.agg.injEq, V.str.injEq, V.int.injEq, V.sl.injEq, V.ifc.injEq, List.cons.injEq, and_true, true_and, and_self]; done) | (simp only [V.bool.injEq, V.tup.injEq, V.agg.injEq, V.str.injEq, V.int.injEq, V.sl.injEq, V.ifc.injEq, List.cons.injEq, and_true, true_and, and_self]; grind) | (simp  at *; done) | (simp  at *; grind))

set_option maxRecDepth 100000 in
set_option maxHeartbeats 400000 in
theorem flagB_fn (b : Bool) : Fn Tryz.prog 38 [.bool b] (.str (if b then [1] else [0])) := by
  refine Fn.mk' base Tryz.func38 rfl rfl rfl ?_
  cases b
  · skip
    repeat' ((conv => whnf); (first
     | (with_reducible first | refine AW.seq ?_ | refine AW.region base (by kernel_rfl) ?_ | refine AW.cond ?_ | refine AW.block ?_ | refine AW.ret ?_ | refine AW.exit ?_ | refine AW.skip ?_ | refine Br.t ?_ | refine Br.f ?_)
     | ((with_reducible refine Or.inl ?_); (conv => whnf); (with_reducible refine And.intro LitSl.mk ?_))
     | refine Br.t ?_
     | refine Br.f ?_
     | (with_reducible refine Br.mk (fun hb => ?_) (fun hb => ?_) <;> (try rw [hb]) <;> (try simp only [List.length_map, decide_eq_true_eq, decide_eq_false_iff_not, Bool.not_eq_true', Bool.not_eq_false', Int.ofNat_lt, Int.ofNat_le, Int.not_lt, Int.not_le, Int.toNat_natCast] at hb))
     | ((with_reducible first | refine Or.inl (And.intro ?_ ?_) | refine And.intro ?_ ?_); (focus (first | with_reducible rfl | exact trivial | (exact ⟨rfl, trivial⟩) | (exact ⟨rfl, rfl, trivial⟩) | omega | (intro r hr; simp only [List.mem_singleton] at hr; subst hr; rfl)  | (simp only [in64]; omega) | assumption | (simp; done) | (simp [V.cells]; done) | (simp [in64, maxLen, limK] at *; omega) | ((show confB _ _ = true); kernel_rfl) | rfl)))
     | (intro row hrow; (try simp only [Int.toNat_natCast, List.length_map, toNat_pred, toNat_succ', toNat_zero', toNat_one'] at hrow); (first | (have hsm := same_map (by assumption) hrow; subst hsm; clear hrow) | (obtain ⟨p, hp, rfl⟩ := of_map hrow; clear hrow)))))
    all_goals (conv => whnf)
    all_goals (first | rfl | (simp only [V.bool.injEq, V.tup.injEq, V.agg.injEq, V.str.injEq, V.int.injEq, V.sl.injEq, V.ifc.injEq, List.cons.injEq, and_true, true_and, and_self]; done) | (simp only [V.bool.injEq, V.tup.injEq, V.agg.injEq, V.str.injEq, V.int.injEq, V.sl.injEq, V.ifc.injEq, List.cons.injEq, and_true, true_and, and_self]; grind) | (simp  at *; done) | (simp  at *; grind))
  · skip
    repeat' ((conv => whnf); (first
     | (with_reducible first | refine AW.seq ?_ | refine AW.region base (by kernel_rfl) ?_ | refine AW.cond ?_ | refine AW.block ?_ | refine AW.ret ?_ | refine AW.exit ?_ | refine AW.skip ?_ | refine Br.t ?_ | refine Br.f ?_)
     | ((with_reducible refine Or.inl ?_); (conv => whnf); (with_reducible refine And.intro LitSl.mk ?_))
     | refine Br.t ?_
     | refine Br.f ?_
     | (with_reducible refine Br.mk (fun hb => ?_) (fun hb => ?_) <;> (try rw [hb]) <;> (try simp only [List.length_map, decide_eq_true_eq, decide_eq_false_iff_not, Bool.not_eq_true', Bool.not_eq_false', Int.ofNat_lt, Int.ofNat_le, Int.not_lt, Int.not_le, Int.toNat_natCast] at hb))
     | ((with_reducible first | refine Or.inl (And.intro ?_ ?_) | refine And.intro ?_ ?_); (focus (first | with_reducible rfl | exact trivial | (exact ⟨rfl, trivial⟩) | (exact ⟨rfl, rfl, trivial⟩) | omega | (intro r hr; simp only [List.mem_singleton] at hr; subst hr; rfl)  | (simp only [in64]; omega) | assumption | (simp; done) | (simp [V.cells]; done) | (simp [in64, maxLen, limK] at *; omega) | ((show confB _ _ = true); kernel_rfl) | rfl)))
     | (intro row hrow; (try simp only [Int.toNat_natCast, List.length_map, toNat_pred, toNat_succ', toNat_zero', toNat_one'] at hrow); (first | (have hsm := same_map (by assumption) hrow; subst hsm; clear hrow) | (obtain ⟨p, hp, rfl⟩ := of_map hrow; clear hrow)))))
    all_goals (conv => whnf)
    all_goals (first | rfl | (simp only [V.bool.injEq, V.tup.injEq, V.agg.injEq, V.str.injEq, V.int.injEq, V.sl.injEq, V.ifc.injEq, List.cons.injEq, and_true, true_and, and_self]; done) | (simp only [V.bool.injEq, V.tup.injEq, V.agg.injEq, V.str.injEq, V.int.injEq, V.sl.injEq, V.ifc.injEq, List.cons.injEq, and_true, true_and, and_self]; grind) | (simp  at *; done) | (simp  at *; grind))
end Go.Proofs.YtnblecdpkbempaaGreatDoor
