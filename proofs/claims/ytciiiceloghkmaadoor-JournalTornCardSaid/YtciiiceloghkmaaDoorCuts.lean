/-
  Frames one behind the other, cut off anywhere: which are whole. No conditions.
-/
import Derived.Test.YtciiiceloghkmaaDoorLaw5k
namespace Go.Proofs.YtciiiceloghkmaaDoor
open Go.RowKit
set_option linter.unusedSimpArgs false
set_option linter.unusedVariables false
/-- where frame number j ends -/
def endOf (l : List Bs) (j : Nat) : Nat := (wraps (l.take (j + 1))).length
def endsOf (l : List Bs) (n : Nat) : List Nat := (List.range n).map (endOf l)
abbrev encN (n : Nat) : List V := [.int .i64 (n : Int)]
theorem ends_len (l : List Bs) (n : Nat) : (endsOf l n).length = n := by simp [endsOf]
theorem ends_get {l : List Bs} {n j p : Nat} (h : (endsOf l n)[j]? = some p) : p = endOf l j := by
  rw [endsOf, List.getElem?_map] at h
  rcases hq : (List.range n)[j]? with _ | q
  · rw [hq] at h; cases h
  · rw [hq] at h
    have := (List.getElem?_eq_some_iff.1 hq).2
    simp at this
    subst this
    exact (Option.some.inj h).symm
theorem ends_succ (l : List Bs) (n : Nat) : endsOf l (n + 1) = endsOf l n ++ [endOf l n] := by simp [endsOf, List.range_succ]
theorem endOf_zero (t : Bs) (l : List Bs) : endOf (t :: l) 0 = (wrap t).length := by simp [endOf, wraps]
theorem endOf_succ (t : Bs) (l : List Bs) (j : Nat) : endOf (t :: l) (j + 1) = (wrap t).length + endOf l j := by simp [endOf, wraps]
theorem wraps_take {l : List Bs} {i : Nat} {t : Bs} (h : l[i]? = some t) : wraps (l.take (i + 1)) = wraps (l.take i) ++ wrap t := by
  rw [List.take_add_one, h, wraps_app]; simp [wraps]
theorem cut_split : ∀ (l : List Bs), (∀ t ∈ l, t.length ≤ 200000) → ∀ c, c ≤ (wraps l).length → ∃ K x, K ≤ l.length ∧ Bad x ∧ (wraps l).take c = wraps (l.take K) ++ x ∧ (∀ j, j < K → endOf l j ≤ c) ∧ (K < l.length → c < endOf l K)
  | [], _, c, _ => ⟨0, [], Nat.le_refl _, bad_short (by decide), by simp [wraps], fun j h => absurd h (by omega), fun h => absurd h (by simp)⟩
  | t :: l, hl, c, hc => by
    rw [wraps_cons] at hc ⊢
    rcases Nat.lt_or_ge c (wrap t).length with h | h
    · refine ⟨0, (wrap t).take c, by omega, bad_cut (hl t (by simp)) h, ?_, fun j h => absurd h (by omega), fun _ => by rw [endOf_zero]; exact h⟩
      rw [List.take_append_of_le_length (by omega)]; simp [wraps]
    · obtain ⟨K, x, h1, h2, h3, h4, h5⟩ := cut_split l (fun t ht => hl t (by simp [ht])) (c - (wrap t).length) (by rw [List.length_append] at hc; omega)
      refine ⟨K + 1, x, by simp; omega, h2, ?_, fun j hj => ?_, fun hK => ?_⟩
      · rw [List.take_append, List.take_of_length_le h, h3, List.take_succ_cons, wraps_cons, List.append_assoc]
      · cases j with
        | zero => rw [endOf_zero]; exact h
        | succ j => rw [endOf_succ]; have := h4 j (by omega); omega
      · rw [endOf_succ]; have := h5 (by simpa using hK); omega
theorem frame_len (t : Bs) (h : t.length ≤ 200000) : (wrap t).length ≤ 12 + t.length ∧ 5 ≤ (wrap t).length := by
  rw [wrap_len]; have := text_len8 t (by omega); have := text_pos t; omega
end Go.Proofs.YtciiiceloghkmaaDoor
