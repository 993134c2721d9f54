/-
  Walks of package token for letters: whether what was seen is in order. No conditions.
-/
import Derived.Test.YtnblecdpkbempaaGreatDoorLetA
namespace Go.Proofs.YtnblecdpkbempaaGreatDoor
open Go.RowKit
set_option linter.unusedSimpArgs false
set_option linter.unusedVariables false

def snB (s : Sn) : Bool := isKeyB s.k && !decide (s.n < 0) && !decide (1000000000000 < s.n)
def snsB : Option Bs → List Sn → Bool
  | _, [] => true
  | p, w :: r => snB w && belowW p w.k && snsB (some w.k) r
def prevS (c : List Sn) (i : Nat) : Option Bs := if i = 0 then none else (c[i - 1]?).map (·.k)
theorem sns_step {c : List Sn} {i : Nat} {p : Sn} (hp : c[i]? = some p) : ∃ st : Bool, snsB (prevS c i) (c.drop i) = (snB p && st && snsB (prevS c (i + 1)) (c.drop (i + 1))) ∧ ((i = 0 ∧ st = true) ∨ ∃ q, 0 < i ∧ c[i - 1]? = some q ∧ st = blt q.k p.k) := by
  have hi := (List.getElem?_eq_some_iff.1 hp).1
  rcases (by omega : i = 0 ∨ 0 < i) with h0 | h0
  · subst h0; exact ⟨true, by rw [drop_get hp, snsB]; simp [prevS, hp, belowW], .inl ⟨rfl, rfl⟩⟩
  · obtain ⟨q, hq⟩ : ∃ q, c[i - 1]? = some q := ⟨_, List.getElem?_eq_getElem (by omega)⟩
    exact ⟨blt q.k p.k, by rw [drop_get hp, snsB]; simp [prevS, hp, hq, belowW, show ¬ i = 0 by omega], .inr ⟨q, h0, hq, rfl⟩⟩
theorem sns_end (c : List Sn) : snsB (prevS c c.length) (c.drop c.length) = true := by rw [List.drop_length]; rfl
theorem sn_cases (p : Sn) (st : Bool) : (isKeyB p.k = false ∧ (snB p && st) = false) ∨ (isKeyB p.k = true ∧ p.n < 0 ∧ (snB p && st) = false) ∨ (isKeyB p.k = true ∧ 0 ≤ p.n ∧ 1000000000000 < p.n ∧ (snB p && st) = false) ∨ (isKeyB p.k = true ∧ 0 ≤ p.n ∧ p.n ≤ 1000000000000 ∧ st = false ∧ (snB p && st) = false) ∨ (isKeyB p.k = true ∧ 0 ≤ p.n ∧ p.n ≤ 1000000000000 ∧ st = true ∧ (snB p && st) = true) := by
  unfold snB
  cases h1 : isKeyB p.k
  · exact .inl ⟨rfl, rfl⟩
  · rcases Int.lt_or_le p.n 0 with h2 | h2
    · exact .inr (.inl ⟨rfl, h2, by simp [h2]⟩)
    · rcases Int.lt_or_le 1000000000000 p.n with h3 | h3
      · exact .inr (.inr (.inl ⟨rfl, h2, h3, by simp [h3]⟩))
      · cases st
        · exact .inr (.inr (.inr (.inl ⟨rfl, h2, h3, rfl, by simp⟩)))
        · refine .inr (.inr (.inr (.inr ⟨rfl, h2, h3, rfl, ?_⟩)))
          rw [decide_eq_false (by omega), decide_eq_false (by omega)]; rfl

set_option maxRecDepth 100000 in
set_option maxHeartbeats 1000000 in
theorem tokenIs_fn (c : List Sn) : Fn Tryz.prog 55 [.sl (c.map encN)] (.bool (snsB none c)) := by
  refine Fn.mk' base Tryz.func55 rfl rfl rfl ?_
  refine AW.len 0 rfl (fun hlen => ?_)
  simp only [List.length_map, maxLen] at hlen
  repeat' ((conv => whnf); (first
   | (with_reducible first | refine AW.seq ?_ | refine AW.region base (by kernel_rfl) ?_ | refine AW.cond ?_ | refine AW.block ?_ | refine AW.ret ?_ | refine AW.exit ?_ | refine AW.skip ?_ | refine Br.t ?_ | refine Br.f ?_)
   | (with_reducible refine Br.mkT (fun hb => (by (first | (simp at hb; done) | omega | (simp only [List.length_map, decide_eq_true_eq, decide_eq_false_iff_not] at hb; omega) | (simp at hb; omega) | fail))) (fun hb => ?_))
   | (with_reducible refine Br.mkF (fun hb => (by (first | (simp at hb; done) | omega | (simp only [List.length_map, decide_eq_true_eq, decide_eq_false_iff_not] at hb; omega) | (simp at hb; omega) | fail))) (fun hb => ?_))
   | ((with_reducible refine Or.inl ?_); (conv => whnf); (with_reducible refine And.intro LitSl.mk ?_))
   | refine Br.t ?_
   | refine Br.f ?_
   | ((with_reducible refine Or.inl ?_); (conv => whnf); (first | (with_reducible first | refine ⟨_, isKey_fn _, ?_⟩)))
   | (with_reducible refine Br.mk (fun hb => ?_) (fun hb => ?_) <;> (try rw [hb]) <;> (try simp only [List.length_map, decide_eq_true_eq, decide_eq_false_iff_not, Bool.not_eq_true', Bool.not_eq_false', Int.ofNat_lt, Int.ofNat_le, Int.not_lt, Int.not_le, Int.toNat_natCast] at hb))
   | ((with_reducible first | refine Or.inl (And.intro ?_ ?_) | refine And.intro ?_ ?_); (focus (first | with_reducible rfl | exact trivial | (exact ⟨rfl, trivial⟩) | (exact ⟨rfl, rfl, trivial⟩) | omega | (intro r hr; simp only [List.mem_singleton] at hr; subst hr; rfl)  | ((simp only [List.length_map] at *; omega)) | ((simp only [in64, maxLen] at *; omega)) | (simp only [in64]; omega) | assumption | (simp; done) | (simp [V.cells]; done) | (simp [in64, maxLen, limK] at *; omega) | ((show confB _ _ = true); kernel_rfl) | rfl)))
   | (intro row hrow; (try simp only [Int.toNat_natCast, List.length_map, toNat_pred, toNat_succ', toNat_zero', toNat_one'] at hrow); (first | (have hsm := same_map (by assumption) hrow; subst hsm; clear hrow) | (obtain ⟨p, hp, rfl⟩ := of_map hrow; clear hrow)))))
  refine AW.loop (fun (i : Nat) => i ≤ c.length ∧ snsB none c = snsB (prevS c i) (c.drop i)) (fun (i : Nat) => ⟨[(0, .sl (c.map encN)), (5, .sl (c.map encN)), (6, .int .i64 ((c.map encN).length : Int)), (7, .int .i64 (i : Int))], []⟩) (fun i => c.length - i) 0 ?_ ?_ ?_
  · exact ⟨Nat.zero_le _, rfl⟩
  · (refine ⟨⟨[], ?_⟩⟩; repeat' (first | (with_reducible rfl) | exact trivial | ((conv => whnf); (first | (with_reducible refine And.intro ?_ ?_) | (first | with_reducible rfl | ((first | refine congrArg V.str ?_ | refine congrArg (V.int _) ?_ | refine congrArg V.bool ?_ | refine congrArg V.sl ?_); (first | with_reducible rfl | omega | rfl | (simp; done))) | (first | with_reducible rfl | omega | rfl | (simp; done)) | rfl)))))
  · rintro i hk
    obtain ⟨hk1, hk2⟩ := hk
    rcases (by omega : i = c.length ∨ i < c.length) with hi | hi
    · subst hi
      repeat' ((conv => whnf); (first
       | (with_reducible first | refine AW.seq ?_ | refine AW.region base (by kernel_rfl) ?_ | refine AW.cond ?_ | refine AW.block ?_ | refine AW.ret ?_ | refine AW.exit ?_ | refine AW.skip ?_ | refine Br.t ?_ | refine Br.f ?_)
       | (with_reducible refine Br.mkT (fun hb => (by (first | (simp at hb; done) | omega | (simp only [List.length_map, decide_eq_true_eq, decide_eq_false_iff_not] at hb; omega) | (simp at hb; omega) | fail))) (fun hb => ?_))
       | (with_reducible refine Br.mkF (fun hb => (by (first | (simp at hb; done) | omega | (simp only [List.length_map, decide_eq_true_eq, decide_eq_false_iff_not] at hb; omega) | (simp at hb; omega) | fail))) (fun hb => ?_))
       | ((with_reducible refine Or.inl ?_); (conv => whnf); (with_reducible refine And.intro LitSl.mk ?_))
       | refine Br.t ?_
       | refine Br.f ?_
       | ((with_reducible refine Or.inl ?_); (conv => whnf); (first | (with_reducible first | refine ⟨_, isKey_fn _, ?_⟩)))
       | (with_reducible refine Br.mk (fun hb => ?_) (fun hb => ?_) <;> (try rw [hb]) <;> (try simp only [List.length_map, decide_eq_true_eq, decide_eq_false_iff_not, Bool.not_eq_true', Bool.not_eq_false', Int.ofNat_lt, Int.ofNat_le, Int.not_lt, Int.not_le, Int.toNat_natCast] at hb))
       | ((with_reducible first | refine Or.inl (And.intro ?_ ?_) | refine And.intro ?_ ?_); (focus (first | with_reducible rfl | exact trivial | (exact ⟨rfl, trivial⟩) | (exact ⟨rfl, rfl, trivial⟩) | omega | (intro r hr; simp only [List.mem_singleton] at hr; subst hr; rfl)  | ((simp only [List.length_map] at *; omega)) | ((simp only [in64, maxLen] at *; omega)) | (simp only [in64]; omega) | assumption | (simp; done) | (simp [V.cells]; done) | (simp [in64, maxLen, limK] at *; omega) | ((show confB _ _ = true); kernel_rfl) | rfl)))
       | (intro row hrow; (try simp only [Int.toNat_natCast, List.length_map, toNat_pred, toNat_succ', toNat_zero', toNat_one'] at hrow); (first | (have hsm := same_map (by assumption) hrow; subst hsm; clear hrow) | (obtain ⟨p, hp, rfl⟩ := of_map hrow; clear hrow)))))
      all_goals ((conv => whnf); (refine congrArg V.bool ?_; rw [hk2, sns_end]))
    obtain ⟨p, hp⟩ : ∃ p, c[i]? = some p := ⟨_, List.getElem?_eq_getElem hi⟩
    obtain ⟨st, hst1, hst2⟩ := sns_step hp
    rw [hst1] at hk2
    have hc5 := sn_cases p st
    rcases hst2 with ⟨h0, hs0⟩ | ⟨q, h0, hq, hs0⟩
    · clear hst1
      rw [hs0] at hc5 hk2
      clear hs0
      rcases hc5 with ⟨hkb, hw⟩ | ⟨hkb, hn1, hw⟩ | ⟨hkb, hn1, hn2, hw⟩ | ⟨hkb, hn1, hn2, hst, hw⟩ | ⟨hkb, hn1, hn2, hst, hw⟩
      · skip
        have hst : True := trivial
        repeat' ((conv => whnf); (first
         | (with_reducible first | refine AW.seq ?_ | refine AW.region base (by kernel_rfl) ?_ | refine AW.cond ?_ | refine AW.block ?_ | refine AW.ret ?_ | refine AW.exit ?_ | refine AW.skip ?_ | refine Br.t ?_ | refine Br.f ?_)
         | (with_reducible refine Br.mkT (fun hb => (by (first | (rw [hkb] at hb; simp at hb; done) | (rw [hst] at hb; simp at hb; done) | (simp at hb; done) | omega | (simp only [List.length_map, decide_eq_true_eq, decide_eq_false_iff_not] at hb; omega) | (simp at hb; omega) | fail))) (fun hb => ?_))
         | (with_reducible refine Br.mkF (fun hb => (by (first | (rw [hkb] at hb; simp at hb; done) | (rw [hst] at hb; simp at hb; done) | (simp at hb; done) | omega | (simp only [List.length_map, decide_eq_true_eq, decide_eq_false_iff_not] at hb; omega) | (simp at hb; omega) | fail))) (fun hb => ?_))
         | ((with_reducible refine Or.inl ?_); (conv => whnf); (with_reducible refine And.intro LitSl.mk ?_))
         | refine Br.t ?_
         | refine Br.f ?_
         | ((with_reducible refine Or.inl ?_); (conv => whnf); (first | (with_reducible first | refine ⟨_, isKey_fn _, ?_⟩)))
         | (with_reducible refine Br.mk (fun hb => ?_) (fun hb => ?_) <;> (try rw [hb]) <;> (try simp only [List.length_map, decide_eq_true_eq, decide_eq_false_iff_not, Bool.not_eq_true', Bool.not_eq_false', Int.ofNat_lt, Int.ofNat_le, Int.not_lt, Int.not_le, Int.toNat_natCast] at hb))
         | ((with_reducible first | refine Or.inl (And.intro ?_ ?_) | refine And.intro ?_ ?_); (focus (first | with_reducible rfl | exact trivial | (exact ⟨rfl, trivial⟩) | (exact ⟨rfl, rfl, trivial⟩) | omega | (intro r hr; simp only [List.mem_singleton] at hr; subst hr; rfl)  | ((simp only [List.length_map] at *; omega)) | ((simp only [in64, maxLen] at *; omega)) | (simp only [in64]; omega) | assumption | (simp; done) | (simp [V.cells]; done) | (simp [in64, maxLen, limK] at *; omega) | ((show confB _ _ = true); kernel_rfl) | rfl)))
         | (intro row hrow; (try simp only [Int.toNat_natCast, List.length_map, toNat_pred, toNat_succ', toNat_zero', toNat_one'] at hrow); (first | (have hsm := same_map (by assumption) hrow; subst hsm; clear hrow) | (obtain ⟨p, hp, rfl⟩ := of_map hrow; clear hrow)))))
        all_goals ((conv => whnf); (refine congrArg V.bool ?_); rw [hk2, hw]; rfl)
      · skip
        have hst : True := trivial
        repeat' ((conv => whnf); (first
         | (with_reducible first | refine AW.seq ?_ | refine AW.region base (by kernel_rfl) ?_ | refine AW.cond ?_ | refine AW.block ?_ | refine AW.ret ?_ | refine AW.exit ?_ | refine AW.skip ?_ | refine Br.t ?_ | refine Br.f ?_)
         | (with_reducible refine Br.mkT (fun hb => (by (first | (rw [hkb] at hb; simp at hb; done) | (rw [hst] at hb; simp at hb; done) | (simp at hb; done) | omega | (simp only [List.length_map, decide_eq_true_eq, decide_eq_false_iff_not] at hb; omega) | (simp at hb; omega) | fail))) (fun hb => ?_))
         | (with_reducible refine Br.mkF (fun hb => (by (first | (rw [hkb] at hb; simp at hb; done) | (rw [hst] at hb; simp at hb; done) | (simp at hb; done) | omega | (simp only [List.length_map, decide_eq_true_eq, decide_eq_false_iff_not] at hb; omega) | (simp at hb; omega) | fail))) (fun hb => ?_))
         | ((with_reducible refine Or.inl ?_); (conv => whnf); (with_reducible refine And.intro LitSl.mk ?_))
         | refine Br.t ?_
         | refine Br.f ?_
         | ((with_reducible refine Or.inl ?_); (conv => whnf); (first | (with_reducible first | refine ⟨_, isKey_fn _, ?_⟩)))
         | (with_reducible refine Br.mk (fun hb => ?_) (fun hb => ?_) <;> (try rw [hb]) <;> (try simp only [List.length_map, decide_eq_true_eq, decide_eq_false_iff_not, Bool.not_eq_true', Bool.not_eq_false', Int.ofNat_lt, Int.ofNat_le, Int.not_lt, Int.not_le, Int.toNat_natCast] at hb))
         | ((with_reducible first | refine Or.inl (And.intro ?_ ?_) | refine And.intro ?_ ?_); (focus (first | with_reducible rfl | exact trivial | (exact ⟨rfl, trivial⟩) | (exact ⟨rfl, rfl, trivial⟩) | omega | (intro r hr; simp only [List.mem_singleton] at hr; subst hr; rfl)  | ((simp only [List.length_map] at *; omega)) | ((simp only [in64, maxLen] at *; omega)) | (simp only [in64]; omega) | assumption | (simp; done) | (simp [V.cells]; done) | (simp [in64, maxLen, limK] at *; omega) | ((show confB _ _ = true); kernel_rfl) | rfl)))
         | (intro row hrow; (try simp only [Int.toNat_natCast, List.length_map, toNat_pred, toNat_succ', toNat_zero', toNat_one'] at hrow); (first | (have hsm := same_map (by assumption) hrow; subst hsm; clear hrow) | (obtain ⟨p, hp, rfl⟩ := of_map hrow; clear hrow)))))
        all_goals ((conv => whnf); (refine congrArg V.bool ?_); rw [hk2, hw]; rfl)
      · skip
        have hst : True := trivial
        repeat' ((conv => whnf); (first
         | (with_reducible first | refine AW.seq ?_ | refine AW.region base (by kernel_rfl) ?_ | refine AW.cond ?_ | refine AW.block ?_ | refine AW.ret ?_ | refine AW.exit ?_ | refine AW.skip ?_ | refine Br.t ?_ | refine Br.f ?_)
         | (with_reducible refine Br.mkT (fun hb => (by (first | (rw [hkb] at hb; simp at hb; done) | (rw [hst] at hb; simp at hb; done) | (simp at hb; done) | omega | (simp only [List.length_map, decide_eq_true_eq, decide_eq_false_iff_not] at hb; omega) | (simp at hb; omega) | fail))) (fun hb => ?_))
         | (with_reducible refine Br.mkF (fun hb => (by (first | (rw [hkb] at hb; simp at hb; done) | (rw [hst] at hb; simp at hb; done) | (simp at hb; done) | omega | (simp only [List.length_map, decide_eq_true_eq, decide_eq_false_iff_not] at hb; omega) | (simp at hb; omega) | fail))) (fun hb => ?_))
         | ((with_reducible refine Or.inl ?_); (conv => whnf); (with_reducible refine And.intro LitSl.mk ?_))
         | refine Br.t ?_
         | refine Br.f ?_
         | ((with_reducible refine Or.inl ?_); (conv => whnf); (first | (with_reducible first | refine ⟨_, isKey_fn _, ?_⟩)))
         | (with_reducible refine Br.mk (fun hb => ?_) (fun hb => ?_) <;> (try rw [hb]) <;> (try simp only [List.length_map, decide_eq_true_eq, decide_eq_false_iff_not, Bool.not_eq_true', Bool.not_eq_false', Int.ofNat_lt, Int.ofNat_le, Int.not_lt, Int.not_le, Int.toNat_natCast] at hb))
         | ((with_reducible first | refine Or.inl (And.intro ?_ ?_) | refine And.intro ?_ ?_); (focus (first | with_reducible rfl | exact trivial | (exact ⟨rfl, trivial⟩) | (exact ⟨rfl, rfl, trivial⟩) | omega | (intro r hr; simp only [List.mem_singleton] at hr; subst hr; rfl)  | ((simp only [List.length_map] at *; omega)) | ((simp only [in64, maxLen] at *; omega)) | (simp only [in64]; omega) | assumption | (simp; done) | (simp [V.cells]; done) | (simp [in64, maxLen, limK] at *; omega) | ((show confB _ _ = true); kernel_rfl) | rfl)))
         | (intro row hrow; (try simp only [Int.toNat_natCast, List.length_map, toNat_pred, toNat_succ', toNat_zero', toNat_one'] at hrow); (first | (have hsm := same_map (by assumption) hrow; subst hsm; clear hrow) | (obtain ⟨p, hp, rfl⟩ := of_map hrow; clear hrow)))))
        all_goals ((conv => whnf); (refine congrArg V.bool ?_); rw [hk2, hw]; rfl)
      · cases hst
      · skip
        repeat' ((conv => whnf); (first
         | (with_reducible first | refine AW.seq ?_ | refine AW.region base (by kernel_rfl) ?_ | refine AW.cond ?_ | refine AW.block ?_ | refine AW.ret ?_ | refine AW.exit ?_ | refine AW.skip ?_ | refine Br.t ?_ | refine Br.f ?_)
         | (with_reducible refine Br.mkT (fun hb => (by (first | (rw [hkb] at hb; simp at hb; done) | (rw [hst] at hb; simp at hb; done) | (simp at hb; done) | omega | (simp only [List.length_map, decide_eq_true_eq, decide_eq_false_iff_not] at hb; omega) | (simp at hb; omega) | fail))) (fun hb => ?_))
         | (with_reducible refine Br.mkF (fun hb => (by (first | (rw [hkb] at hb; simp at hb; done) | (rw [hst] at hb; simp at hb; done) | (simp at hb; done) | omega | (simp only [List.length_map, decide_eq_true_eq, decide_eq_false_iff_not] at hb; omega) | (simp at hb; omega) | fail))) (fun hb => ?_))
         | ((with_reducible refine Or.inl ?_); (conv => whnf); (with_reducible refine And.intro LitSl.mk ?_))
         | refine Br.t ?_
         | refine Br.f ?_
         | ((with_reducible refine Or.inl ?_); (conv => whnf); (first | (with_reducible first | refine ⟨_, isKey_fn _, ?_⟩)))
         | (with_reducible refine Br.mk (fun hb => ?_) (fun hb => ?_) <;> (try rw [hb]) <;> (try simp only [List.length_map, decide_eq_true_eq, decide_eq_false_iff_not, Bool.not_eq_true', Bool.not_eq_false', Int.ofNat_lt, Int.ofNat_le, Int.not_lt, Int.not_le, Int.toNat_natCast] at hb))
         | ((with_reducible first | refine Or.inl (And.intro ?_ ?_) | refine And.intro ?_ ?_); (focus (first | with_reducible rfl | exact trivial | (exact ⟨rfl, trivial⟩) | (exact ⟨rfl, rfl, trivial⟩) | omega | (intro r hr; simp only [List.mem_singleton] at hr; subst hr; rfl)  | ((simp only [List.length_map] at *; omega)) | ((simp only [in64, maxLen] at *; omega)) | (simp only [in64]; omega) | assumption | (simp; done) | (simp [V.cells]; done) | (simp [in64, maxLen, limK] at *; omega) | ((show confB _ _ = true); kernel_rfl) | rfl)))
         | (intro row hrow; (try simp only [Int.toNat_natCast, List.length_map, toNat_pred, toNat_succ', toNat_zero', toNat_one'] at hrow); (first | (have hsm := same_map (by assumption) hrow; subst hsm; clear hrow) | (obtain ⟨p, hp, rfl⟩ := of_map hrow; clear hrow)))))
        all_goals ((conv => whnf); (refine ⟨i + 1, ?_⟩); (refine And.intro ?_ (And.intro ?_ ?_)); (focus (refine ⟨⟨[], ?_⟩⟩; repeat' (first | (with_reducible rfl) | exact trivial | ((conv => whnf); (first | (with_reducible refine And.intro ?_ ?_) | (first | with_reducible rfl | ((first | refine congrArg V.str ?_ | refine congrArg (V.int _) ?_ | refine congrArg V.bool ?_ | refine congrArg V.sl ?_); (first | with_reducible rfl | omega | rfl | (simp; done))) | (first | with_reducible rfl | omega | rfl | (simp; done)) | rfl)))))); (focus (refine ⟨by omega, ?_⟩; rw [hk2, hw]; rfl)); (focus omega))
    · clear hst1
      rw [hs0] at hc5 hk2
      clear hs0
      rcases hc5 with ⟨hkb, hw⟩ | ⟨hkb, hn1, hw⟩ | ⟨hkb, hn1, hn2, hw⟩ | ⟨hkb, hn1, hn2, hst, hw⟩ | ⟨hkb, hn1, hn2, hst, hw⟩
      · skip
        have hst : True := trivial
        repeat' ((conv => whnf); (first
         | (with_reducible first | refine AW.seq ?_ | refine AW.region base (by kernel_rfl) ?_ | refine AW.cond ?_ | refine AW.block ?_ | refine AW.ret ?_ | refine AW.exit ?_ | refine AW.skip ?_ | refine Br.t ?_ | refine Br.f ?_)
         | (with_reducible refine Br.mkT (fun hb => (by (first | (rw [hkb] at hb; simp at hb; done) | (rw [hst] at hb; simp at hb; done) | (simp at hb; done) | omega | (simp only [List.length_map, decide_eq_true_eq, decide_eq_false_iff_not] at hb; omega) | (simp at hb; omega) | fail))) (fun hb => ?_))
         | (with_reducible refine Br.mkF (fun hb => (by (first | (rw [hkb] at hb; simp at hb; done) | (rw [hst] at hb; simp at hb; done) | (simp at hb; done) | omega | (simp only [List.length_map, decide_eq_true_eq, decide_eq_false_iff_not] at hb; omega) | (simp at hb; omega) | fail))) (fun hb => ?_))
         | ((with_reducible refine Or.inl ?_); (conv => whnf); (with_reducible refine And.intro LitSl.mk ?_))
         | refine Br.t ?_
         | refine Br.f ?_
         | ((with_reducible refine Or.inl ?_); (conv => whnf); (first | (with_reducible first | refine ⟨_, isKey_fn _, ?_⟩)))
         | (with_reducible refine Br.mk (fun hb => ?_) (fun hb => ?_) <;> (try rw [hb]) <;> (try simp only [List.length_map, decide_eq_true_eq, decide_eq_false_iff_not, Bool.not_eq_true', Bool.not_eq_false', Int.ofNat_lt, Int.ofNat_le, Int.not_lt, Int.not_le, Int.toNat_natCast] at hb))
         | ((with_reducible first | refine Or.inl (And.intro ?_ ?_) | refine And.intro ?_ ?_); (focus (first | with_reducible rfl | exact trivial | (exact ⟨rfl, trivial⟩) | (exact ⟨rfl, rfl, trivial⟩) | omega | (intro r hr; simp only [List.mem_singleton] at hr; subst hr; rfl)  | ((simp only [List.length_map] at *; omega)) | ((simp only [in64, maxLen] at *; omega)) | (simp only [in64]; omega) | assumption | (simp; done) | (simp [V.cells]; done) | (simp [in64, maxLen, limK] at *; omega) | ((show confB _ _ = true); kernel_rfl) | rfl)))
         | (intro row hrow; (try simp only [Int.toNat_natCast, List.length_map, toNat_pred, toNat_succ', toNat_zero', toNat_one'] at hrow); (first | (have hsm := same_map (by assumption) hrow; subst hsm; clear hrow) | (obtain ⟨p, hp, rfl⟩ := of_map hrow; clear hrow)))))
        all_goals ((conv => whnf); (refine congrArg V.bool ?_); rw [hk2, hw]; rfl)
      · skip
        have hst : True := trivial
        repeat' ((conv => whnf); (first
         | (with_reducible first | refine AW.seq ?_ | refine AW.region base (by kernel_rfl) ?_ | refine AW.cond ?_ | refine AW.block ?_ | refine AW.ret ?_ | refine AW.exit ?_ | refine AW.skip ?_ | refine Br.t ?_ | refine Br.f ?_)
         | (with_reducible refine Br.mkT (fun hb => (by (first | (rw [hkb] at hb; simp at hb; done) | (rw [hst] at hb; simp at hb; done) | (simp at hb; done) | omega | (simp only [List.length_map, decide_eq_true_eq, decide_eq_false_iff_not] at hb; omega) | (simp at hb; omega) | fail))) (fun hb => ?_))
         | (with_reducible refine Br.mkF (fun hb => (by (first | (rw [hkb] at hb; simp at hb; done) | (rw [hst] at hb; simp at hb; done) | (simp at hb; done) | omega | (simp only [List.length_map, decide_eq_true_eq, decide_eq_false_iff_not] at hb; omega) | (simp at hb; omega) | fail))) (fun hb => ?_))
         | ((with_reducible refine Or.inl ?_); (conv => whnf); (with_reducible refine And.intro LitSl.mk ?_))
         | refine Br.t ?_
         | refine Br.f ?_
         | ((with_reducible refine Or.inl ?_); (conv => whnf); (first | (with_reducible first | refine ⟨_, isKey_fn _, ?_⟩)))
         | (with_reducible refine Br.mk (fun hb => ?_) (fun hb => ?_) <;> (try rw [hb]) <;> (try simp only [List.length_map, decide_eq_true_eq, decide_eq_false_iff_not, Bool.not_eq_true', Bool.not_eq_false', Int.ofNat_lt, Int.ofNat_le, Int.not_lt, Int.not_le, Int.toNat_natCast] at hb))
         | ((with_reducible first | refine Or.inl (And.intro ?_ ?_) | refine And.intro ?_ ?_); (focus (first | with_reducible rfl | exact trivial | (exact ⟨rfl, trivial⟩) | (exact ⟨rfl, rfl, trivial⟩) | omega | (intro r hr; simp only [List.mem_singleton] at hr; subst hr; rfl)  | ((simp only [List.length_map] at *; omega)) | ((simp only [in64, maxLen] at *; omega)) | (simp only [in64]; omega) | assumption | (simp; done) | (simp [V.cells]; done) | (simp [in64, maxLen, limK] at *; omega) | ((show confB _ _ = true); kernel_rfl) | rfl)))
         | (intro row hrow; (try simp only [Int.toNat_natCast, List.length_map, toNat_pred, toNat_succ', toNat_zero', toNat_one'] at hrow); (first | (have hsm := same_map (by assumption) hrow; subst hsm; clear hrow) | (obtain ⟨p, hp, rfl⟩ := of_map hrow; clear hrow)))))
        all_goals ((conv => whnf); (refine congrArg V.bool ?_); rw [hk2, hw]; rfl)
      · skip
        have hst : True := trivial
        repeat' ((conv => whnf); (first
         | (with_reducible first | refine AW.seq ?_ | refine AW.region base (by kernel_rfl) ?_ | refine AW.cond ?_ | refine AW.block ?_ | refine AW.ret ?_ | refine AW.exit ?_ | refine AW.skip ?_ | refine Br.t ?_ | refine Br.f ?_)
         | (with_reducible refine Br.mkT (fun hb => (by (first | (rw [hkb] at hb; simp at hb; done) | (rw [hst] at hb; simp at hb; done) | (simp at hb; done) | omega | (simp only [List.length_map, decide_eq_true_eq, decide_eq_false_iff_not] at hb; omega) | (simp at hb; omega) | fail))) (fun hb => ?_))
         | (with_reducible refine Br.mkF (fun hb => (by (first | (rw [hkb] at hb; simp at hb; done) | (rw [hst] at hb; simp at hb; done) | (simp at hb; done) | omega | (simp only [List.length_map, decide_eq_true_eq, decide_eq_false_iff_not] at hb; omega) | (simp at hb; omega) | fail))) (fun hb => ?_))
         | ((with_reducible refine Or.inl ?_); (conv => whnf); (with_reducible refine And.intro LitSl.mk ?_))
         | refine Br.t ?_
         | refine Br.f ?_
         | ((with_reducible refine Or.inl ?_); (conv => whnf); (first | (with_reducible first | refine ⟨_, isKey_fn _, ?_⟩)))
         | (with_reducible refine Br.mk (fun hb => ?_) (fun hb => ?_) <;> (try rw [hb]) <;> (try simp only [List.length_map, decide_eq_true_eq, decide_eq_false_iff_not, Bool.not_eq_true', Bool.not_eq_false', Int.ofNat_lt, Int.ofNat_le, Int.not_lt, Int.not_le, Int.toNat_natCast] at hb))
         | ((with_reducible first | refine Or.inl (And.intro ?_ ?_) | refine And.intro ?_ ?_); (focus (first | with_reducible rfl | exact trivial | (exact ⟨rfl, trivial⟩) | (exact ⟨rfl, rfl, trivial⟩) | omega | (intro r hr; simp only [List.mem_singleton] at hr; subst hr; rfl)  | ((simp only [List.length_map] at *; omega)) | ((simp only [in64, maxLen] at *; omega)) | (simp only [in64]; omega) | assumption | (simp; done) | (simp [V.cells]; done) | (simp [in64, maxLen, limK] at *; omega) | ((show confB _ _ = true); kernel_rfl) | rfl)))
         | (intro row hrow; (try simp only [Int.toNat_natCast, List.length_map, toNat_pred, toNat_succ', toNat_zero', toNat_one'] at hrow); (first | (have hsm := same_map (by assumption) hrow; subst hsm; clear hrow) | (obtain ⟨p, hp, rfl⟩ := of_map hrow; clear hrow)))))
        all_goals ((conv => whnf); (refine congrArg V.bool ?_); rw [hk2, hw]; rfl)
      · skip
        repeat' ((conv => whnf); (first
         | (with_reducible first | refine AW.seq ?_ | refine AW.region base (by kernel_rfl) ?_ | refine AW.cond ?_ | refine AW.block ?_ | refine AW.ret ?_ | refine AW.exit ?_ | refine AW.skip ?_ | refine Br.t ?_ | refine Br.f ?_)
         | (with_reducible refine Br.mkT (fun hb => (by (first | (rw [hkb] at hb; simp at hb; done) | (rw [hst] at hb; simp at hb; done) | (simp at hb; done) | omega | (simp only [List.length_map, decide_eq_true_eq, decide_eq_false_iff_not] at hb; omega) | (simp at hb; omega) | fail))) (fun hb => ?_))
         | (with_reducible refine Br.mkF (fun hb => (by (first | (rw [hkb] at hb; simp at hb; done) | (rw [hst] at hb; simp at hb; done) | (simp at hb; done) | omega | (simp only [List.length_map, decide_eq_true_eq, decide_eq_false_iff_not] at hb; omega) | (simp at hb; omega) | fail))) (fun hb => ?_))
         | ((with_reducible refine Or.inl ?_); (conv => whnf); (with_reducible refine And.intro LitSl.mk ?_))
         | refine Br.t ?_
         | refine Br.f ?_
         | ((with_reducible refine Or.inl ?_); (conv => whnf); (first | (with_reducible first | refine ⟨_, isKey_fn _, ?_⟩)))
         | (with_reducible refine Br.mk (fun hb => ?_) (fun hb => ?_) <;> (try rw [hb]) <;> (try simp only [List.length_map, decide_eq_true_eq, decide_eq_false_iff_not, Bool.not_eq_true', Bool.not_eq_false', Int.ofNat_lt, Int.ofNat_le, Int.not_lt, Int.not_le, Int.toNat_natCast] at hb))
         | ((with_reducible first | refine Or.inl (And.intro ?_ ?_) | refine And.intro ?_ ?_); (focus (first | with_reducible rfl | exact trivial | (exact ⟨rfl, trivial⟩) | (exact ⟨rfl, rfl, trivial⟩) | omega | (intro r hr; simp only [List.mem_singleton] at hr; subst hr; rfl)  | ((simp only [List.length_map] at *; omega)) | ((simp only [in64, maxLen] at *; omega)) | (simp only [in64]; omega) | assumption | (simp; done) | (simp [V.cells]; done) | (simp [in64, maxLen, limK] at *; omega) | ((show confB _ _ = true); kernel_rfl) | rfl)))
         | (intro row hrow; (try simp only [Int.toNat_natCast, List.length_map, toNat_pred, toNat_succ', toNat_zero', toNat_one'] at hrow); (first | (have hsm := same_map (by assumption) hrow; subst hsm; clear hrow) | (obtain ⟨p, hp, rfl⟩ := of_map hrow; clear hrow)))))
        all_goals ((conv => whnf); (refine congrArg V.bool ?_); rw [hk2, hw]; rfl)
      · skip
        repeat' ((conv => whnf); (first
         | (with_reducible first | refine AW.seq ?_ | refine AW.region base (by kernel_rfl) ?_ | refine AW.cond ?_ | refine AW.block ?_ | refine AW.ret ?_ | refine AW.exit ?_ | refine AW.skip ?_ | refine Br.t ?_ | refine Br.f ?_)
         | (with_reducible refine Br.mkT (fun hb => (by (first | (rw [hkb] at hb; simp at hb; done) | (rw [hst] at hb; simp at hb; done) | (simp at hb; done) | omega | (simp only [List.length_map, decide_eq_true_eq, decide_eq_false_iff_not] at hb; omega) | (simp at hb; omega) | fail))) (fun hb => ?_))
         | (with_reducible refine Br.mkF (fun hb => (by (first | (rw [hkb] at hb; simp at hb; done) | (rw [hst] at hb; simp at hb; done) | (simp at hb; done) | omega | (simp only [List.length_map, decide_eq_true_eq, decide_eq_false_iff_not] at hb; omega) | (simp at hb; omega) | fail))) (fun hb => ?_))
         | ((with_reducible refine Or.inl ?_); (conv => whnf); (with_reducible refine And.intro LitSl.mk ?_))
         | refine Br.t ?_
         | refine Br.f ?_
         | ((with_reducible refine Or.inl ?_); (conv => whnf); (first | (with_reducible first | refine ⟨_, isKey_fn _, ?_⟩)))
         | (with_reducible refine Br.mk (fun hb => ?_) (fun hb => ?_) <;> (try rw [hb]) <;> (try simp only [List.length_map, decide_eq_true_eq, decide_eq_false_iff_not, Bool.not_eq_true', Bool.not_eq_false', Int.ofNat_lt, Int.ofNat_le, Int.not_lt, Int.not_le, Int.toNat_natCast] at hb))
         | ((with_reducible first | refine Or.inl (And.intro ?_ ?_) | refine And.intro ?_ ?_); (focus (first | with_reducible rfl | exact trivial | (exact ⟨rfl, trivial⟩) | (exact ⟨rfl, rfl, trivial⟩) | omega | (intro r hr; simp only [List.mem_singleton] at hr; subst hr; rfl)  | ((simp only [List.length_map] at *; omega)) | ((simp only [in64, maxLen] at *; omega)) | (simp only [in64]; omega) | assumption | (simp; done) | (simp [V.cells]; done) | (simp [in64, maxLen, limK] at *; omega) | ((show confB _ _ = true); kernel_rfl) | rfl)))
         | (intro row hrow; (try simp only [Int.toNat_natCast, List.length_map, toNat_pred, toNat_succ', toNat_zero', toNat_one'] at hrow); (first | (have hsm := same_map (by assumption) hrow; subst hsm; clear hrow) | (obtain ⟨p, hp, rfl⟩ := of_map hrow; clear hrow)))))
        all_goals ((conv => whnf); (refine ⟨i + 1, ?_⟩); (refine And.intro ?_ (And.intro ?_ ?_)); (focus (refine ⟨⟨[], ?_⟩⟩; repeat' (first | (with_reducible rfl) | exact trivial | ((conv => whnf); (first | (with_reducible refine And.intro ?_ ?_) | (first | with_reducible rfl | ((first | refine congrArg V.str ?_ | refine congrArg (V.int _) ?_ | refine congrArg V.bool ?_ | refine congrArg V.sl ?_); (first | with_reducible rfl | omega | rfl | (simp; done))) | (first | with_reducible rfl | omega | rfl | (simp; done)) | rfl)))))); (focus (refine ⟨by omega, ?_⟩; rw [hk2, hw]; rfl)); (focus omega))

end Go.Proofs.YtnblecdpkbempaaGreatDoor
