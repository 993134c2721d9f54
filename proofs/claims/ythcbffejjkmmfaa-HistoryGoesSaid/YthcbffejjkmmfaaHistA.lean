/-
  Walks of packages index, token, history and of their reference: rows of cells and of events. No conditions.
-/
import Derived.Test.YthcbffejjkmmfaaHist
namespace Go.Proofs.Ythcbffejjkmmfaa
open Go.RowKit
set_option linter.unusedSimpArgs false
set_option linter.unusedVariables false

theorem drop_get {α : Type} {l : List α} {k : Nat} {p : α} (h : l[k]? = some p) : l.drop k = p :: l.drop (k + 1) := by
  obtain ⟨h1, rfl⟩ := List.getElem?_eq_some_iff.1 h
  exact List.drop_eq_getElem_cons h1
theorem take_get {α : Type} {l : List α} {k : Nat} {p : α} (h : l[k]? = some p) : l.take (k + 1) = l.take k ++ [p] := by
  rw [List.take_add_one, h]; rfl
def prevK (c : List Cel) (i : Nat) : Option Bs := if i = 0 then none else (c[i - 1]?).map (·.k)
theorem idx_first {c : List Cel} {p : Cel} (hp : c[0]? = some p) : idxB (prevK c 0) (c.drop 0) = (celB p && idxB (prevK c (0 + 1)) (c.drop (0 + 1))) := by
  rw [drop_get hp, idxB]; simp [prevK, hp, belowB]
theorem idx_next {c : List Cel} {i : Nat} {p q : Cel} (h0 : 0 < i) (hq : c[i - 1]? = some q) (hp : c[i]? = some p) : idxB (prevK c i) (c.drop i) = (celB p && blt q.k p.k && idxB (prevK c (i + 1)) (c.drop (i + 1))) := by
  rw [drop_get hp, idxB]; simp [prevK, hp, hq, belowB, show ¬ i = 0 by omega]
theorem idx_end (c : List Cel) : idxB (prevK c c.length) (c.drop c.length) = true := by rw [List.drop_length]; rfl
theorem getC_cons (p : Cel) (r : List Cel) (k : Bs) : getC (p :: r) k = if p.k = k then some p else getC r k := by
  unfold getC; by_cases h : p.k = k <;> simp [h]
theorem seenOf_cons (p : Sn) (r : List Sn) (k : Bs) : seenOf (p :: r) k = if p.k = k then p.n else seenOf r k := by
  unfold seenOf; by_cases h : p.k = k <;> simp [h]
theorem fst_length {α : Type} (l : List α) (n : Nat) (f : α → Bool) : ((l.take n).filter f).length ≤ n := Nat.le_trans (List.length_filter_le _ _) (by simp; omega)
def idx0 (p : Cel → Bool) : List Cel → Nat → Int
  | [], _ => -1
  | x :: r, i => if p x then i else idx0 p r (i + 1)
theorem idx0_any (p : Cel → Bool) : ∀ (l : List Cel) (i : Nat), decide (0 ≤ idx0 p l i) = l.any p
  | [], i => by simp [idx0]
  | x :: r, i => by
    rw [idx0, List.any_cons]
    by_cases h : p x = true
    · simp [h]
    · simp [h, idx0_any p r]
theorem withL_len (c : Cel) : ∀ (l : List Cel) (done : Bool), (withL c done l).length ≤ l.length + 1
  | [], done => by cases done <;> simp [withL]
  | x :: r, done => by
    rw [withL]
    have h1 := withL_len c r true
    have h2 := withL_len' c r
    have h3 := withL_len c r false
    cases done <;> cases blt x.k c.k <;> by_cases hk : x.k = c.k <;> simp [hk] <;> omega
 where
  withL_len' (c : Cel) : ∀ (l : List Cel), (withL c true l).length ≤ l.length
    | [] => by simp [withL]
    | x :: r => by
      have h2 := withL_len' c r
      rw [withL]
      by_cases hk : x.k = c.k <;> simp [hk] <;> omega
theorem withC_len (c : Cel) (l : List Cel) : (withC l c).length ≤ l.length + 1 := by
  unfold withC; split
  · exact withL_len c l false
  · omega
theorem celB_f {c : Cel} (h : celB c = true) : 0 ≤ c.f ∧ c.f ≤ 1000000000000 := by
  simp only [celB, isCellB, mayB, Bool.and_eq_true, decide_eq_true_eq] at h; omega
theorem evtB_n {e : Evt} (h : evtB e = true) : 0 ≤ e.n ∧ e.n ≤ 1000000000000 := by
  simp only [evtB, mayB, Bool.and_eq_true, decide_eq_true_eq] at h; omega
theorem beqb_dec (a b : Bool) : (a == b) = decide (a = b) := by cases a <;> cases b <;> rfl
def aftQ (s : Span) (seen : List Sn) (e : Evt) : Bool := hasB s e.k && decide (seenOf seen e.k < e.n)
theorem aft_step {l : List Evt} {i : Nat} {p : Evt} (s : Span) (seen : List Sn) (most : Int) (hp : l[i]? = some p) :
    ((l.take (i + 1)).filter (aftQ s seen)).take most.toNat = ((l.take i).filter (aftQ s seen)).take most.toNat ++ (if aftQ s seen p && decide (((((l.take i).filter (aftQ s seen)).take most.toNat).length : Int) < most) then [p] else []) := by
  rw [take_get hp, List.filter_append]
  generalize (l.take i).filter (aftQ s seen) = m
  by_cases h : aftQ s seen p = true
  · simp only [h, Bool.true_and, List.filter_cons_of_pos, List.filter_nil, List.length_take]
    rw [List.take_append]
    by_cases h2 : ((min most.toNat m.length : Nat) : Int) < most
    · rw [if_pos (by simpa using h2)]
      congr 1
      rw [List.take_of_length_le]; simp; omega
    · rw [if_neg (by simpa using h2)]
      congr 1
      rw [show most.toNat - m.length = 0 by omega]; rfl
  · simp [h]

set_option maxRecDepth 100000 in
set_option maxHeartbeats 1000000 in
theorem indexIs_fn (c : List Cel) : Fn Try.prog 37 [.sl (c.map encC)] (.bool (idxB none c)) := by
  refine Fn.mk' base Try.func37 rfl rfl rfl ?_
  refine AW.len 0 rfl (fun hlen => ?_)
  simp only [List.length_map, maxLen] at hlen
  repeat' (first
      | (with_reducible refine AW.seq ?_) | (with_reducible refine AW.region base (by kernel_rfl) ?_) | (with_reducible refine AW.cond ?_) | (with_reducible refine AW.block ?_) | (with_reducible refine AW.ret ?_) | (with_reducible refine AW.exit ?_) | (with_reducible refine AW.skip ?_)
      | ((conv => whnf); (first
         | (with_reducible refine Br.t ?_)
         | (with_reducible refine Br.f ?_)
         | ((with_reducible refine Or.inl ?_); (conv => whnf); (with_reducible refine And.intro LitSl.mk ?_))
         | (refine Br.t ?_)
         | (refine Br.f ?_)
         | (with_reducible refine Br.mk (fun hb => ?_) (fun hb => (by exfalso; (first | (simp at hb; done) | omega | (simp at hb; omega) | fail))))
         | (with_reducible refine Br.mk (fun hb => (by exfalso; (first | (simp at hb; done) | omega | (simp at hb; omega) | fail))) (fun hb => ?_))
         | (with_reducible refine Or.inl ⟨_, cellIs_fn _ _ _ _ _, ?_⟩)
         | ((with_reducible refine Or.inl ?_); (conv => whnf); (with_reducible refine ⟨_, cellIs_fn _ _ _ _ _, ?_⟩))
         | (with_reducible refine Or.inl ⟨_, cellIsr_fn _ _ _ _ _, ?_⟩)
         | ((with_reducible refine Or.inl ?_); (conv => whnf); (with_reducible refine ⟨_, cellIsr_fn _ _ _ _ _, ?_⟩))
         | (with_reducible refine Br.mk (fun hb => ?_) (fun hb => ?_) <;> (try rw [hb]) <;> (try simp only [List.length_map, decide_eq_true_eq, decide_eq_false_iff_not, Bool.not_eq_true', Bool.not_eq_false', Int.ofNat_lt, Int.ofNat_le, Int.not_lt, Int.not_le, Int.toNat_natCast] at hb))
         | (with_reducible refine ⟨_, (by first | exact ByteRows.map _ | (repeat (first | exact ByteRows.nil | exact ByteRows.map _ | refine ByteRows.cons ?_ | refine ByteRows.app ?_ ?_))), ?_⟩)
         | (refine Exists.intro _ (And.intro (ByteRows.rep _) ?_))
         | (refine Exists.intro _ (And.intro (ByteRows.app (ByteRows.map _) (ByteRows.cons ByteRows.nil)) ?_))
         | ((with_reducible refine Or.inl (And.intro ?_ ?_)); (focus (first | with_reducible rfl | exact trivial | (exact ⟨rfl, trivial⟩) | (exact ⟨rfl, rfl, trivial⟩) | omega | (intro r hr; simp only [List.mem_singleton] at hr; subst hr; rfl)  | ((simp only [List.length_map] at *; omega)) | ((simp only [in64, maxLen] at *; omega)) | (simp only [in64]; omega) | assumption | (simp; done) | (simp [V.cells]; done) | (simp [in64, maxLen, limK] at *; omega) | ((show confB _ _ = true); kernel_rfl) | rfl)))
         | ((with_reducible refine And.intro ?_ ?_); (focus (first | with_reducible rfl | exact trivial | (exact ⟨rfl, trivial⟩) | (exact ⟨rfl, rfl, trivial⟩) | omega | (intro r hr; simp only [List.mem_singleton] at hr; subst hr; rfl)  | ((simp only [List.length_map] at *; omega)) | ((simp only [in64, maxLen] at *; omega)) | (simp only [in64]; omega) | assumption | (simp; done) | (simp [V.cells]; done) | (simp [in64, maxLen, limK] at *; omega) | ((show confB _ _ = true); kernel_rfl) | rfl)))
         | (intro row hrow; (try simp only [Int.toNat_natCast, List.length_map, toNat_pred, toNat_succ', toNat_zero', toNat_one'] at hrow); (first | (have hsm := same_map (by assumption) hrow; subst hsm; clear hrow) | (obtain ⟨p, hp, rfl⟩ := of_map hrow; clear hrow)))
         | (with_reducible refine AW.seq ?_) | (with_reducible refine AW.region base (by kernel_rfl) ?_) | (with_reducible refine AW.cond ?_) | (with_reducible refine AW.block ?_) | (with_reducible refine AW.ret ?_) | (with_reducible refine AW.exit ?_) | (with_reducible refine AW.skip ?_))))
  refine AW.loop (fun (i : Nat) => i ≤ c.length ∧ idxB none c = idxB (prevK c i) (c.drop i)) (fun (i : Nat) => ⟨[(0, .sl (c.map encC)), (5, .sl (c.map encC)), (6, .int .i64 ((c.map encC).length : Int)), (7, .int .i64 (i : Int))], []⟩) (fun i => c.length - i) 0 ?_ ?_ ?_
  · exact ⟨Nat.zero_le _, rfl⟩
  · (refine ⟨⟨[], ?_⟩⟩; repeat' (first | (with_reducible rfl) | exact trivial | ((conv => whnf); (first | (with_reducible refine And.intro ?_ ?_) | (first | with_reducible rfl | (refine congrArg V.str ?_; (first | with_reducible rfl | omega | rfl | (simp; done))) | (refine congrArg (V.int _) ?_; (first | with_reducible rfl | omega | rfl | (simp; done))) | (refine congrArg V.bool ?_; (first | with_reducible rfl | omega | rfl | (simp; done))) | (refine congrArg V.sl ?_; (first | with_reducible rfl | omega | rfl | (simp; done))) | (first | with_reducible rfl | omega | rfl | (simp; done)) | rfl)))))
  · rintro i hk
    obtain ⟨hk1, hk2⟩ := hk
    rcases (by omega : i = c.length ∨ i < c.length) with hi | hi
    · subst hi
      repeat' (first
          | (with_reducible refine AW.seq ?_) | (with_reducible refine AW.region base (by kernel_rfl) ?_) | (with_reducible refine AW.cond ?_) | (with_reducible refine AW.block ?_) | (with_reducible refine AW.ret ?_) | (with_reducible refine AW.exit ?_) | (with_reducible refine AW.skip ?_)
          | ((conv => whnf); (first
             | (with_reducible refine Br.t ?_)
             | (with_reducible refine Br.f ?_)
             | ((with_reducible refine Or.inl ?_); (conv => whnf); (with_reducible refine And.intro LitSl.mk ?_))
             | (refine Br.t ?_)
             | (refine Br.f ?_)
             | (with_reducible refine Br.mk (fun hb => ?_) (fun hb => (by exfalso; (first | (simp at hb; done) | omega | (simp at hb; omega) | fail))))
             | (with_reducible refine Br.mk (fun hb => (by exfalso; (first | (simp at hb; done) | omega | (simp at hb; omega) | fail))) (fun hb => ?_))
             | (with_reducible refine Or.inl ⟨_, cellIs_fn _ _ _ _ _, ?_⟩)
             | ((with_reducible refine Or.inl ?_); (conv => whnf); (with_reducible refine ⟨_, cellIs_fn _ _ _ _ _, ?_⟩))
             | (with_reducible refine Or.inl ⟨_, cellIsr_fn _ _ _ _ _, ?_⟩)
             | ((with_reducible refine Or.inl ?_); (conv => whnf); (with_reducible refine ⟨_, cellIsr_fn _ _ _ _ _, ?_⟩))
             | (with_reducible refine Br.mk (fun hb => ?_) (fun hb => ?_) <;> (try rw [hb]) <;> (try simp only [List.length_map, decide_eq_true_eq, decide_eq_false_iff_not, Bool.not_eq_true', Bool.not_eq_false', Int.ofNat_lt, Int.ofNat_le, Int.not_lt, Int.not_le, Int.toNat_natCast] at hb))
             | (with_reducible refine ⟨_, (by first | exact ByteRows.map _ | (repeat (first | exact ByteRows.nil | exact ByteRows.map _ | refine ByteRows.cons ?_ | refine ByteRows.app ?_ ?_))), ?_⟩)
             | (refine Exists.intro _ (And.intro (ByteRows.rep _) ?_))
             | (refine Exists.intro _ (And.intro (ByteRows.app (ByteRows.map _) (ByteRows.cons ByteRows.nil)) ?_))
             | ((with_reducible refine Or.inl (And.intro ?_ ?_)); (focus (first | with_reducible rfl | exact trivial | (exact ⟨rfl, trivial⟩) | (exact ⟨rfl, rfl, trivial⟩) | omega | (intro r hr; simp only [List.mem_singleton] at hr; subst hr; rfl)  | ((simp only [List.length_map] at *; omega)) | ((simp only [in64, maxLen] at *; omega)) | (simp only [in64]; omega) | assumption | (simp; done) | (simp [V.cells]; done) | (simp [in64, maxLen, limK] at *; omega) | ((show confB _ _ = true); kernel_rfl) | rfl)))
             | ((with_reducible refine And.intro ?_ ?_); (focus (first | with_reducible rfl | exact trivial | (exact ⟨rfl, trivial⟩) | (exact ⟨rfl, rfl, trivial⟩) | omega | (intro r hr; simp only [List.mem_singleton] at hr; subst hr; rfl)  | ((simp only [List.length_map] at *; omega)) | ((simp only [in64, maxLen] at *; omega)) | (simp only [in64]; omega) | assumption | (simp; done) | (simp [V.cells]; done) | (simp [in64, maxLen, limK] at *; omega) | ((show confB _ _ = true); kernel_rfl) | rfl)))
             | (intro row hrow; (try simp only [Int.toNat_natCast, List.length_map, toNat_pred, toNat_succ', toNat_zero', toNat_one'] at hrow); (first | (have hsm := same_map (by assumption) hrow; subst hsm; clear hrow) | (obtain ⟨p, hp, rfl⟩ := of_map hrow; clear hrow)))
             | (with_reducible refine AW.seq ?_) | (with_reducible refine AW.region base (by kernel_rfl) ?_) | (with_reducible refine AW.cond ?_) | (with_reducible refine AW.block ?_) | (with_reducible refine AW.ret ?_) | (with_reducible refine AW.exit ?_) | (with_reducible refine AW.skip ?_))))
      all_goals ((conv => whnf); (refine congrArg V.bool ?_; rw [hk2, idx_end]))
    obtain ⟨p, hp⟩ : ∃ p, c[i]? = some p := ⟨_, List.getElem?_eq_getElem hi⟩
    obtain ⟨st, hst⟩ : ∃ st : Bool, idxB (prevK c i) (c.drop i) = (celB p && st && idxB (prevK c (i + 1)) (c.drop (i + 1))) ∧ ((i = 0 ∧ st = true) ∨ ∃ q, 0 < i ∧ c[i - 1]? = some q ∧ st = blt q.k p.k) := by
      rcases (by omega : i = 0 ∨ 0 < i) with h0 | h0
      · subst h0; exact ⟨true, by rw [idx_first hp]; simp, .inl ⟨rfl, rfl⟩⟩
      · obtain ⟨q, hq⟩ : ∃ q, c[i - 1]? = some q := ⟨_, List.getElem?_eq_getElem (by omega)⟩
        exact ⟨blt q.k p.k, by rw [idx_next h0 hq hp], .inr ⟨q, h0, hq, rfl⟩⟩
    obtain ⟨hst1, hst2⟩ := hst
    rw [hst1] at hk2
    rcases hst2 with ⟨h0, rfl⟩ | ⟨q, h0, hq, rfl⟩
    · subst h0
      repeat' (first
          | (with_reducible refine AW.seq ?_) | (with_reducible refine AW.region base (by kernel_rfl) ?_) | (with_reducible refine AW.cond ?_) | (with_reducible refine AW.block ?_) | (with_reducible refine AW.ret ?_) | (with_reducible refine AW.exit ?_) | (with_reducible refine AW.skip ?_)
          | ((conv => whnf); (first
             | (with_reducible refine Br.t ?_)
             | (with_reducible refine Br.f ?_)
             | ((with_reducible refine Or.inl ?_); (conv => whnf); (with_reducible refine And.intro LitSl.mk ?_))
             | (refine Br.t ?_)
             | (refine Br.f ?_)
             | (with_reducible refine Br.mk (fun hb => ?_) (fun hb => (by exfalso; (first | (simp at hb; done) | omega | (simp at hb; omega) | fail))))
             | (with_reducible refine Br.mk (fun hb => (by exfalso; (first | (simp at hb; done) | omega | (simp at hb; omega) | fail))) (fun hb => ?_))
             | (with_reducible refine Or.inl ⟨_, cellIs_fn _ _ _ _ _, ?_⟩)
             | ((with_reducible refine Or.inl ?_); (conv => whnf); (with_reducible refine ⟨_, cellIs_fn _ _ _ _ _, ?_⟩))
             | (with_reducible refine Or.inl ⟨_, cellIsr_fn _ _ _ _ _, ?_⟩)
             | ((with_reducible refine Or.inl ?_); (conv => whnf); (with_reducible refine ⟨_, cellIsr_fn _ _ _ _ _, ?_⟩))
             | (with_reducible refine Br.mk (fun hb => ?_) (fun hb => ?_) <;> (try rw [hb]) <;> (try simp only [List.length_map, decide_eq_true_eq, decide_eq_false_iff_not, Bool.not_eq_true', Bool.not_eq_false', Int.ofNat_lt, Int.ofNat_le, Int.not_lt, Int.not_le, Int.toNat_natCast] at hb))
             | (with_reducible refine ⟨_, (by first | exact ByteRows.map _ | (repeat (first | exact ByteRows.nil | exact ByteRows.map _ | refine ByteRows.cons ?_ | refine ByteRows.app ?_ ?_))), ?_⟩)
             | (refine Exists.intro _ (And.intro (ByteRows.rep _) ?_))
             | (refine Exists.intro _ (And.intro (ByteRows.app (ByteRows.map _) (ByteRows.cons ByteRows.nil)) ?_))
             | ((with_reducible refine Or.inl (And.intro ?_ ?_)); (focus (first | with_reducible rfl | exact trivial | (exact ⟨rfl, trivial⟩) | (exact ⟨rfl, rfl, trivial⟩) | omega | (intro r hr; simp only [List.mem_singleton] at hr; subst hr; rfl)  | ((simp only [List.length_map] at *; omega)) | ((simp only [in64, maxLen] at *; omega)) | (simp only [in64]; omega) | assumption | (simp; done) | (simp [V.cells]; done) | (simp [in64, maxLen, limK] at *; omega) | ((show confB _ _ = true); kernel_rfl) | rfl)))
             | ((with_reducible refine And.intro ?_ ?_); (focus (first | with_reducible rfl | exact trivial | (exact ⟨rfl, trivial⟩) | (exact ⟨rfl, rfl, trivial⟩) | omega | (intro r hr; simp only [List.mem_singleton] at hr; subst hr; rfl)  | ((simp only [List.length_map] at *; omega)) | ((simp only [in64, maxLen] at *; omega)) | (simp only [in64]; omega) | assumption | (simp; done) | (simp [V.cells]; done) | (simp [in64, maxLen, limK] at *; omega) | ((show confB _ _ = true); kernel_rfl) | rfl)))
             | (intro row hrow; (try simp only [Int.toNat_natCast, List.length_map, toNat_pred, toNat_succ', toNat_zero', toNat_one'] at hrow); (first | (have hsm := same_map (by assumption) hrow; subst hsm; clear hrow) | (obtain ⟨p, hp, rfl⟩ := of_map hrow; clear hrow)))
             | (with_reducible refine AW.seq ?_) | (with_reducible refine AW.region base (by kernel_rfl) ?_) | (with_reducible refine AW.cond ?_) | (with_reducible refine AW.block ?_) | (with_reducible refine AW.ret ?_) | (with_reducible refine AW.exit ?_) | (with_reducible refine AW.skip ?_))))
      all_goals (try first | with_reducible assumption | ((show (_ : Int) ≤ _); (first | omega | (simp at *; omega) | (simp; done) | (simp [maxLen]; done))) | ((show (_ : Nat) ≤ _); (first | omega | (simp at *; omega) | (simp; done) | (simp [maxLen]; done))) | ((show in64 _); (simp only [in64] at *; (first | omega | (simp at *; omega) | (simp; done) | (simp [maxLen]; done)))) | ((show (_ : Int) < _); (first | omega | (simp at *; omega) | (simp; done) | (simp [maxLen]; done))) | ((show ¬ (_ : Int) = _); (first | omega | (simp at *; omega) | (simp; done) | (simp [maxLen]; done))) | ((with_reducible refine And.intro ?_ ?_) <;> (first | omega | (simp at *; omega) | (simp; done) | (simp [maxLen]; done))))
      all_goals (first
        | (with_reducible exact absurd rfl (by assumption))
        | ((conv => whnf); (refine ⟨1, ?_⟩); (refine And.intro ?_ (And.intro ?_ ?_)); (focus (refine ⟨⟨[], ?_⟩⟩; repeat' (first | (with_reducible rfl) | exact trivial | ((conv => whnf); (first | (with_reducible refine And.intro ?_ ?_) | (first | with_reducible rfl | (refine congrArg V.str ?_; (first | with_reducible rfl | omega | rfl | (simp; done))) | (refine congrArg (V.int _) ?_; (first | with_reducible rfl | omega | rfl | (simp; done))) | (refine congrArg V.bool ?_; (first | with_reducible rfl | omega | rfl | (simp; done))) | (refine congrArg V.sl ?_; (first | with_reducible rfl | omega | rfl | (simp; done))) | (first | with_reducible rfl | omega | rfl | (simp; done)) | rfl)))))); (focus (refine ⟨by omega, ?_⟩; rw [hk2]; simp_all [celB])); (focus omega))
        | ((conv => whnf); (refine congrArg V.bool ?_; rw [hk2]; simp_all [celB]; done)))
    · skip
      repeat' (first
          | (with_reducible refine AW.seq ?_) | (with_reducible refine AW.region base (by kernel_rfl) ?_) | (with_reducible refine AW.cond ?_) | (with_reducible refine AW.block ?_) | (with_reducible refine AW.ret ?_) | (with_reducible refine AW.exit ?_) | (with_reducible refine AW.skip ?_)
          | ((conv => whnf); (first
             | (with_reducible refine Br.t ?_)
             | (with_reducible refine Br.f ?_)
             | ((with_reducible refine Or.inl ?_); (conv => whnf); (with_reducible refine And.intro LitSl.mk ?_))
             | (refine Br.t ?_)
             | (refine Br.f ?_)
             | (with_reducible refine Br.mk (fun hb => ?_) (fun hb => (by exfalso; (first | (simp at hb; done) | omega | (simp at hb; omega) | fail))))
             | (with_reducible refine Br.mk (fun hb => (by exfalso; (first | (simp at hb; done) | omega | (simp at hb; omega) | fail))) (fun hb => ?_))
             | (with_reducible refine Or.inl ⟨_, cellIs_fn _ _ _ _ _, ?_⟩)
             | ((with_reducible refine Or.inl ?_); (conv => whnf); (with_reducible refine ⟨_, cellIs_fn _ _ _ _ _, ?_⟩))
             | (with_reducible refine Or.inl ⟨_, cellIsr_fn _ _ _ _ _, ?_⟩)
             | ((with_reducible refine Or.inl ?_); (conv => whnf); (with_reducible refine ⟨_, cellIsr_fn _ _ _ _ _, ?_⟩))
             | (with_reducible refine Br.mk (fun hb => ?_) (fun hb => ?_) <;> (try rw [hb]) <;> (try simp only [List.length_map, decide_eq_true_eq, decide_eq_false_iff_not, Bool.not_eq_true', Bool.not_eq_false', Int.ofNat_lt, Int.ofNat_le, Int.not_lt, Int.not_le, Int.toNat_natCast] at hb))
             | (with_reducible refine ⟨_, (by first | exact ByteRows.map _ | (repeat (first | exact ByteRows.nil | exact ByteRows.map _ | refine ByteRows.cons ?_ | refine ByteRows.app ?_ ?_))), ?_⟩)
             | (refine Exists.intro _ (And.intro (ByteRows.rep _) ?_))
             | (refine Exists.intro _ (And.intro (ByteRows.app (ByteRows.map _) (ByteRows.cons ByteRows.nil)) ?_))
             | ((with_reducible refine Or.inl (And.intro ?_ ?_)); (focus (first | with_reducible rfl | exact trivial | (exact ⟨rfl, trivial⟩) | (exact ⟨rfl, rfl, trivial⟩) | omega | (intro r hr; simp only [List.mem_singleton] at hr; subst hr; rfl)  | ((simp only [List.length_map] at *; omega)) | ((simp only [in64, maxLen] at *; omega)) | (simp only [in64]; omega) | assumption | (simp; done) | (simp [V.cells]; done) | (simp [in64, maxLen, limK] at *; omega) | ((show confB _ _ = true); kernel_rfl) | rfl)))
             | ((with_reducible refine And.intro ?_ ?_); (focus (first | with_reducible rfl | exact trivial | (exact ⟨rfl, trivial⟩) | (exact ⟨rfl, rfl, trivial⟩) | omega | (intro r hr; simp only [List.mem_singleton] at hr; subst hr; rfl)  | ((simp only [List.length_map] at *; omega)) | ((simp only [in64, maxLen] at *; omega)) | (simp only [in64]; omega) | assumption | (simp; done) | (simp [V.cells]; done) | (simp [in64, maxLen, limK] at *; omega) | ((show confB _ _ = true); kernel_rfl) | rfl)))
             | (intro row hrow; (try simp only [Int.toNat_natCast, List.length_map, toNat_pred, toNat_succ', toNat_zero', toNat_one'] at hrow); (first | (have hsm := same_map (by assumption) hrow; subst hsm; clear hrow) | (obtain ⟨p, hp, rfl⟩ := of_map hrow; clear hrow)))
             | (with_reducible refine AW.seq ?_) | (with_reducible refine AW.region base (by kernel_rfl) ?_) | (with_reducible refine AW.cond ?_) | (with_reducible refine AW.block ?_) | (with_reducible refine AW.ret ?_) | (with_reducible refine AW.exit ?_) | (with_reducible refine AW.skip ?_))))
      all_goals (try first | with_reducible assumption | ((show (_ : Int) ≤ _); (first | omega | (simp at *; omega) | (simp; done) | (simp [maxLen]; done))) | ((show (_ : Nat) ≤ _); (first | omega | (simp at *; omega) | (simp; done) | (simp [maxLen]; done))) | ((show in64 _); (simp only [in64] at *; (first | omega | (simp at *; omega) | (simp; done) | (simp [maxLen]; done)))) | ((show (_ : Int) < _); (first | omega | (simp at *; omega) | (simp; done) | (simp [maxLen]; done))) | ((show ¬ (_ : Int) = _); (first | omega | (simp at *; omega) | (simp; done) | (simp [maxLen]; done))) | ((with_reducible refine And.intro ?_ ?_) <;> (first | omega | (simp at *; omega) | (simp; done) | (simp [maxLen]; done))))
      all_goals (first
        | (with_reducible exact absurd rfl (by assumption))
        | ((conv => whnf); (refine ⟨i + 1, ?_⟩); (refine And.intro ?_ (And.intro ?_ ?_)); (focus (refine ⟨⟨[], ?_⟩⟩; repeat' (first | (with_reducible rfl) | exact trivial | ((conv => whnf); (first | (with_reducible refine And.intro ?_ ?_) | (first | with_reducible rfl | (refine congrArg V.str ?_; (first | with_reducible rfl | omega | rfl | (simp; done))) | (refine congrArg (V.int _) ?_; (first | with_reducible rfl | omega | rfl | (simp; done))) | (refine congrArg V.bool ?_; (first | with_reducible rfl | omega | rfl | (simp; done))) | (refine congrArg V.sl ?_; (first | with_reducible rfl | omega | rfl | (simp; done))) | (first | with_reducible rfl | omega | rfl | (simp; done)) | rfl)))))); (focus (refine ⟨by omega, ?_⟩; rw [hk2]; simp_all [celB])); (focus omega))
        | ((conv => whnf); (refine congrArg V.bool ?_; rw [hk2]; simp_all [celB]; done)))


set_option maxRecDepth 100000 in
set_option maxHeartbeats 400000 in
theorem get_fn (c : List Cel) (k : Bs) : Fn Try.prog 38 [.sl (c.map encC), .str k] (.tup [.agg [.str k, .str (cellOf c k).v, .int .i64 (cellOf c k).n, .bool (cellOf c k).d, .int .i64 (cellOf c k).f], .bool (getC c k).isSome]) := by
  refine Fn.mk' base Try.func38 rfl rfl rfl ?_
  refine AW.len 0 rfl (fun hlen => ?_)
  simp only [List.length_map, maxLen] at hlen
  repeat' (first
      | (with_reducible refine AW.seq ?_) | (with_reducible refine AW.region base (by kernel_rfl) ?_) | (with_reducible refine AW.cond ?_) | (with_reducible refine AW.block ?_) | (with_reducible refine AW.ret ?_) | (with_reducible refine AW.exit ?_) | (with_reducible refine AW.skip ?_)
      | ((conv => whnf); (first
         | (with_reducible refine Br.t ?_)
         | (with_reducible refine Br.f ?_)
         | ((with_reducible refine Or.inl ?_); (conv => whnf); (with_reducible refine And.intro LitSl.mk ?_))
         | (refine Br.t ?_)
         | (refine Br.f ?_)
         | (with_reducible refine Br.mk (fun hb => ?_) (fun hb => ?_) <;> (try rw [hb]) <;> (try simp only [List.length_map, decide_eq_true_eq, decide_eq_false_iff_not, Bool.not_eq_true', Bool.not_eq_false', Int.ofNat_lt, Int.ofNat_le, Int.not_lt, Int.not_le, Int.toNat_natCast] at hb))
         | (with_reducible refine ⟨_, (by first | exact ByteRows.map _ | (repeat (first | exact ByteRows.nil | exact ByteRows.map _ | refine ByteRows.cons ?_ | refine ByteRows.app ?_ ?_))), ?_⟩)
         | (refine Exists.intro _ (And.intro (ByteRows.rep _) ?_))
         | (refine Exists.intro _ (And.intro (ByteRows.app (ByteRows.map _) (ByteRows.cons ByteRows.nil)) ?_))
         | ((with_reducible refine Or.inl (And.intro ?_ ?_)); (focus (first | with_reducible rfl | exact trivial | (exact ⟨rfl, trivial⟩) | (exact ⟨rfl, rfl, trivial⟩) | omega | (intro r hr; simp only [List.mem_singleton] at hr; subst hr; rfl)  | ((simp only [List.length_map] at *; omega)) | ((simp only [in64, maxLen] at *; omega)) | (simp only [in64]; omega) | assumption | (simp; done) | (simp [V.cells]; done) | (simp [in64, maxLen, limK] at *; omega) | ((show confB _ _ = true); kernel_rfl) | rfl)))
         | ((with_reducible refine And.intro ?_ ?_); (focus (first | with_reducible rfl | exact trivial | (exact ⟨rfl, trivial⟩) | (exact ⟨rfl, rfl, trivial⟩) | omega | (intro r hr; simp only [List.mem_singleton] at hr; subst hr; rfl)  | ((simp only [List.length_map] at *; omega)) | ((simp only [in64, maxLen] at *; omega)) | (simp only [in64]; omega) | assumption | (simp; done) | (simp [V.cells]; done) | (simp [in64, maxLen, limK] at *; omega) | ((show confB _ _ = true); kernel_rfl) | rfl)))
         | (intro row hrow; (try simp only [Int.toNat_natCast, List.length_map, toNat_pred, toNat_succ', toNat_zero', toNat_one'] at hrow); (first | (have hsm := same_map (by assumption) hrow; subst hsm; clear hrow) | (obtain ⟨p, hp, rfl⟩ := of_map hrow; clear hrow)))
         | (with_reducible refine AW.seq ?_) | (with_reducible refine AW.region base (by kernel_rfl) ?_) | (with_reducible refine AW.cond ?_) | (with_reducible refine AW.block ?_) | (with_reducible refine AW.ret ?_) | (with_reducible refine AW.exit ?_) | (with_reducible refine AW.skip ?_))))
  refine AW.loop (fun (i : Nat) => i ≤ c.length ∧ getC c k = getC (c.drop i) k) (fun (i : Nat) => ⟨[(0, .sl (c.map encC)), (1, .str k), (4, .ptr 0 0), (8, .sl (c.map encC)), (9, .int .i64 ((c.map encC).length : Int)), (10, .int .i64 (i : Int))], [.cells [.str [], .str [], .int .i64 0, .bool false, .int .i64 0]]⟩) (fun (i : Nat) => c.length - i) 0 ?_ ?_ ?_
  · (exact ⟨Nat.zero_le _, rfl⟩)
  · (refine ⟨⟨[1000], ?_⟩⟩; repeat' (first | (with_reducible rfl) | exact trivial | ((conv => whnf); (first | (with_reducible refine And.intro ?_ ?_) | (first | with_reducible rfl | (refine congrArg V.str ?_; (first | with_reducible rfl | omega | rfl | (simp; done))) | (refine congrArg (V.int _) ?_; (first | with_reducible rfl | omega | rfl | (simp; done))) | (refine congrArg V.bool ?_; (first | with_reducible rfl | omega | rfl | (simp; done))) | (refine congrArg V.sl ?_; (first | with_reducible rfl | omega | rfl | (simp; done))) | (first | with_reducible rfl | omega | rfl | (simp; done)) | rfl)))))
  · rintro i hk
    repeat' (first
        | (with_reducible refine AW.seq ?_) | (with_reducible refine AW.region base (by kernel_rfl) ?_) | (with_reducible refine AW.cond ?_) | (with_reducible refine AW.block ?_) | (with_reducible refine AW.ret ?_) | (with_reducible refine AW.exit ?_) | (with_reducible refine AW.skip ?_)
        | ((conv => whnf); (first
           | (with_reducible refine Br.t ?_)
           | (with_reducible refine Br.f ?_)
           | ((with_reducible refine Or.inl ?_); (conv => whnf); (with_reducible refine And.intro LitSl.mk ?_))
           | (refine Br.t ?_)
           | (refine Br.f ?_)
           | (with_reducible refine Br.mk (fun hb => ?_) (fun hb => ?_) <;> (try rw [hb]) <;> (try simp only [List.length_map, decide_eq_true_eq, decide_eq_false_iff_not, Bool.not_eq_true', Bool.not_eq_false', Int.ofNat_lt, Int.ofNat_le, Int.not_lt, Int.not_le, Int.toNat_natCast] at hb))
           | (with_reducible refine ⟨_, (by first | exact ByteRows.map _ | (repeat (first | exact ByteRows.nil | exact ByteRows.map _ | refine ByteRows.cons ?_ | refine ByteRows.app ?_ ?_))), ?_⟩)
           | (refine Exists.intro _ (And.intro (ByteRows.rep _) ?_))
           | (refine Exists.intro _ (And.intro (ByteRows.app (ByteRows.map _) (ByteRows.cons ByteRows.nil)) ?_))
           | ((with_reducible refine Or.inl (And.intro ?_ ?_)); (focus (first | with_reducible rfl | exact trivial | (exact ⟨rfl, trivial⟩) | (exact ⟨rfl, rfl, trivial⟩) | omega | (intro r hr; simp only [List.mem_singleton] at hr; subst hr; rfl)  | ((simp only [List.length_map] at *; omega)) | ((simp only [in64, maxLen] at *; omega)) | (simp only [in64]; omega) | assumption | (simp; done) | (simp [V.cells]; done) | (simp [in64, maxLen, limK] at *; omega) | ((show confB _ _ = true); kernel_rfl) | rfl)))
           | ((with_reducible refine And.intro ?_ ?_); (focus (first | with_reducible rfl | exact trivial | (exact ⟨rfl, trivial⟩) | (exact ⟨rfl, rfl, trivial⟩) | omega | (intro r hr; simp only [List.mem_singleton] at hr; subst hr; rfl)  | ((simp only [List.length_map] at *; omega)) | ((simp only [in64, maxLen] at *; omega)) | (simp only [in64]; omega) | assumption | (simp; done) | (simp [V.cells]; done) | (simp [in64, maxLen, limK] at *; omega) | ((show confB _ _ = true); kernel_rfl) | rfl)))
           | (intro row hrow; (try simp only [Int.toNat_natCast, List.length_map, toNat_pred, toNat_succ', toNat_zero', toNat_one'] at hrow); (first | (have hsm := same_map (by assumption) hrow; subst hsm; clear hrow) | (obtain ⟨p, hp, rfl⟩ := of_map hrow; clear hrow)))
           | (with_reducible refine AW.seq ?_) | (with_reducible refine AW.region base (by kernel_rfl) ?_) | (with_reducible refine AW.cond ?_) | (with_reducible refine AW.block ?_) | (with_reducible refine AW.ret ?_) | (with_reducible refine AW.exit ?_) | (with_reducible refine AW.skip ?_))))
    all_goals (try first | with_reducible assumption | ((show (_ : Int) ≤ _); (first | omega | (simp at *; omega))) | ((show (_ : Nat) ≤ _); (first | omega | (simp at *; omega))) | ((show in64 _); (simp only [in64] at *; (first | omega | (simp at *; omega)))) | ((show (_ : Int) < _); (first | omega | (simp at *; omega))) | ((show ¬ (_ : Int) = _); (first | omega | (simp at *; omega))) | ((with_reducible refine And.intro ?_ ?_) <;> (first | omega | (simp at *; omega))))
    all_goals (first
      | (with_reducible exact absurd rfl (by assumption))
      | ((conv => whnf); (refine ⟨(i + 1), ?_⟩); (refine And.intro ?_ (And.intro ?_ ?_)); (focus (refine ⟨⟨[0], ?_⟩⟩; repeat' (first | (with_reducible rfl) | exact trivial | ((conv => whnf); (first | (with_reducible refine And.intro ?_ ?_) | (first | with_reducible rfl | (refine congrArg V.str ?_; (first | with_reducible rfl | omega | rfl | (simp; done))) | (refine congrArg (V.int _) ?_; (first | with_reducible rfl | omega | rfl | (simp; done))) | (refine congrArg V.bool ?_; (first | with_reducible rfl | omega | rfl | (simp; done))) | (refine congrArg V.sl ?_; (first | with_reducible rfl | omega | rfl | (simp; done))) | (first | with_reducible rfl | omega | rfl | (simp; done)) | rfl)))))); (focus (refine ⟨by omega, ?_⟩; rw [hk.2, drop_get hp, getC_cons, if_neg (by simpa using hb)])); (focus (first | omega | (dsimp only; omega) | (simp; done) | (simp; omega) | (simp at *; omega))))
      | ((conv => whnf); (try (first | rfl | (exfalso; simp_all; done) | (exfalso; simp at *; omega) | (have e : getC c k = some p := (by rw [hk.2, drop_get hp, getC_cons, if_pos (by simpa using hb)]); have hpk : p.k = k := (by simpa using hb); simp [cellOf, e, hpk]; done) | (have e : getC c k = none := (by rw [hk.2, List.drop_of_length_le (by simp at *; omega)]; rfl); simp [cellOf, e, cel0]; done))); done))


set_option maxRecDepth 100000 in
set_option maxHeartbeats 400000 in
theorem getr_fn (c : List Cel) (k : Bs) : Fn Try.prog 20 [.sl (c.map encC), .str k] (.tup [.agg [.str k, .str (cellOf c k).v, .int .i64 (cellOf c k).n, .bool (cellOf c k).d, .int .i64 (cellOf c k).f], .bool (getC c k).isSome]) := by
  refine Fn.mk' base Try.func20 rfl rfl rfl ?_
  refine AW.len 0 rfl (fun hlen => ?_)
  simp only [List.length_map, maxLen] at hlen
  repeat' (first
      | (with_reducible refine AW.seq ?_) | (with_reducible refine AW.region base (by kernel_rfl) ?_) | (with_reducible refine AW.cond ?_) | (with_reducible refine AW.block ?_) | (with_reducible refine AW.ret ?_) | (with_reducible refine AW.exit ?_) | (with_reducible refine AW.skip ?_)
      | ((conv => whnf); (first
         | (with_reducible refine Br.t ?_)
         | (with_reducible refine Br.f ?_)
         | ((with_reducible refine Or.inl ?_); (conv => whnf); (with_reducible refine And.intro LitSl.mk ?_))
         | (refine Br.t ?_)
         | (refine Br.f ?_)
         | (with_reducible refine Br.mk (fun hb => ?_) (fun hb => ?_) <;> (try rw [hb]) <;> (try simp only [List.length_map, decide_eq_true_eq, decide_eq_false_iff_not, Bool.not_eq_true', Bool.not_eq_false', Int.ofNat_lt, Int.ofNat_le, Int.not_lt, Int.not_le, Int.toNat_natCast] at hb))
         | (with_reducible refine ⟨_, (by first | exact ByteRows.map _ | (repeat (first | exact ByteRows.nil | exact ByteRows.map _ | refine ByteRows.cons ?_ | refine ByteRows.app ?_ ?_))), ?_⟩)
         | (refine Exists.intro _ (And.intro (ByteRows.rep _) ?_))
         | (refine Exists.intro _ (And.intro (ByteRows.app (ByteRows.map _) (ByteRows.cons ByteRows.nil)) ?_))
         | ((with_reducible refine Or.inl (And.intro ?_ ?_)); (focus (first | with_reducible rfl | exact trivial | (exact ⟨rfl, trivial⟩) | (exact ⟨rfl, rfl, trivial⟩) | omega | (intro r hr; simp only [List.mem_singleton] at hr; subst hr; rfl)  | ((simp only [List.length_map] at *; omega)) | ((simp only [in64, maxLen] at *; omega)) | (simp only [in64]; omega) | assumption | (simp; done) | (simp [V.cells]; done) | (simp [in64, maxLen, limK] at *; omega) | ((show confB _ _ = true); kernel_rfl) | rfl)))
         | ((with_reducible refine And.intro ?_ ?_); (focus (first | with_reducible rfl | exact trivial | (exact ⟨rfl, trivial⟩) | (exact ⟨rfl, rfl, trivial⟩) | omega | (intro r hr; simp only [List.mem_singleton] at hr; subst hr; rfl)  | ((simp only [List.length_map] at *; omega)) | ((simp only [in64, maxLen] at *; omega)) | (simp only [in64]; omega) | assumption | (simp; done) | (simp [V.cells]; done) | (simp [in64, maxLen, limK] at *; omega) | ((show confB _ _ = true); kernel_rfl) | rfl)))
         | (intro row hrow; (try simp only [Int.toNat_natCast, List.length_map, toNat_pred, toNat_succ', toNat_zero', toNat_one'] at hrow); (first | (have hsm := same_map (by assumption) hrow; subst hsm; clear hrow) | (obtain ⟨p, hp, rfl⟩ := of_map hrow; clear hrow)))
         | (with_reducible refine AW.seq ?_) | (with_reducible refine AW.region base (by kernel_rfl) ?_) | (with_reducible refine AW.cond ?_) | (with_reducible refine AW.block ?_) | (with_reducible refine AW.ret ?_) | (with_reducible refine AW.exit ?_) | (with_reducible refine AW.skip ?_))))
  refine AW.loop (fun (i : Nat) => i ≤ c.length ∧ getC c k = getC (c.drop i) k) (fun (i : Nat) => ⟨[(0, .sl (c.map encC)), (1, .str k), (4, .ptr 0 0), (6, .int .i64 (i : Int))], [.cells [.str [], .str [], .int .i64 0, .bool false, .int .i64 0]]⟩) (fun (i : Nat) => c.length - i) 0 ?_ ?_ ?_
  · (exact ⟨Nat.zero_le _, rfl⟩)
  · (refine ⟨⟨[1000], ?_⟩⟩; repeat' (first | (with_reducible rfl) | exact trivial | ((conv => whnf); (first | (with_reducible refine And.intro ?_ ?_) | (first | with_reducible rfl | (refine congrArg V.str ?_; (first | with_reducible rfl | omega | rfl | (simp; done))) | (refine congrArg (V.int _) ?_; (first | with_reducible rfl | omega | rfl | (simp; done))) | (refine congrArg V.bool ?_; (first | with_reducible rfl | omega | rfl | (simp; done))) | (refine congrArg V.sl ?_; (first | with_reducible rfl | omega | rfl | (simp; done))) | (first | with_reducible rfl | omega | rfl | (simp; done)) | rfl)))))
  · rintro i hk
    repeat' (first
        | (with_reducible refine AW.seq ?_) | (with_reducible refine AW.region base (by kernel_rfl) ?_) | (with_reducible refine AW.cond ?_) | (with_reducible refine AW.block ?_) | (with_reducible refine AW.ret ?_) | (with_reducible refine AW.exit ?_) | (with_reducible refine AW.skip ?_)
        | ((conv => whnf); (first
           | (with_reducible refine Br.t ?_)
           | (with_reducible refine Br.f ?_)
           | ((with_reducible refine Or.inl ?_); (conv => whnf); (with_reducible refine And.intro LitSl.mk ?_))
           | (refine Br.t ?_)
           | (refine Br.f ?_)
           | (with_reducible refine Br.mk (fun hb => ?_) (fun hb => ?_) <;> (try rw [hb]) <;> (try simp only [List.length_map, decide_eq_true_eq, decide_eq_false_iff_not, Bool.not_eq_true', Bool.not_eq_false', Int.ofNat_lt, Int.ofNat_le, Int.not_lt, Int.not_le, Int.toNat_natCast] at hb))
           | (with_reducible refine ⟨_, (by first | exact ByteRows.map _ | (repeat (first | exact ByteRows.nil | exact ByteRows.map _ | refine ByteRows.cons ?_ | refine ByteRows.app ?_ ?_))), ?_⟩)
           | (refine Exists.intro _ (And.intro (ByteRows.rep _) ?_))
           | (refine Exists.intro _ (And.intro (ByteRows.app (ByteRows.map _) (ByteRows.cons ByteRows.nil)) ?_))
           | ((with_reducible refine Or.inl (And.intro ?_ ?_)); (focus (first | with_reducible rfl | exact trivial | (exact ⟨rfl, trivial⟩) | (exact ⟨rfl, rfl, trivial⟩) | omega | (intro r hr; simp only [List.mem_singleton] at hr; subst hr; rfl)  | ((simp only [List.length_map] at *; omega)) | ((simp only [in64, maxLen] at *; omega)) | (simp only [in64]; omega) | assumption | (simp; done) | (simp [V.cells]; done) | (simp [in64, maxLen, limK] at *; omega) | ((show confB _ _ = true); kernel_rfl) | rfl)))
           | ((with_reducible refine And.intro ?_ ?_); (focus (first | with_reducible rfl | exact trivial | (exact ⟨rfl, trivial⟩) | (exact ⟨rfl, rfl, trivial⟩) | omega | (intro r hr; simp only [List.mem_singleton] at hr; subst hr; rfl)  | ((simp only [List.length_map] at *; omega)) | ((simp only [in64, maxLen] at *; omega)) | (simp only [in64]; omega) | assumption | (simp; done) | (simp [V.cells]; done) | (simp [in64, maxLen, limK] at *; omega) | ((show confB _ _ = true); kernel_rfl) | rfl)))
           | (intro row hrow; (try simp only [Int.toNat_natCast, List.length_map, toNat_pred, toNat_succ', toNat_zero', toNat_one'] at hrow); (first | (have hsm := same_map (by assumption) hrow; subst hsm; clear hrow) | (obtain ⟨p, hp, rfl⟩ := of_map hrow; clear hrow)))
           | (with_reducible refine AW.seq ?_) | (with_reducible refine AW.region base (by kernel_rfl) ?_) | (with_reducible refine AW.cond ?_) | (with_reducible refine AW.block ?_) | (with_reducible refine AW.ret ?_) | (with_reducible refine AW.exit ?_) | (with_reducible refine AW.skip ?_))))
    all_goals (try first | with_reducible assumption | ((show (_ : Int) ≤ _); (first | omega | (simp at *; omega))) | ((show (_ : Nat) ≤ _); (first | omega | (simp at *; omega))) | ((show in64 _); (simp only [in64] at *; (first | omega | (simp at *; omega)))) | ((show (_ : Int) < _); (first | omega | (simp at *; omega))) | ((show ¬ (_ : Int) = _); (first | omega | (simp at *; omega))) | ((with_reducible refine And.intro ?_ ?_) <;> (first | omega | (simp at *; omega))))
    all_goals (first
      | (with_reducible exact absurd rfl (by assumption))
      | ((conv => whnf); (refine ⟨(i + 1), ?_⟩); (refine And.intro ?_ (And.intro ?_ ?_)); (focus (refine ⟨⟨[0], ?_⟩⟩; repeat' (first | (with_reducible rfl) | exact trivial | ((conv => whnf); (first | (with_reducible refine And.intro ?_ ?_) | (first | with_reducible rfl | (refine congrArg V.str ?_; (first | with_reducible rfl | omega | rfl | (simp; done))) | (refine congrArg (V.int _) ?_; (first | with_reducible rfl | omega | rfl | (simp; done))) | (refine congrArg V.bool ?_; (first | with_reducible rfl | omega | rfl | (simp; done))) | (refine congrArg V.sl ?_; (first | with_reducible rfl | omega | rfl | (simp; done))) | (first | with_reducible rfl | omega | rfl | (simp; done)) | rfl)))))); (focus (refine ⟨by omega, ?_⟩; rw [hk.2, drop_get hp, getC_cons, if_neg (by simpa using hb)])); (focus (first | omega | (dsimp only; omega) | (simp; done) | (simp; omega) | (simp at *; omega))))
      | ((conv => whnf); (try (first | rfl | (exfalso; simp_all; done) | (exfalso; simp at *; omega) | (have e : getC c k = some p := (by rw [hk.2, drop_get hp, getC_cons, if_pos (by simpa using hb)]); have hpk : p.k = k := (by simpa using hb); simp [cellOf, e, hpk]; done) | (have e : getC c k = none := (by rw [hk.2, List.drop_of_length_le (by simp at *; omega)]; rfl); simp [cellOf, e, cel0]; done))); done))


set_option maxRecDepth 100000 in
set_option maxHeartbeats 400000 in
theorem tokenOf_fn (m : List Sn) (k : Bs) : Fn Try.prog 44 [.sl (m.map encN), .str k] (.int .i64 (seenOf m k)) := by
  refine Fn.mk' base Try.func44 rfl rfl rfl ?_
  refine AW.len 0 rfl (fun hlen => ?_)
  simp only [List.length_map, maxLen] at hlen
  repeat' (first
      | (with_reducible refine AW.seq ?_) | (with_reducible refine AW.region base (by kernel_rfl) ?_) | (with_reducible refine AW.cond ?_) | (with_reducible refine AW.block ?_) | (with_reducible refine AW.ret ?_) | (with_reducible refine AW.exit ?_) | (with_reducible refine AW.skip ?_)
      | ((conv => whnf); (first
         | (with_reducible refine Br.t ?_)
         | (with_reducible refine Br.f ?_)
         | ((with_reducible refine Or.inl ?_); (conv => whnf); (with_reducible refine And.intro LitSl.mk ?_))
         | (refine Br.t ?_)
         | (refine Br.f ?_)
         | (with_reducible refine Br.mk (fun hb => ?_) (fun hb => ?_) <;> (try rw [hb]) <;> (try simp only [List.length_map, decide_eq_true_eq, decide_eq_false_iff_not, Bool.not_eq_true', Bool.not_eq_false', Int.ofNat_lt, Int.ofNat_le, Int.not_lt, Int.not_le, Int.toNat_natCast] at hb))
         | (with_reducible refine ⟨_, (by first | exact ByteRows.map _ | (repeat (first | exact ByteRows.nil | exact ByteRows.map _ | refine ByteRows.cons ?_ | refine ByteRows.app ?_ ?_))), ?_⟩)
         | (refine Exists.intro _ (And.intro (ByteRows.rep _) ?_))
         | (refine Exists.intro _ (And.intro (ByteRows.app (ByteRows.map _) (ByteRows.cons ByteRows.nil)) ?_))
         | ((with_reducible refine Or.inl (And.intro ?_ ?_)); (focus (first | with_reducible rfl | exact trivial | (exact ⟨rfl, trivial⟩) | (exact ⟨rfl, rfl, trivial⟩) | omega | (intro r hr; simp only [List.mem_singleton] at hr; subst hr; rfl)  | ((simp only [List.length_map] at *; omega)) | ((simp only [in64, maxLen] at *; omega)) | (simp only [in64]; omega) | assumption | (simp; done) | (simp [V.cells]; done) | (simp [in64, maxLen, limK] at *; omega) | ((show confB _ _ = true); kernel_rfl) | rfl)))
         | ((with_reducible refine And.intro ?_ ?_); (focus (first | with_reducible rfl | exact trivial | (exact ⟨rfl, trivial⟩) | (exact ⟨rfl, rfl, trivial⟩) | omega | (intro r hr; simp only [List.mem_singleton] at hr; subst hr; rfl)  | ((simp only [List.length_map] at *; omega)) | ((simp only [in64, maxLen] at *; omega)) | (simp only [in64]; omega) | assumption | (simp; done) | (simp [V.cells]; done) | (simp [in64, maxLen, limK] at *; omega) | ((show confB _ _ = true); kernel_rfl) | rfl)))
         | (intro row hrow; (try simp only [Int.toNat_natCast, List.length_map, toNat_pred, toNat_succ', toNat_zero', toNat_one'] at hrow); (first | (have hsm := same_map (by assumption) hrow; subst hsm; clear hrow) | (obtain ⟨p, hp, rfl⟩ := of_map hrow; clear hrow)))
         | (with_reducible refine AW.seq ?_) | (with_reducible refine AW.region base (by kernel_rfl) ?_) | (with_reducible refine AW.cond ?_) | (with_reducible refine AW.block ?_) | (with_reducible refine AW.ret ?_) | (with_reducible refine AW.exit ?_) | (with_reducible refine AW.skip ?_))))
  refine AW.loop (fun (i : Nat) => i ≤ m.length ∧ seenOf m k = seenOf (m.drop i) k) (fun (i : Nat) => ⟨[(0, .sl (m.map encN)), (1, .str k), (7, .sl (m.map encN)), (8, .int .i64 ((m.map encN).length : Int)), (9, .int .i64 (i : Int))], []⟩) (fun (i : Nat) => m.length - i) 0 ?_ ?_ ?_
  · (exact ⟨Nat.zero_le _, rfl⟩)
  · (refine ⟨⟨[], ?_⟩⟩; repeat' (first | (with_reducible rfl) | exact trivial | ((conv => whnf); (first | (with_reducible refine And.intro ?_ ?_) | (first | with_reducible rfl | (refine congrArg V.str ?_; (first | with_reducible rfl | omega | rfl | (simp; done))) | (refine congrArg (V.int _) ?_; (first | with_reducible rfl | omega | rfl | (simp; done))) | (refine congrArg V.bool ?_; (first | with_reducible rfl | omega | rfl | (simp; done))) | (refine congrArg V.sl ?_; (first | with_reducible rfl | omega | rfl | (simp; done))) | (first | with_reducible rfl | omega | rfl | (simp; done)) | rfl)))))
  · rintro i hk
    repeat' (first
        | (with_reducible refine AW.seq ?_) | (with_reducible refine AW.region base (by kernel_rfl) ?_) | (with_reducible refine AW.cond ?_) | (with_reducible refine AW.block ?_) | (with_reducible refine AW.ret ?_) | (with_reducible refine AW.exit ?_) | (with_reducible refine AW.skip ?_)
        | ((conv => whnf); (first
           | (with_reducible refine Br.t ?_)
           | (with_reducible refine Br.f ?_)
           | ((with_reducible refine Or.inl ?_); (conv => whnf); (with_reducible refine And.intro LitSl.mk ?_))
           | (refine Br.t ?_)
           | (refine Br.f ?_)
           | (with_reducible refine Br.mk (fun hb => ?_) (fun hb => ?_) <;> (try rw [hb]) <;> (try simp only [List.length_map, decide_eq_true_eq, decide_eq_false_iff_not, Bool.not_eq_true', Bool.not_eq_false', Int.ofNat_lt, Int.ofNat_le, Int.not_lt, Int.not_le, Int.toNat_natCast] at hb))
           | (with_reducible refine ⟨_, (by first | exact ByteRows.map _ | (repeat (first | exact ByteRows.nil | exact ByteRows.map _ | refine ByteRows.cons ?_ | refine ByteRows.app ?_ ?_))), ?_⟩)
           | (refine Exists.intro _ (And.intro (ByteRows.rep _) ?_))
           | (refine Exists.intro _ (And.intro (ByteRows.app (ByteRows.map _) (ByteRows.cons ByteRows.nil)) ?_))
           | ((with_reducible refine Or.inl (And.intro ?_ ?_)); (focus (first | with_reducible rfl | exact trivial | (exact ⟨rfl, trivial⟩) | (exact ⟨rfl, rfl, trivial⟩) | omega | (intro r hr; simp only [List.mem_singleton] at hr; subst hr; rfl)  | ((simp only [List.length_map] at *; omega)) | ((simp only [in64, maxLen] at *; omega)) | (simp only [in64]; omega) | assumption | (simp; done) | (simp [V.cells]; done) | (simp [in64, maxLen, limK] at *; omega) | ((show confB _ _ = true); kernel_rfl) | rfl)))
           | ((with_reducible refine And.intro ?_ ?_); (focus (first | with_reducible rfl | exact trivial | (exact ⟨rfl, trivial⟩) | (exact ⟨rfl, rfl, trivial⟩) | omega | (intro r hr; simp only [List.mem_singleton] at hr; subst hr; rfl)  | ((simp only [List.length_map] at *; omega)) | ((simp only [in64, maxLen] at *; omega)) | (simp only [in64]; omega) | assumption | (simp; done) | (simp [V.cells]; done) | (simp [in64, maxLen, limK] at *; omega) | ((show confB _ _ = true); kernel_rfl) | rfl)))
           | (intro row hrow; (try simp only [Int.toNat_natCast, List.length_map, toNat_pred, toNat_succ', toNat_zero', toNat_one'] at hrow); (first | (have hsm := same_map (by assumption) hrow; subst hsm; clear hrow) | (obtain ⟨p, hp, rfl⟩ := of_map hrow; clear hrow)))
           | (with_reducible refine AW.seq ?_) | (with_reducible refine AW.region base (by kernel_rfl) ?_) | (with_reducible refine AW.cond ?_) | (with_reducible refine AW.block ?_) | (with_reducible refine AW.ret ?_) | (with_reducible refine AW.exit ?_) | (with_reducible refine AW.skip ?_))))
    all_goals (try first | with_reducible assumption | ((show (_ : Int) ≤ _); (first | omega | (simp at *; omega))) | ((show (_ : Nat) ≤ _); (first | omega | (simp at *; omega))) | ((show in64 _); (simp only [in64] at *; (first | omega | (simp at *; omega)))) | ((show (_ : Int) < _); (first | omega | (simp at *; omega))) | ((show ¬ (_ : Int) = _); (first | omega | (simp at *; omega))) | ((with_reducible refine And.intro ?_ ?_) <;> (first | omega | (simp at *; omega))))
    all_goals (first
      | (with_reducible exact absurd rfl (by assumption))
      | ((conv => whnf); (refine ⟨(i + 1), ?_⟩); (refine And.intro ?_ (And.intro ?_ ?_)); (focus (refine ⟨⟨[], ?_⟩⟩; repeat' (first | (with_reducible rfl) | exact trivial | ((conv => whnf); (first | (with_reducible refine And.intro ?_ ?_) | (first | with_reducible rfl | (refine congrArg V.str ?_; (first | with_reducible rfl | omega | rfl | (simp; done))) | (refine congrArg (V.int _) ?_; (first | with_reducible rfl | omega | rfl | (simp; done))) | (refine congrArg V.bool ?_; (first | with_reducible rfl | omega | rfl | (simp; done))) | (refine congrArg V.sl ?_; (first | with_reducible rfl | omega | rfl | (simp; done))) | (first | with_reducible rfl | omega | rfl | (simp; done)) | rfl)))))); (focus (refine ⟨by omega, ?_⟩; rw [hk.2, drop_get hp, seenOf_cons, if_neg (by simpa using hb)])); (focus (first | omega | (dsimp only; omega) | (simp; done) | (simp; omega) | (simp at *; omega))))
      | ((conv => whnf); (try (first | rfl | (exfalso; simp_all; done) | (exfalso; simp at *; omega) | (refine congrArg (V.int _) ?_; rw [hk.2, drop_get hp, seenOf_cons, if_pos (by simpa using hb)]) | (refine congrArg (V.int _) ?_; rw [hk.2, List.drop_of_length_le (by simp at *; omega)]; rfl))); done))


set_option maxRecDepth 100000 in
set_option maxHeartbeats 1000000 in
theorem of_fn (l : List Evt) (c : Cel) (he : ∀ e ∈ l, evtB e = true) (hc : celB c = true) : Fn Try.prog 42 [.sl (l.map encE), .agg [.str c.k, .str c.v, .int .i64 c.n, .bool c.d, .int .i64 c.f]] (.bool (ofB c c.f c.v c.d l)) := by
  refine Fn.mk' base Try.func42 rfl rfl rfl ?_
  refine AW.len 0 rfl (fun hlen => ?_)
  simp only [List.length_map, maxLen] at hlen
  repeat' (first
      | (with_reducible refine AW.seq ?_) | (with_reducible refine AW.region base (by kernel_rfl) ?_) | (with_reducible refine AW.cond ?_) | (with_reducible refine AW.block ?_) | (with_reducible refine AW.ret ?_) | (with_reducible refine AW.exit ?_) | (with_reducible refine AW.skip ?_)
      | ((conv => whnf); (first
         | (with_reducible refine Br.t ?_)
         | (with_reducible refine Br.f ?_)
         | ((with_reducible refine Or.inl ?_); (conv => whnf); (with_reducible refine And.intro LitSl.mk ?_))
         | (refine Br.t ?_)
         | (refine Br.f ?_)
         | (with_reducible refine Br.mk (fun hb => ?_) (fun hb => ?_) <;> (try rw [hb]) <;> (try simp only [List.length_map, decide_eq_true_eq, decide_eq_false_iff_not, Bool.not_eq_true', Bool.not_eq_false', Int.ofNat_lt, Int.ofNat_le, Int.not_lt, Int.not_le, Int.toNat_natCast] at hb))
         | (with_reducible refine ⟨_, (by first | exact ByteRows.map _ | (repeat (first | exact ByteRows.nil | exact ByteRows.map _ | refine ByteRows.cons ?_ | refine ByteRows.app ?_ ?_))), ?_⟩)
         | (refine Exists.intro _ (And.intro (ByteRows.rep _) ?_))
         | (refine Exists.intro _ (And.intro (ByteRows.app (ByteRows.map _) (ByteRows.cons ByteRows.nil)) ?_))
         | ((with_reducible refine Or.inl (And.intro ?_ ?_)); (focus (first | with_reducible rfl | exact trivial | (exact ⟨rfl, trivial⟩) | (exact ⟨rfl, rfl, trivial⟩) | omega | (intro r hr; simp only [List.mem_singleton] at hr; subst hr; rfl)  | ((simp only [List.length_map] at *; omega)) | ((simp only [in64, maxLen] at *; omega)) | (simp only [in64]; omega) | assumption | (simp; done) | (simp [V.cells]; done) | (simp [in64, maxLen, limK] at *; omega) | ((show confB _ _ = true); kernel_rfl) | rfl)))
         | ((with_reducible refine And.intro ?_ ?_); (focus (first | with_reducible rfl | exact trivial | (exact ⟨rfl, trivial⟩) | (exact ⟨rfl, rfl, trivial⟩) | omega | (intro r hr; simp only [List.mem_singleton] at hr; subst hr; rfl)  | ((simp only [List.length_map] at *; omega)) | ((simp only [in64, maxLen] at *; omega)) | (simp only [in64]; omega) | assumption | (simp; done) | (simp [V.cells]; done) | (simp [in64, maxLen, limK] at *; omega) | ((show confB _ _ = true); kernel_rfl) | rfl)))
         | (intro row hrow; (try simp only [Int.toNat_natCast, List.length_map, toNat_pred, toNat_succ', toNat_zero', toNat_one'] at hrow); (first | (have hsm := same_map (by assumption) hrow; subst hsm; clear hrow) | (obtain ⟨p, hp, rfl⟩ := of_map hrow; clear hrow)))
         | (with_reducible refine AW.seq ?_) | (with_reducible refine AW.region base (by kernel_rfl) ?_) | (with_reducible refine AW.cond ?_) | (with_reducible refine AW.block ?_) | (with_reducible refine AW.ret ?_) | (with_reducible refine AW.exit ?_) | (with_reducible refine AW.skip ?_))))
  refine AW.loop (fun (⟨i, a, lk, ln, lv, ld⟩ : Nat × Int × Bs × Int × Bs × Bool) => i ≤ l.length ∧ ofB c c.f c.v c.d l = ofB c a lv ld (l.drop i) ∧ 0 ≤ a ∧ a ≤ 1000000000000) (fun (⟨i, a, lk, ln, lv, ld⟩ : Nat × Int × Bs × Int × Bs × Bool) => ⟨[(0, .sl (l.map encE)), (3, .ptr 0 0), (5, .int .i64 a), (6, .ptr 1 0), (16, .sl (l.map encE)), (17, .int .i64 ((l.map encE).length : Int)), (18, .int .i64 (i : Int))], [.cells [.str c.k, .str c.v, .int .i64 c.n, .bool c.d, .int .i64 c.f], .cells [.str lk, .int .i64 ln, .str lv, .bool ld]]⟩) (fun (⟨i, a, lk, ln, lv, ld⟩ : Nat × Int × Bs × Int × Bs × Bool) => l.length - i) (0, c.f, [], 0, c.v, c.d) ?_ ?_ ?_
  · (exact ⟨Nat.zero_le _, rfl, celB_f hc⟩)
  · (refine ⟨⟨[1000, 3005], ?_⟩⟩; repeat' (first | (with_reducible rfl) | exact trivial | ((conv => whnf); (first | (with_reducible refine And.intro ?_ ?_) | (first | with_reducible rfl | (refine congrArg V.str ?_; (first | with_reducible rfl | omega | rfl | (simp; done))) | (refine congrArg (V.int _) ?_; (first | with_reducible rfl | omega | rfl | (simp; done))) | (refine congrArg V.bool ?_; (first | with_reducible rfl | omega | rfl | (simp; done))) | (refine congrArg V.sl ?_; (first | with_reducible rfl | omega | rfl | (simp; done))) | (first | with_reducible rfl | omega | rfl | (simp; done)) | rfl)))))
  · rintro ⟨i, a, lk, ln, lv, ld⟩ hk
    obtain ⟨hk1, hk2, hk3, hk4⟩ := hk
    rcases (by omega : i = l.length ∨ i < l.length) with hi | hi
    · subst hi
      rw [List.drop_length] at hk2
      repeat' (first
          | (with_reducible refine AW.seq ?_) | (with_reducible refine AW.region base (by kernel_rfl) ?_) | (with_reducible refine AW.cond ?_) | (with_reducible refine AW.block ?_) | (with_reducible refine AW.ret ?_) | (with_reducible refine AW.exit ?_) | (with_reducible refine AW.skip ?_)
          | ((conv => whnf); (first
             | (with_reducible refine Br.t ?_)
             | (with_reducible refine Br.f ?_)
             | ((with_reducible refine Or.inl ?_); (conv => whnf); (with_reducible refine And.intro LitSl.mk ?_))
             | (refine Br.t ?_)
             | (refine Br.f ?_)
             | (with_reducible refine Br.mk (fun hb => ?_) (fun hb => (by exfalso; (first | (simp at hb; done) | omega | (simp at hb; omega) | fail))))
             | (with_reducible refine Br.mk (fun hb => (by exfalso; (first | (simp at hb; done) | omega | (simp at hb; omega) | fail))) (fun hb => ?_))
             | (with_reducible refine Br.mk (fun hb => ?_) (fun hb => ?_) <;> (try rw [hb]) <;> (try simp only [List.length_map, decide_eq_true_eq, decide_eq_false_iff_not, Bool.not_eq_true', Bool.not_eq_false', Int.ofNat_lt, Int.ofNat_le, Int.not_lt, Int.not_le, Int.toNat_natCast] at hb))
             | (with_reducible refine ⟨_, (by first | exact ByteRows.map _ | (repeat (first | exact ByteRows.nil | exact ByteRows.map _ | refine ByteRows.cons ?_ | refine ByteRows.app ?_ ?_))), ?_⟩)
             | (refine Exists.intro _ (And.intro (ByteRows.rep _) ?_))
             | (refine Exists.intro _ (And.intro (ByteRows.app (ByteRows.map _) (ByteRows.cons ByteRows.nil)) ?_))
             | ((with_reducible refine Or.inl (And.intro ?_ ?_)); (focus (first | with_reducible rfl | exact trivial | (exact ⟨rfl, trivial⟩) | (exact ⟨rfl, rfl, trivial⟩) | omega | (intro r hr; simp only [List.mem_singleton] at hr; subst hr; rfl)  | ((simp only [List.length_map] at *; omega)) | ((simp only [in64, maxLen] at *; omega)) | (simp only [in64]; omega) | assumption | (simp; done) | (simp [V.cells]; done) | (simp [in64, maxLen, limK] at *; omega) | ((show confB _ _ = true); kernel_rfl) | rfl)))
             | ((with_reducible refine And.intro ?_ ?_); (focus (first | with_reducible rfl | exact trivial | (exact ⟨rfl, trivial⟩) | (exact ⟨rfl, rfl, trivial⟩) | omega | (intro r hr; simp only [List.mem_singleton] at hr; subst hr; rfl)  | ((simp only [List.length_map] at *; omega)) | ((simp only [in64, maxLen] at *; omega)) | (simp only [in64]; omega) | assumption | (simp; done) | (simp [V.cells]; done) | (simp [in64, maxLen, limK] at *; omega) | ((show confB _ _ = true); kernel_rfl) | rfl)))
             | (intro row hrow; (try simp only [Int.toNat_natCast, List.length_map, toNat_pred, toNat_succ', toNat_zero', toNat_one'] at hrow); (first | (have hsm := same_map (by assumption) hrow; subst hsm; clear hrow) | (obtain ⟨p, hp, rfl⟩ := of_map hrow; clear hrow)))
             | (with_reducible refine AW.seq ?_) | (with_reducible refine AW.region base (by kernel_rfl) ?_) | (with_reducible refine AW.cond ?_) | (with_reducible refine AW.block ?_) | (with_reducible refine AW.ret ?_) | (with_reducible refine AW.exit ?_) | (with_reducible refine AW.skip ?_))))
      all_goals ((conv => whnf); (refine congrArg V.bool ?_; rw [hk2]; simp only [ofB]; simp_all [beqb_dec]))
    obtain ⟨p, hp⟩ : ∃ p, l[i]? = some p := ⟨_, List.getElem?_eq_getElem hi⟩
    rw [drop_get hp, ofB] at hk2
    have hen := evtB_n (he p (List.mem_of_getElem? hp))
    repeat' (first
        | (with_reducible refine AW.seq ?_) | (with_reducible refine AW.region base (by kernel_rfl) ?_) | (with_reducible refine AW.cond ?_) | (with_reducible refine AW.block ?_) | (with_reducible refine AW.ret ?_) | (with_reducible refine AW.exit ?_) | (with_reducible refine AW.skip ?_)
        | ((conv => whnf); (first
           | (with_reducible refine Br.t ?_)
           | (with_reducible refine Br.f ?_)
           | ((with_reducible refine Or.inl ?_); (conv => whnf); (with_reducible refine And.intro LitSl.mk ?_))
           | (refine Br.t ?_)
           | (refine Br.f ?_)
           | (with_reducible refine Br.mk (fun hb => ?_) (fun hb => ?_) <;> (try rw [hb]) <;> (try simp only [List.length_map, decide_eq_true_eq, decide_eq_false_iff_not, Bool.not_eq_true', Bool.not_eq_false', Int.ofNat_lt, Int.ofNat_le, Int.not_lt, Int.not_le, Int.toNat_natCast] at hb))
           | (with_reducible refine ⟨_, (by first | exact ByteRows.map _ | (repeat (first | exact ByteRows.nil | exact ByteRows.map _ | refine ByteRows.cons ?_ | refine ByteRows.app ?_ ?_))), ?_⟩)
           | (refine Exists.intro _ (And.intro (ByteRows.rep _) ?_))
           | (refine Exists.intro _ (And.intro (ByteRows.app (ByteRows.map _) (ByteRows.cons ByteRows.nil)) ?_))
           | ((with_reducible refine Or.inl (And.intro ?_ ?_)); (focus (first | with_reducible rfl | exact trivial | (exact ⟨rfl, trivial⟩) | (exact ⟨rfl, rfl, trivial⟩) | omega | (intro r hr; simp only [List.mem_singleton] at hr; subst hr; rfl)  | ((simp only [List.length_map] at *; omega)) | ((simp only [in64, maxLen] at *; omega)) | (simp only [in64]; omega) | assumption | (simp; done) | (simp [V.cells]; done) | (simp [in64, maxLen, limK] at *; omega) | ((show confB _ _ = true); kernel_rfl) | rfl)))
           | ((with_reducible refine And.intro ?_ ?_); (focus (first | with_reducible rfl | exact trivial | (exact ⟨rfl, trivial⟩) | (exact ⟨rfl, rfl, trivial⟩) | omega | (intro r hr; simp only [List.mem_singleton] at hr; subst hr; rfl)  | ((simp only [List.length_map] at *; omega)) | ((simp only [in64, maxLen] at *; omega)) | (simp only [in64]; omega) | assumption | (simp; done) | (simp [V.cells]; done) | (simp [in64, maxLen, limK] at *; omega) | ((show confB _ _ = true); kernel_rfl) | rfl)))
           | (intro row hrow; (try simp only [Int.toNat_natCast, List.length_map, toNat_pred, toNat_succ', toNat_zero', toNat_one'] at hrow); (first | (have hsm := same_map (by assumption) hrow; subst hsm; clear hrow) | (obtain ⟨p, hp, rfl⟩ := of_map hrow; clear hrow)))
           | (with_reducible refine AW.seq ?_) | (with_reducible refine AW.region base (by kernel_rfl) ?_) | (with_reducible refine AW.cond ?_) | (with_reducible refine AW.block ?_) | (with_reducible refine AW.ret ?_) | (with_reducible refine AW.exit ?_) | (with_reducible refine AW.skip ?_))))
    all_goals (try first | with_reducible assumption | ((show (_ : Int) ≤ _); (first | omega | (simp at *; omega))) | ((show (_ : Nat) ≤ _); (first | omega | (simp at *; omega))) | ((show in64 _); (simp only [in64] at *; (first | omega | (simp at *; omega)))) | ((show (_ : Int) < _); (first | omega | (simp at *; omega))) | ((show ¬ (_ : Int) = _); (first | omega | (simp at *; omega))) | ((with_reducible refine And.intro ?_ ?_) <;> (first | omega | (simp at *; omega))))
    all_goals (first
      | (with_reducible exact absurd rfl (by assumption))
      | ((conv => whnf); (refine ⟨(i + 1, ?_, ?_, ?_, ?_, ?_), ?_⟩); (rotate_left 5); (refine And.intro ?_ (And.intro ?_ ?_)); (focus (refine ⟨⟨[0, 1], ?_⟩⟩; repeat' (first | (with_reducible rfl) | exact trivial | ((conv => whnf); (first | (with_reducible refine And.intro ?_ ?_) | (first | with_reducible rfl | (refine congrArg V.str ?_; (first | with_reducible rfl | omega | rfl | (simp; done))) | (refine congrArg (V.int _) ?_; (first | with_reducible rfl | omega | rfl | (simp; done))) | (refine congrArg V.bool ?_; (first | with_reducible rfl | omega | rfl | (simp; done))) | (refine congrArg V.sl ?_; (first | with_reducible rfl | omega | rfl | (simp; done))) | (first | with_reducible rfl | omega | rfl | (simp; done)) | rfl)))))); (focus (refine ⟨by omega, ?_, by omega, by omega⟩; rw [hk2]; simp_all)); (focus (first | omega | (dsimp only; omega) | (simp; done) | (simp; omega) | (simp at *; omega))))
      | ((conv => whnf); (try (first | rfl | (exfalso; simp_all; done) | (exfalso; simp at *; omega) | (refine congrArg V.bool ?_; rw [hk2]; simp_all; done))); done))


set_option maxRecDepth 100000 in
set_option maxHeartbeats 400000 in
theorem isL_fn (l : List Evt) (c : Cel) (he : ∀ e ∈ l, evtB e = true) (hc : celB c = true) : Fn Try.prog 41 [.agg [.str c.k, .str c.v, .int .i64 c.n, .bool c.d, .int .i64 c.f], .elt [.sl (l.map encE)] 0] (.bool (!ofB c c.f c.v c.d l)) := by
  refine Fn.mk' base Try.func41 rfl rfl rfl ?_
  repeat' (first
      | (with_reducible refine AW.seq ?_) | (with_reducible refine AW.region base (by kernel_rfl) ?_) | (with_reducible refine AW.cond ?_) | (with_reducible refine AW.block ?_) | (with_reducible refine AW.ret ?_) | (with_reducible refine AW.exit ?_) | (with_reducible refine AW.skip ?_)
      | ((conv => whnf); (first
         | (with_reducible refine Br.t ?_)
         | (with_reducible refine Br.f ?_)
         | ((with_reducible refine Or.inl ?_); (conv => whnf); (with_reducible refine And.intro LitSl.mk ?_))
         | (refine Br.t ?_)
         | (refine Br.f ?_)
         | (with_reducible refine Or.inl ⟨_, of_fn _ c he hc, ?_⟩)
         | ((with_reducible refine Or.inl ?_); (conv => whnf); (with_reducible refine ⟨_, of_fn _ c he hc, ?_⟩))
         | (with_reducible refine Br.mk (fun hb => ?_) (fun hb => ?_) <;> (try rw [hb]) <;> (try simp only [List.length_map, decide_eq_true_eq, decide_eq_false_iff_not, Bool.not_eq_true', Bool.not_eq_false', Int.ofNat_lt, Int.ofNat_le, Int.not_lt, Int.not_le, Int.toNat_natCast] at hb))
         | (with_reducible refine ⟨_, (by first | exact ByteRows.map _ | (repeat (first | exact ByteRows.nil | exact ByteRows.map _ | refine ByteRows.cons ?_ | refine ByteRows.app ?_ ?_))), ?_⟩)
         | (refine Exists.intro _ (And.intro (ByteRows.rep _) ?_))
         | (refine Exists.intro _ (And.intro (ByteRows.app (ByteRows.map _) (ByteRows.cons ByteRows.nil)) ?_))
         | ((with_reducible refine Or.inl (And.intro ?_ ?_)); (focus (first | with_reducible rfl | exact trivial | (exact ⟨rfl, trivial⟩) | (exact ⟨rfl, rfl, trivial⟩) | omega | (intro r hr; simp only [List.mem_singleton] at hr; subst hr; rfl)  | ((simp only [List.length_map] at *; omega)) | ((simp only [in64, maxLen] at *; omega)) | (simp only [in64]; omega) | assumption | (simp; done) | (simp [V.cells]; done) | (simp [in64, maxLen, limK] at *; omega) | ((show confB _ _ = true); kernel_rfl) | rfl)))
         | ((with_reducible refine And.intro ?_ ?_); (focus (first | with_reducible rfl | exact trivial | (exact ⟨rfl, trivial⟩) | (exact ⟨rfl, rfl, trivial⟩) | omega | (intro r hr; simp only [List.mem_singleton] at hr; subst hr; rfl)  | ((simp only [List.length_map] at *; omega)) | ((simp only [in64, maxLen] at *; omega)) | (simp only [in64]; omega) | assumption | (simp; done) | (simp [V.cells]; done) | (simp [in64, maxLen, limK] at *; omega) | ((show confB _ _ = true); kernel_rfl) | rfl)))
         | (intro row hrow; (try simp only [Int.toNat_natCast, List.length_map, toNat_pred, toNat_succ', toNat_zero', toNat_one'] at hrow); (first | (have hsm := same_map (by assumption) hrow; subst hsm; clear hrow) | (obtain ⟨p, hp, rfl⟩ := of_map hrow; clear hrow)))
         | (with_reducible refine AW.seq ?_) | (with_reducible refine AW.region base (by kernel_rfl) ?_) | (with_reducible refine AW.cond ?_) | (with_reducible refine AW.block ?_) | (with_reducible refine AW.ret ?_) | (with_reducible refine AW.exit ?_) | (with_reducible refine AW.skip ?_))))
  all_goals (conv => whnf)
  all_goals (first | rfl | (simp only [V.bool.injEq, V.tup.injEq, V.agg.injEq, V.str.injEq, V.int.injEq, V.sl.injEq, V.ifc.injEq, List.cons.injEq, and_true, true_and, and_self]; done) | (simp only [V.bool.injEq, V.tup.injEq, V.agg.injEq, V.str.injEq, V.int.injEq, V.sl.injEq, V.ifc.injEq, List.cons.injEq, and_true, true_and, and_self]; grind) | (simp  at *; done) | (simp  at *; grind))

set_option maxRecDepth 100000 in
set_option maxHeartbeats 400000 in
theorem indexFunc_fn (l : List Evt) (c : List Cel) (he : ∀ e ∈ l, evtB e = true) (hc : ∀ x ∈ c, celB x = true) : Fn Try.prog 54 [.sl (c.map encC), .fn 41 [.elt [.sl (l.map encE)] 0]] (.int .i64 (idx0 (fun x => !ofB x x.f x.v x.d l) c 0)) := by
  refine Fn.mk' base Try.func54 rfl rfl rfl ?_
  refine AW.len 0 rfl (fun hlen => ?_)
  simp only [List.length_map, maxLen] at hlen
  repeat' (first
      | (with_reducible refine AW.seq ?_) | (with_reducible refine AW.region base (by kernel_rfl) ?_) | (with_reducible refine AW.cond ?_) | (with_reducible refine AW.block ?_) | (with_reducible refine AW.ret ?_) | (with_reducible refine AW.exit ?_) | (with_reducible refine AW.skip ?_)
      | ((conv => whnf); (first
         | (with_reducible refine Br.t ?_)
         | (with_reducible refine Br.f ?_)
         | ((with_reducible refine Or.inl ?_); (conv => whnf); (with_reducible refine And.intro LitSl.mk ?_))
         | (refine Br.t ?_)
         | (refine Br.f ?_)
         | (with_reducible refine Br.mk (fun hb => ?_) (fun hb => ?_) <;> (try rw [hb]) <;> (try simp only [List.length_map, decide_eq_true_eq, decide_eq_false_iff_not, Bool.not_eq_true', Bool.not_eq_false', Int.ofNat_lt, Int.ofNat_le, Int.not_lt, Int.not_le, Int.toNat_natCast] at hb))
         | (with_reducible refine ⟨_, (by first | exact ByteRows.map _ | (repeat (first | exact ByteRows.nil | exact ByteRows.map _ | refine ByteRows.cons ?_ | refine ByteRows.app ?_ ?_))), ?_⟩)
         | (refine Exists.intro _ (And.intro (ByteRows.rep _) ?_))
         | (refine Exists.intro _ (And.intro (ByteRows.app (ByteRows.map _) (ByteRows.cons ByteRows.nil)) ?_))
         | ((with_reducible refine Or.inl (And.intro ?_ ?_)); (focus (first | with_reducible rfl | exact trivial | (exact ⟨rfl, trivial⟩) | (exact ⟨rfl, rfl, trivial⟩) | omega | (intro r hr; simp only [List.mem_singleton] at hr; subst hr; rfl)  | ((simp only [List.length_map] at *; omega)) | ((simp only [in64, maxLen] at *; omega)) | (simp only [in64]; omega) | assumption | (simp; done) | (simp [V.cells]; done) | (simp [in64, maxLen, limK] at *; omega) | ((show confB _ _ = true); kernel_rfl) | rfl)))
         | ((with_reducible refine And.intro ?_ ?_); (focus (first | with_reducible rfl | exact trivial | (exact ⟨rfl, trivial⟩) | (exact ⟨rfl, rfl, trivial⟩) | omega | (intro r hr; simp only [List.mem_singleton] at hr; subst hr; rfl)  | ((simp only [List.length_map] at *; omega)) | ((simp only [in64, maxLen] at *; omega)) | (simp only [in64]; omega) | assumption | (simp; done) | (simp [V.cells]; done) | (simp [in64, maxLen, limK] at *; omega) | ((show confB _ _ = true); kernel_rfl) | rfl)))
         | (intro row hrow; (try simp only [Int.toNat_natCast, List.length_map, toNat_pred, toNat_succ', toNat_zero', toNat_one'] at hrow); (first | (have hsm := same_map (by assumption) hrow; subst hsm; clear hrow) | (obtain ⟨p, hp, rfl⟩ := of_map hrow; clear hrow)))
         | (with_reducible refine AW.seq ?_) | (with_reducible refine AW.region base (by kernel_rfl) ?_) | (with_reducible refine AW.cond ?_) | (with_reducible refine AW.block ?_) | (with_reducible refine AW.ret ?_) | (with_reducible refine AW.exit ?_) | (with_reducible refine AW.skip ?_))))
  refine AW.loop (fun (i : Nat) => i ≤ c.length ∧ idx0 (fun x => !ofB x x.f x.v x.d l) c 0 = idx0 (fun x => !ofB x x.f x.v x.d l) (c.drop i) i) (fun (i : Nat) => ⟨[(0, .sl (c.map encC)), (1, .fn 41 [.elt [.sl (l.map encE)] 0]), (6, .sl (c.map encC)), (7, .int .i64 ((c.map encC).length : Int)), (8, .int .i64 (i : Int))], []⟩) (fun (i : Nat) => c.length - i) 0 ?_ ?_ ?_
  · (exact ⟨Nat.zero_le _, rfl⟩)
  · (refine ⟨⟨[], ?_⟩⟩; repeat' (first | (with_reducible rfl) | exact trivial | ((conv => whnf); (first | (with_reducible refine And.intro ?_ ?_) | (first | with_reducible rfl | (refine congrArg V.str ?_; (first | with_reducible rfl | omega | rfl | (simp; done))) | (refine congrArg (V.int _) ?_; (first | with_reducible rfl | omega | rfl | (simp; done))) | (refine congrArg V.bool ?_; (first | with_reducible rfl | omega | rfl | (simp; done))) | (refine congrArg V.sl ?_; (first | with_reducible rfl | omega | rfl | (simp; done))) | (first | with_reducible rfl | omega | rfl | (simp; done)) | rfl)))))
  · rintro i hk
    repeat' (first
        | (with_reducible refine AW.seq ?_) | (with_reducible refine AW.region base (by kernel_rfl) ?_) | (with_reducible refine AW.cond ?_) | (with_reducible refine AW.block ?_) | (with_reducible refine AW.ret ?_) | (with_reducible refine AW.exit ?_) | (with_reducible refine AW.skip ?_)
        | ((conv => whnf); (first
           | (with_reducible refine Br.t ?_)
           | (with_reducible refine Br.f ?_)
           | ((with_reducible refine Or.inl ?_); (conv => whnf); (with_reducible refine And.intro LitSl.mk ?_))
           | (refine Br.t ?_)
           | (refine Br.f ?_)
           | (with_reducible refine Or.inl ⟨_, isL_fn _ p he (hc p (List.mem_of_getElem? hp)), ?_⟩)
           | ((with_reducible refine Or.inl ?_); (conv => whnf); (with_reducible refine ⟨_, isL_fn _ p he (hc p (List.mem_of_getElem? hp)), ?_⟩))
           | (with_reducible refine Br.mk (fun hb => ?_) (fun hb => ?_) <;> (try rw [hb]) <;> (try simp only [List.length_map, decide_eq_true_eq, decide_eq_false_iff_not, Bool.not_eq_true', Bool.not_eq_false', Int.ofNat_lt, Int.ofNat_le, Int.not_lt, Int.not_le, Int.toNat_natCast] at hb))
           | (with_reducible refine ⟨_, (by first | exact ByteRows.map _ | (repeat (first | exact ByteRows.nil | exact ByteRows.map _ | refine ByteRows.cons ?_ | refine ByteRows.app ?_ ?_))), ?_⟩)
           | (refine Exists.intro _ (And.intro (ByteRows.rep _) ?_))
           | (refine Exists.intro _ (And.intro (ByteRows.app (ByteRows.map _) (ByteRows.cons ByteRows.nil)) ?_))
           | ((with_reducible refine Or.inl (And.intro ?_ ?_)); (focus (first | with_reducible rfl | exact trivial | (exact ⟨rfl, trivial⟩) | (exact ⟨rfl, rfl, trivial⟩) | omega | (intro r hr; simp only [List.mem_singleton] at hr; subst hr; rfl)  | ((simp only [List.length_map] at *; omega)) | ((simp only [in64, maxLen] at *; omega)) | (simp only [in64]; omega) | assumption | (simp; done) | (simp [V.cells]; done) | (simp [in64, maxLen, limK] at *; omega) | ((show confB _ _ = true); kernel_rfl) | rfl)))
           | ((with_reducible refine And.intro ?_ ?_); (focus (first | with_reducible rfl | exact trivial | (exact ⟨rfl, trivial⟩) | (exact ⟨rfl, rfl, trivial⟩) | omega | (intro r hr; simp only [List.mem_singleton] at hr; subst hr; rfl)  | ((simp only [List.length_map] at *; omega)) | ((simp only [in64, maxLen] at *; omega)) | (simp only [in64]; omega) | assumption | (simp; done) | (simp [V.cells]; done) | (simp [in64, maxLen, limK] at *; omega) | ((show confB _ _ = true); kernel_rfl) | rfl)))
           | (intro row hrow; (try simp only [Int.toNat_natCast, List.length_map, toNat_pred, toNat_succ', toNat_zero', toNat_one'] at hrow); (first | (have hsm := same_map (by assumption) hrow; subst hsm; clear hrow) | (obtain ⟨p, hp, rfl⟩ := of_map hrow; clear hrow)))
           | (with_reducible refine AW.seq ?_) | (with_reducible refine AW.region base (by kernel_rfl) ?_) | (with_reducible refine AW.cond ?_) | (with_reducible refine AW.block ?_) | (with_reducible refine AW.ret ?_) | (with_reducible refine AW.exit ?_) | (with_reducible refine AW.skip ?_))))
    all_goals (try first | with_reducible assumption | ((show (_ : Int) ≤ _); (first | omega | (simp at *; omega))) | ((show (_ : Nat) ≤ _); (first | omega | (simp at *; omega))) | ((show in64 _); (simp only [in64] at *; (first | omega | (simp at *; omega)))) | ((show (_ : Int) < _); (first | omega | (simp at *; omega))) | ((show ¬ (_ : Int) = _); (first | omega | (simp at *; omega))) | ((with_reducible refine And.intro ?_ ?_) <;> (first | omega | (simp at *; omega))))
    all_goals (first
      | (with_reducible exact absurd rfl (by assumption))
      | ((conv => whnf); (refine ⟨(i + 1), ?_⟩); (refine And.intro ?_ (And.intro ?_ ?_)); (focus (refine ⟨⟨[], ?_⟩⟩; repeat' (first | (with_reducible rfl) | exact trivial | ((conv => whnf); (first | (with_reducible refine And.intro ?_ ?_) | (first | with_reducible rfl | (refine congrArg V.str ?_; (first | with_reducible rfl | omega | rfl | (simp; done))) | (refine congrArg (V.int _) ?_; (first | with_reducible rfl | omega | rfl | (simp; done))) | (refine congrArg V.bool ?_; (first | with_reducible rfl | omega | rfl | (simp; done))) | (refine congrArg V.sl ?_; (first | with_reducible rfl | omega | rfl | (simp; done))) | (first | with_reducible rfl | omega | rfl | (simp; done)) | rfl)))))); (focus (refine ⟨by omega, ?_⟩; rw [hk.2, drop_get hp, idx0]; simp_all)); (focus (first | omega | (dsimp only; omega) | (simp; done) | (simp; omega) | (simp at *; omega))))
      | ((conv => whnf); (try (first | rfl | (exfalso; simp_all; done) | (exfalso; simp at *; omega) | (refine congrArg (V.int _) ?_; rw [hk.2, drop_get hp, idx0]; simp_all; done) | (refine congrArg (V.int _) ?_; rw [hk.2, List.drop_of_length_le (by simp at *; omega)]; rfl))); done))


set_option maxRecDepth 100000 in
set_option maxHeartbeats 400000 in
theorem containsFunc_fn (l : List Evt) (c : List Cel) (he : ∀ e ∈ l, evtB e = true) (hc : ∀ x ∈ c, celB x = true) : Fn Try.prog 40 [.sl (c.map encC), .fn 41 [.elt [.sl (l.map encE)] 0]] (.bool (c.any (fun x => !ofB x x.f x.v x.d l))) := by
  refine Fn.mk' base Try.func40 rfl rfl rfl ?_
  repeat' (first
      | (with_reducible refine AW.seq ?_) | (with_reducible refine AW.region base (by kernel_rfl) ?_) | (with_reducible refine AW.cond ?_) | (with_reducible refine AW.block ?_) | (with_reducible refine AW.ret ?_) | (with_reducible refine AW.exit ?_) | (with_reducible refine AW.skip ?_)
      | ((conv => whnf); (first
         | (with_reducible refine Br.t ?_)
         | (with_reducible refine Br.f ?_)
         | ((with_reducible refine Or.inl ?_); (conv => whnf); (with_reducible refine And.intro LitSl.mk ?_))
         | (refine Br.t ?_)
         | (refine Br.f ?_)
         | (with_reducible refine Or.inl ⟨_, indexFunc_fn _ _ he hc, ?_⟩)
         | ((with_reducible refine Or.inl ?_); (conv => whnf); (with_reducible refine ⟨_, indexFunc_fn _ _ he hc, ?_⟩))
         | (with_reducible refine Br.mk (fun hb => ?_) (fun hb => ?_) <;> (try rw [hb]) <;> (try simp only [List.length_map, decide_eq_true_eq, decide_eq_false_iff_not, Bool.not_eq_true', Bool.not_eq_false', Int.ofNat_lt, Int.ofNat_le, Int.not_lt, Int.not_le, Int.toNat_natCast] at hb))
         | (with_reducible refine ⟨_, (by first | exact ByteRows.map _ | (repeat (first | exact ByteRows.nil | exact ByteRows.map _ | refine ByteRows.cons ?_ | refine ByteRows.app ?_ ?_))), ?_⟩)
         | (refine Exists.intro _ (And.intro (ByteRows.rep _) ?_))
         | (refine Exists.intro _ (And.intro (ByteRows.app (ByteRows.map _) (ByteRows.cons ByteRows.nil)) ?_))
         | ((with_reducible refine Or.inl (And.intro ?_ ?_)); (focus (first | with_reducible rfl | exact trivial | (exact ⟨rfl, trivial⟩) | (exact ⟨rfl, rfl, trivial⟩) | omega | (intro r hr; simp only [List.mem_singleton] at hr; subst hr; rfl)  | ((simp only [List.length_map] at *; omega)) | ((simp only [in64, maxLen] at *; omega)) | (simp only [in64]; omega) | assumption | (simp; done) | (simp [V.cells]; done) | (simp [in64, maxLen, limK] at *; omega) | ((show confB _ _ = true); kernel_rfl) | rfl)))
         | ((with_reducible refine And.intro ?_ ?_); (focus (first | with_reducible rfl | exact trivial | (exact ⟨rfl, trivial⟩) | (exact ⟨rfl, rfl, trivial⟩) | omega | (intro r hr; simp only [List.mem_singleton] at hr; subst hr; rfl)  | ((simp only [List.length_map] at *; omega)) | ((simp only [in64, maxLen] at *; omega)) | (simp only [in64]; omega) | assumption | (simp; done) | (simp [V.cells]; done) | (simp [in64, maxLen, limK] at *; omega) | ((show confB _ _ = true); kernel_rfl) | rfl)))
         | (intro row hrow; (try simp only [Int.toNat_natCast, List.length_map, toNat_pred, toNat_succ', toNat_zero', toNat_one'] at hrow); (first | (have hsm := same_map (by assumption) hrow; subst hsm; clear hrow) | (obtain ⟨p, hp, rfl⟩ := of_map hrow; clear hrow)))
         | (with_reducible refine AW.seq ?_) | (with_reducible refine AW.region base (by kernel_rfl) ?_) | (with_reducible refine AW.cond ?_) | (with_reducible refine AW.block ?_) | (with_reducible refine AW.ret ?_) | (with_reducible refine AW.exit ?_) | (with_reducible refine AW.skip ?_))))
  all_goals (conv => whnf)
  all_goals (first | rfl | (simp only [V.bool.injEq, V.tup.injEq, V.agg.injEq, V.str.injEq, V.int.injEq, V.sl.injEq, V.ifc.injEq, List.cons.injEq, and_true, true_and, and_self]; done) | (simp only [V.bool.injEq, V.tup.injEq, V.agg.injEq, V.str.injEq, V.int.injEq, V.sl.injEq, V.ifc.injEq, List.cons.injEq, and_true, true_and, and_self]; grind) | (simp  at *; done) | (simp  at *; grind) | (exact congrArg V.bool (idx0_any _ _ _)))

theorem all_step {l : List Evt} {i : Nat} {p : Evt} {f : Evt → Bool} (hp : l[i]? = some p) (h : (l.take i).all f = true) (h2 : f p = true) : (l.take (i + 1)).all f = true := by
  rw [take_get hp, List.all_append, h]; simp [h2]
theorem all_no {l : List Evt} {i : Nat} {p : Evt} {f : Evt → Bool} (hp : l[i]? = some p) (h2 : f p = false) : l.all f = false := by
  rw [List.all_eq_false]; exact ⟨p, List.mem_of_getElem? hp, by simp [h2]⟩
theorem hist_e {l : List Evt} {c : List Cel} {i : Nat} (h : i ≤ l.length ∧ (l.take i).all (fun e => (getC c e.k).isSome && evtB e) = true) (hi : l.length ≤ i) : ∀ e ∈ l, evtB e = true := fun e he => by
  have h2 := h.2
  rw [List.take_of_length_le hi, List.all_eq_true] at h2
  have := h2 e he
  simp only [Bool.and_eq_true] at this
  exact this.2
theorem hist_c {c : List Cel} (h : idxB none c = true) : ∀ x ∈ c, celB x = true := ((idxB_iff c none).1 h).1
theorem all_neg {c : List Cel} {f : Cel → Bool} : (!c.any fun x => !f x) = c.all f := by
  induction c with
  | nil => rfl
  | cons x r ih => rw [List.any_cons, List.all_cons, ← ih]; cases f x <;> simp

set_option maxRecDepth 100000 in
set_option maxHeartbeats 1000000 in
theorem histIs_fn (l : List Evt) (c : List Cel) : Fn Try.prog 24 [.sl (l.map encE), .sl (c.map encC)] (.bool (histB l c)) := by
  refine Fn.mk' base Try.func24 rfl rfl rfl ?_
  refine AW.len 0 rfl (fun hlen => ?_)
  simp only [List.length_map, maxLen] at hlen
  repeat' (first
      | (with_reducible refine AW.seq ?_) | (with_reducible refine AW.region base (by kernel_rfl) ?_) | (with_reducible refine AW.cond ?_) | (with_reducible refine AW.block ?_) | (with_reducible refine AW.ret ?_) | (with_reducible refine AW.exit ?_) | (with_reducible refine AW.skip ?_)
      | ((conv => whnf); (first
         | (with_reducible refine Br.t ?_)
         | (with_reducible refine Br.f ?_)
         | ((with_reducible refine Or.inl ?_); (conv => whnf); (with_reducible refine And.intro LitSl.mk ?_))
         | (refine Br.t ?_)
         | (refine Br.f ?_)
         | (with_reducible refine Or.inl ⟨_, indexIs_fn _, ?_⟩)
         | ((with_reducible refine Or.inl ?_); (conv => whnf); (with_reducible refine ⟨_, indexIs_fn _, ?_⟩))
         | (with_reducible refine Or.inl ⟨_, get_fn _ _, ?_⟩)
         | ((with_reducible refine Or.inl ?_); (conv => whnf); (with_reducible refine ⟨_, get_fn _ _, ?_⟩))
         | (with_reducible refine Or.inl ⟨_, isEvent_fn _ _ _ _, ?_⟩)
         | ((with_reducible refine Or.inl ?_); (conv => whnf); (with_reducible refine ⟨_, isEvent_fn _ _ _ _, ?_⟩))
         | (with_reducible refine Or.inl ⟨_, containsFunc_fn _ _ (hist_e (by assumption) (by simp at *; omega)) (hist_c (by assumption)), ?_⟩)
         | ((with_reducible refine Or.inl ?_); (conv => whnf); (with_reducible refine ⟨_, containsFunc_fn _ _ (hist_e (by assumption) (by simp at *; omega)) (hist_c (by assumption)), ?_⟩))
         | (with_reducible refine Br.mk (fun hb => ?_) (fun hb => ?_) <;> (try rw [hb]) <;> (try simp only [List.length_map, decide_eq_true_eq, decide_eq_false_iff_not, Bool.not_eq_true', Bool.not_eq_false', Int.ofNat_lt, Int.ofNat_le, Int.not_lt, Int.not_le, Int.toNat_natCast] at hb))
         | (with_reducible refine ⟨_, (by first | exact ByteRows.map _ | (repeat (first | exact ByteRows.nil | exact ByteRows.map _ | refine ByteRows.cons ?_ | refine ByteRows.app ?_ ?_))), ?_⟩)
         | (refine Exists.intro _ (And.intro (ByteRows.rep _) ?_))
         | (refine Exists.intro _ (And.intro (ByteRows.app (ByteRows.map _) (ByteRows.cons ByteRows.nil)) ?_))
         | ((with_reducible refine Or.inl (And.intro ?_ ?_)); (focus (first | with_reducible rfl | exact trivial | (exact ⟨rfl, trivial⟩) | (exact ⟨rfl, rfl, trivial⟩) | omega | (intro r hr; simp only [List.mem_singleton] at hr; subst hr; rfl)  | ((simp only [List.length_map] at *; omega)) | ((simp only [in64, maxLen] at *; omega)) | (simp only [in64]; omega) | assumption | (simp; done) | (simp [V.cells]; done) | (simp [in64, maxLen, limK] at *; omega) | ((show confB _ _ = true); kernel_rfl) | rfl)))
         | ((with_reducible refine And.intro ?_ ?_); (focus (first | with_reducible rfl | exact trivial | (exact ⟨rfl, trivial⟩) | (exact ⟨rfl, rfl, trivial⟩) | omega | (intro r hr; simp only [List.mem_singleton] at hr; subst hr; rfl)  | ((simp only [List.length_map] at *; omega)) | ((simp only [in64, maxLen] at *; omega)) | (simp only [in64]; omega) | assumption | (simp; done) | (simp [V.cells]; done) | (simp [in64, maxLen, limK] at *; omega) | ((show confB _ _ = true); kernel_rfl) | rfl)))
         | (intro row hrow; (try simp only [Int.toNat_natCast, List.length_map, toNat_pred, toNat_succ', toNat_zero', toNat_one'] at hrow); (first | (have hsm := same_map (by assumption) hrow; subst hsm; clear hrow) | (obtain ⟨p, hp, rfl⟩ := of_map hrow; clear hrow)))
         | (with_reducible refine AW.seq ?_) | (with_reducible refine AW.region base (by kernel_rfl) ?_) | (with_reducible refine AW.cond ?_) | (with_reducible refine AW.block ?_) | (with_reducible refine AW.ret ?_) | (with_reducible refine AW.exit ?_) | (with_reducible refine AW.skip ?_))))
  · (conv => whnf); (refine congrArg V.bool ?_); simp_all [histB]
  refine AW.loop (fun (i : Nat) => i ≤ l.length ∧ (l.take i).all (fun e => (getC c e.k).isSome && evtB e) = true) (fun (i : Nat) => ⟨[(1, .sl (c.map encC)), (2, .ptr 0 0), (12, .sl (l.map encE)), (13, .int .i64 ((l.map encE).length : Int)), (14, .int .i64 (i : Int))], [.cells [.sl (l.map encE)]]⟩) (fun (i : Nat) => l.length - i) 0 ?_ ?_ ?_
  · (exact ⟨Nat.zero_le _, rfl⟩)
  · (refine ⟨⟨[1000], ?_⟩⟩; repeat' (first | (with_reducible rfl) | exact trivial | ((conv => whnf); (first | (with_reducible refine And.intro ?_ ?_) | (first | with_reducible rfl | (refine congrArg V.str ?_; (first | with_reducible rfl | omega | rfl | (simp; done))) | (refine congrArg (V.int _) ?_; (first | with_reducible rfl | omega | rfl | (simp; done))) | (refine congrArg V.bool ?_; (first | with_reducible rfl | omega | rfl | (simp; done))) | (refine congrArg V.sl ?_; (first | with_reducible rfl | omega | rfl | (simp; done))) | (first | with_reducible rfl | omega | rfl | (simp; done)) | rfl)))))
  · rintro i hk
    repeat' (first
        | (with_reducible refine AW.seq ?_) | (with_reducible refine AW.region base (by kernel_rfl) ?_) | (with_reducible refine AW.cond ?_) | (with_reducible refine AW.block ?_) | (with_reducible refine AW.ret ?_) | (with_reducible refine AW.exit ?_) | (with_reducible refine AW.skip ?_)
        | ((conv => whnf); (first
           | (with_reducible refine Br.t ?_)
           | (with_reducible refine Br.f ?_)
           | ((with_reducible refine Or.inl ?_); (conv => whnf); (with_reducible refine And.intro LitSl.mk ?_))
           | (refine Br.t ?_)
           | (refine Br.f ?_)
           | (with_reducible refine Or.inl ⟨_, indexIs_fn _, ?_⟩)
           | ((with_reducible refine Or.inl ?_); (conv => whnf); (with_reducible refine ⟨_, indexIs_fn _, ?_⟩))
           | (with_reducible refine Or.inl ⟨_, get_fn _ _, ?_⟩)
           | ((with_reducible refine Or.inl ?_); (conv => whnf); (with_reducible refine ⟨_, get_fn _ _, ?_⟩))
           | (with_reducible refine Or.inl ⟨_, isEvent_fn _ _ _ _, ?_⟩)
           | ((with_reducible refine Or.inl ?_); (conv => whnf); (with_reducible refine ⟨_, isEvent_fn _ _ _ _, ?_⟩))
           | (with_reducible refine Or.inl ⟨_, containsFunc_fn _ _ (hist_e (by assumption) (by simp at *; omega)) (hist_c (by assumption)), ?_⟩)
           | ((with_reducible refine Or.inl ?_); (conv => whnf); (with_reducible refine ⟨_, containsFunc_fn _ _ (hist_e (by assumption) (by simp at *; omega)) (hist_c (by assumption)), ?_⟩))
           | (with_reducible refine Br.mk (fun hb => ?_) (fun hb => ?_) <;> (try rw [hb]) <;> (try simp only [List.length_map, decide_eq_true_eq, decide_eq_false_iff_not, Bool.not_eq_true', Bool.not_eq_false', Int.ofNat_lt, Int.ofNat_le, Int.not_lt, Int.not_le, Int.toNat_natCast] at hb))
           | (with_reducible refine ⟨_, (by first | exact ByteRows.map _ | (repeat (first | exact ByteRows.nil | exact ByteRows.map _ | refine ByteRows.cons ?_ | refine ByteRows.app ?_ ?_))), ?_⟩)
           | (refine Exists.intro _ (And.intro (ByteRows.rep _) ?_))
           | (refine Exists.intro _ (And.intro (ByteRows.app (ByteRows.map _) (ByteRows.cons ByteRows.nil)) ?_))
           | ((with_reducible refine Or.inl (And.intro ?_ ?_)); (focus (first | with_reducible rfl | exact trivial | (exact ⟨rfl, trivial⟩) | (exact ⟨rfl, rfl, trivial⟩) | omega | (intro r hr; simp only [List.mem_singleton] at hr; subst hr; rfl)  | ((simp only [List.length_map] at *; omega)) | ((simp only [in64, maxLen] at *; omega)) | (simp only [in64]; omega) | assumption | (simp; done) | (simp [V.cells]; done) | (simp [in64, maxLen, limK] at *; omega) | ((show confB _ _ = true); kernel_rfl) | rfl)))
           | ((with_reducible refine And.intro ?_ ?_); (focus (first | with_reducible rfl | exact trivial | (exact ⟨rfl, trivial⟩) | (exact ⟨rfl, rfl, trivial⟩) | omega | (intro r hr; simp only [List.mem_singleton] at hr; subst hr; rfl)  | ((simp only [List.length_map] at *; omega)) | ((simp only [in64, maxLen] at *; omega)) | (simp only [in64]; omega) | assumption | (simp; done) | (simp [V.cells]; done) | (simp [in64, maxLen, limK] at *; omega) | ((show confB _ _ = true); kernel_rfl) | rfl)))
           | (intro row hrow; (try simp only [Int.toNat_natCast, List.length_map, toNat_pred, toNat_succ', toNat_zero', toNat_one'] at hrow); (first | (have hsm := same_map (by assumption) hrow; subst hsm; clear hrow) | (obtain ⟨p, hp, rfl⟩ := of_map hrow; clear hrow)))
           | (with_reducible refine AW.seq ?_) | (with_reducible refine AW.region base (by kernel_rfl) ?_) | (with_reducible refine AW.cond ?_) | (with_reducible refine AW.block ?_) | (with_reducible refine AW.ret ?_) | (with_reducible refine AW.exit ?_) | (with_reducible refine AW.skip ?_))))
    all_goals (try first | with_reducible assumption | ((show (_ : Int) ≤ _); (first | omega | (simp at *; omega))) | ((show (_ : Nat) ≤ _); (first | omega | (simp at *; omega))) | ((show in64 _); (simp only [in64] at *; (first | omega | (simp at *; omega)))) | ((show (_ : Int) < _); (first | omega | (simp at *; omega))) | ((show ¬ (_ : Int) = _); (first | omega | (simp at *; omega))) | ((with_reducible refine And.intro ?_ ?_) <;> (first | omega | (simp at *; omega))))
    all_goals (first
      | (with_reducible exact absurd rfl (by assumption))
      | ((conv => whnf); (refine ⟨(i + 1), ?_⟩); (refine And.intro ?_ (And.intro ?_ ?_)); (focus (refine ⟨⟨[0], ?_⟩⟩; repeat' (first | (with_reducible rfl) | exact trivial | ((conv => whnf); (first | (with_reducible refine And.intro ?_ ?_) | (first | with_reducible rfl | (refine congrArg V.str ?_; (first | with_reducible rfl | omega | rfl | (simp; done))) | (refine congrArg (V.int _) ?_; (first | with_reducible rfl | omega | rfl | (simp; done))) | (refine congrArg V.bool ?_; (first | with_reducible rfl | omega | rfl | (simp; done))) | (refine congrArg V.sl ?_; (first | with_reducible rfl | omega | rfl | (simp; done))) | (first | with_reducible rfl | omega | rfl | (simp; done)) | rfl)))))); (focus (refine ⟨by omega, all_step hp hk.2 ?_⟩; simp_all [evtB])); (focus (first | omega | (dsimp only; omega) | (simp; done) | (simp; omega) | (simp at *; omega))))
      | ((conv => whnf); (try (first | rfl | (exfalso; simp_all; done) | (exfalso; simp at *; omega) | (refine congrArg V.bool ?_; have e := all_no (f := fun e => (getC c e.k).isSome && evtB e) hp (by simp_all [evtB]); rw [histB, e, Bool.and_false, Bool.false_and]) | (refine congrArg V.bool ?_; rw [histB, all_neg, ← all_neg]; have e : l.take i = l := List.take_of_length_le (by simp at *; omega); rw [e] at hk; simp_all; done))); done))


theorem rows_len {α : Type} {f : α → List V} {n : Nat} (h : ∀ a, (f a).length = n) (l : List α) : ∀ r ∈ l.map f, r.length = n := fun r hr => by
  obtain ⟨a, _, rfl⟩ := List.mem_map.1 hr; exact h a

set_option maxRecDepth 100000 in
set_option maxHeartbeats 400000 in
theorem cloneEvent_fn (l : List Evt) (hl : l.length ≤ 1000000) : FnM Try.prog 35 [.sl (l.map encE)] [] (.own 0) [.rows 47 (l.map encE)] := by
  refine FnM.mk' base Try.func35 rfl rfl rfl rfl ?_
  repeat' (first
    | (with_reducible refine And.intro (fun (hnil : _ = []) => ?_) ?_)
    | ((with_reducible show AW _ _ _ Code.ret _ _ _); (refine AW.adopt 2 999999999 (el := 47) rfl rfl (rows_of 40 rfl) ?_); (with_reducible refine AW.ret ?_))
      | (with_reducible refine AW.seq ?_) | (with_reducible refine AW.region base (by kernel_rfl) ?_) | (with_reducible refine AW.cond ?_) | (with_reducible refine AW.block ?_) | (with_reducible refine AW.ret ?_) | (with_reducible refine AW.exit ?_) | (with_reducible refine AW.skip ?_)
      | ((conv => whnf); (first
       | (with_reducible refine And.intro (fun (hnil : _ = []) => ?_) ?_)
       | ((with_reducible show AW _ _ _ Code.ret _ _ _); (refine AW.adopt 2 999999999 (el := 47) rfl rfl (rows_of 40 rfl) ?_); (with_reducible refine AW.ret ?_))
         | (with_reducible refine Br.t ?_)
         | (with_reducible refine Br.f ?_)
         | ((with_reducible refine Or.inl ?_); (conv => whnf); (with_reducible refine And.intro LitSl.mk ?_))
         | (refine Br.t ?_)
         | (refine Br.f ?_)
         | (with_reducible refine Br.mk (fun hb => ?_) (fun hb => ?_) <;> (try rw [hb]) <;> (try simp only [List.length_map, decide_eq_true_eq, decide_eq_false_iff_not, Bool.not_eq_true', Bool.not_eq_false', Int.ofNat_lt, Int.ofNat_le, Int.not_lt, Int.not_le, Int.toNat_natCast] at hb))
         | (with_reducible refine ⟨_, (by first | exact ByteRows.map _ | (repeat (first | exact ByteRows.nil | exact ByteRows.map _ | refine ByteRows.cons ?_ | refine ByteRows.app ?_ ?_))), ?_⟩)
         | (refine Exists.intro _ (And.intro (ByteRows.rep _) ?_))
         | (refine Exists.intro _ (And.intro (ByteRows.app (ByteRows.map _) (ByteRows.cons ByteRows.nil)) ?_))
         | ((with_reducible refine Or.inl (And.intro ?_ ?_)); (focus (first | with_reducible rfl | exact trivial | (exact ⟨rfl, trivial⟩) | (exact ⟨rfl, rfl, trivial⟩) | omega | (intro r hr; simp only [List.mem_singleton] at hr; subst hr; rfl)  | ((exact rows_len (fun _ => rfl) _)) | ((simp only [List.length_map, List.length_nil]; omega)) | ((intro r hr; exact rows_len (fun _ => rfl) _ r hr)) | (simp only [in64]; omega) | assumption | (simp; done) | (simp [V.cells]; done) | (simp [in64, maxLen, limK] at *; omega) | ((show confB _ _ = true); kernel_rfl) | rfl)))
         | ((with_reducible refine And.intro ?_ ?_); (focus (first | with_reducible rfl | exact trivial | (exact ⟨rfl, trivial⟩) | (exact ⟨rfl, rfl, trivial⟩) | omega | (intro r hr; simp only [List.mem_singleton] at hr; subst hr; rfl)  | ((exact rows_len (fun _ => rfl) _)) | ((simp only [List.length_map, List.length_nil]; omega)) | ((intro r hr; exact rows_len (fun _ => rfl) _ r hr)) | (simp only [in64]; omega) | assumption | (simp; done) | (simp [V.cells]; done) | (simp [in64, maxLen, limK] at *; omega) | ((show confB _ _ = true); kernel_rfl) | rfl)))
         | (intro row hrow; (try simp only [Int.toNat_natCast, List.length_map, toNat_pred, toNat_succ', toNat_zero', toNat_one'] at hrow); (first | (have hsm := same_map (by assumption) hrow; subst hsm; clear hrow) | (obtain ⟨p, hp, rfl⟩ := of_map hrow; clear hrow)))
         | (with_reducible refine AW.seq ?_) | (with_reducible refine AW.region base (by kernel_rfl) ?_) | (with_reducible refine AW.cond ?_) | (with_reducible refine AW.block ?_) | (with_reducible refine AW.ret ?_) | (with_reducible refine AW.exit ?_) | (with_reducible refine AW.skip ?_))))
  all_goals (conv => whnf)
  all_goals (refine ⟨[?_], ?_⟩)
  all_goals (repeat' (first | (with_reducible rfl) | exact trivial | ((conv => whnf); (first | (with_reducible refine And.intro ?_ ?_) | exact trivial | (intro hb; first | (exfalso; simp_all; done) | skip)))))
  all_goals (first | rfl | (exact hnil.symm))

set_option maxRecDepth 100000 in
set_option maxHeartbeats 400000 in
theorem cloneCell_fn (c : List Cel) (hl : c.length ≤ 1000000) : FnM Try.prog 46 [.sl (c.map encC)] [] (.own 0) [.rows 43 (c.map encC)] := by
  refine FnM.mk' base Try.func46 rfl rfl rfl rfl ?_
  repeat' (first
    | (with_reducible refine And.intro (fun (hnil : _ = []) => ?_) ?_)
    | ((with_reducible show AW _ _ _ Code.ret _ _ _); (refine AW.adopt 2 999999999 (el := 43) rfl rfl (rows_of 41 rfl) ?_); (with_reducible refine AW.ret ?_))
      | (with_reducible refine AW.seq ?_) | (with_reducible refine AW.region base (by kernel_rfl) ?_) | (with_reducible refine AW.cond ?_) | (with_reducible refine AW.block ?_) | (with_reducible refine AW.ret ?_) | (with_reducible refine AW.exit ?_) | (with_reducible refine AW.skip ?_)
      | ((conv => whnf); (first
       | (with_reducible refine And.intro (fun (hnil : _ = []) => ?_) ?_)
       | ((with_reducible show AW _ _ _ Code.ret _ _ _); (refine AW.adopt 2 999999999 (el := 43) rfl rfl (rows_of 41 rfl) ?_); (with_reducible refine AW.ret ?_))
         | (with_reducible refine Br.t ?_)
         | (with_reducible refine Br.f ?_)
         | ((with_reducible refine Or.inl ?_); (conv => whnf); (with_reducible refine And.intro LitSl.mk ?_))
         | (refine Br.t ?_)
         | (refine Br.f ?_)
         | (with_reducible refine Br.mk (fun hb => ?_) (fun hb => ?_) <;> (try rw [hb]) <;> (try simp only [List.length_map, decide_eq_true_eq, decide_eq_false_iff_not, Bool.not_eq_true', Bool.not_eq_false', Int.ofNat_lt, Int.ofNat_le, Int.not_lt, Int.not_le, Int.toNat_natCast] at hb))
         | (with_reducible refine ⟨_, (by first | exact ByteRows.map _ | (repeat (first | exact ByteRows.nil | exact ByteRows.map _ | refine ByteRows.cons ?_ | refine ByteRows.app ?_ ?_))), ?_⟩)
         | (refine Exists.intro _ (And.intro (ByteRows.rep _) ?_))
         | (refine Exists.intro _ (And.intro (ByteRows.app (ByteRows.map _) (ByteRows.cons ByteRows.nil)) ?_))
         | ((with_reducible refine Or.inl (And.intro ?_ ?_)); (focus (first | with_reducible rfl | exact trivial | (exact ⟨rfl, trivial⟩) | (exact ⟨rfl, rfl, trivial⟩) | omega | (intro r hr; simp only [List.mem_singleton] at hr; subst hr; rfl)  | ((exact rows_len (fun _ => rfl) _)) | ((simp only [List.length_map, List.length_nil]; omega)) | ((intro r hr; exact rows_len (fun _ => rfl) _ r hr)) | (simp only [in64]; omega) | assumption | (simp; done) | (simp [V.cells]; done) | (simp [in64, maxLen, limK] at *; omega) | ((show confB _ _ = true); kernel_rfl) | rfl)))
         | ((with_reducible refine And.intro ?_ ?_); (focus (first | with_reducible rfl | exact trivial | (exact ⟨rfl, trivial⟩) | (exact ⟨rfl, rfl, trivial⟩) | omega | (intro r hr; simp only [List.mem_singleton] at hr; subst hr; rfl)  | ((exact rows_len (fun _ => rfl) _)) | ((simp only [List.length_map, List.length_nil]; omega)) | ((intro r hr; exact rows_len (fun _ => rfl) _ r hr)) | (simp only [in64]; omega) | assumption | (simp; done) | (simp [V.cells]; done) | (simp [in64, maxLen, limK] at *; omega) | ((show confB _ _ = true); kernel_rfl) | rfl)))
         | (intro row hrow; (try simp only [Int.toNat_natCast, List.length_map, toNat_pred, toNat_succ', toNat_zero', toNat_one'] at hrow); (first | (have hsm := same_map (by assumption) hrow; subst hsm; clear hrow) | (obtain ⟨p, hp, rfl⟩ := of_map hrow; clear hrow)))
         | (with_reducible refine AW.seq ?_) | (with_reducible refine AW.region base (by kernel_rfl) ?_) | (with_reducible refine AW.cond ?_) | (with_reducible refine AW.block ?_) | (with_reducible refine AW.ret ?_) | (with_reducible refine AW.exit ?_) | (with_reducible refine AW.skip ?_))))
  all_goals (conv => whnf)
  all_goals (refine ⟨[?_], ?_⟩)
  all_goals (repeat' (first | (with_reducible rfl) | exact trivial | ((conv => whnf); (first | (with_reducible refine And.intro ?_ ?_) | exact trivial | (intro hb; first | (exfalso; simp_all; done) | skip)))))
  all_goals (first | rfl | (exact hnil.symm))
end Go.Proofs.Ythcbffejjkmmfaa
