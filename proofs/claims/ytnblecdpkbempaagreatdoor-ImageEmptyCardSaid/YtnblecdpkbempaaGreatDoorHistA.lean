/-
  Cells, events and histories: plain laws, no program in sight. No conditions.
-/
import Derived.Test.YtnblecdpkbempaaGreatDoorLetI
namespace Go.Proofs.YtnblecdpkbempaaGreatDoor
open Go.RowKit
set_option linter.unusedSimpArgs false
set_option linter.unusedVariables false

/-! ### the order of texts -/
theorem blt_trans {a b c : Bs} (h : blt a b = true) (k : blt b c = true) : blt a c = true := by
  unfold blt at *
  induction a generalizing b c with
  | nil => cases b <;> cases c <;> simp_all [Op.bytesLess]
  | cons x a ih =>
    cases b with
    | nil => simp [Op.bytesLess] at h
    | cons y b =>
      cases c with
      | nil => simp [Op.bytesLess] at k
      | cons z c =>
        simp only [Op.bytesLess, Bool.or_eq_true, decide_eq_true_eq, Bool.and_eq_true, beq_iff_eq] at *
        simp only [UInt8.lt_iff_toNat_lt, ← UInt8.toNat_inj] at *
        rcases h with h | ⟨h, h'⟩ <;> rcases k with k | ⟨k, k'⟩
        · exact .inl (by omega)
        · exact .inl (by omega)
        · exact .inl (by omega)
        · exact .inr ⟨by omega, ih h' k'⟩
structure Cel where
  k : Bs
  v : Bs
  n : Int
  d : Bool
  f : Int
  deriving DecidableEq
abbrev encC (c : Cel) : List V := [.str c.k, .str c.v, .int .i64 c.n, .bool c.d, .int .i64 c.f]
def celB (c : Cel) : Bool := isCellB c.k c.v c.n c.d c.f
def evtB (e : Evt) : Bool := mayB e.k e.v e.n e.d
def belowB : Option Bs → Bs → Bool
  | none, _ => true
  | some q, k => blt q k
def idxB : Option Bs → List Cel → Bool
  | _, [] => true
  | p, c :: r => celB c && belowB p c.k && idxB (some c.k) r
def getC (l : List Cel) (k : Bs) : Option Cel := l.find? fun c => decide (c.k = k)
def cel0 (k : Bs) : Cel := ⟨k, [], 0, false, 0⟩
def cellOf (l : List Cel) (k : Bs) : Cel := (getC l k).getD (cel0 k)
def withL (c : Cel) : Bool → List Cel → List Cel
  | done, [] => if done then [] else [c]
  | done, x :: r => (if !done && !blt x.k c.k then [c] else []) ++ ((if x.k = c.k then [] else [x]) ++ withL c (done || !blt x.k c.k) r)
def withC (l : List Cel) (c : Cel) : List Cel := if celB c then withL c false l else l
def bump1 (e : Evt) (x : Cel) : Cel := if x.k = e.k then { x with f := max x.f e.n } else x
def bumps (es : List Evt) (cs : List Cel) : List Cel := es.foldl (fun a e => a.map (bump1 e)) cs
def ofB (c : Cel) : Int → Bs → Bool → List Evt → Bool
  | a, lv, ld, [] => decide (a = c.n) && decide (lv = c.v) && decide (ld = c.d)
  | a, lv, ld, e :: r => if e.k = c.k then (if e.n = a + 1 then ofB c e.n e.v e.d r else false) else ofB c a lv ld r
def histB (l : List Evt) (c : List Cel) : Bool := idxB none c && l.all (fun e => (getC c e.k).isSome && evtB e) && c.all (fun x => ofB x x.f x.v x.d l)
def goneN (l : List Evt) (n : Int) : Nat := l.length - n.toNat
def keepE (l : List Evt) (n : Int) : List Evt := l.drop (goneN l n)
def keepC (l : List Evt) (c : List Cel) (n : Int) : List Cel := bumps (l.take (goneN l n)) c
def seenOf (s : List Sn) (k : Bs) : Int := ((s.find? fun x => decide (x.k = k)).map (·.n)).getD 0
def overB (c : List Cel) (s : Span) (seen : List Sn) : Bool := c.any fun x => hasB s x.k && decide (seenOf seen x.k < x.f)
def aftE (l : List Evt) (s : Span) (seen : List Sn) (most : Int) : List Evt := (l.filter fun e => hasB s e.k && decide (seenOf seen e.k < e.n)).take most.toNat

/-! ### cells in order -/
def Rising (l : List Cel) : Prop := l.Pairwise fun a b => blt a.k b.k = true
theorem idxB_iff : ∀ (l : List Cel) (p : Option Bs), idxB p l = true ↔ (∀ c ∈ l, celB c = true) ∧ Rising l ∧ ∀ q, p = some q → ∀ c ∈ l, blt q c.k = true
  | [], p => by simp [idxB, Rising]
  | c :: r, p => by
    rw [idxB, Bool.and_eq_true, Bool.and_eq_true, idxB_iff r]
    simp only [Rising, List.pairwise_cons, List.mem_cons, forall_eq_or_imp, Option.some.injEq, forall_eq']
    constructor
    · rintro ⟨⟨h1, h2⟩, h3, h4, h5⟩
      refine ⟨⟨h1, h3⟩, ⟨h5, h4⟩, ?_⟩
      rintro q rfl
      exact ⟨h2, fun c' hc' => blt_trans h2 (h5 c' hc')⟩
    · rintro ⟨⟨h1, h3⟩, ⟨h5, h4⟩, h6⟩
      refine ⟨⟨h1, ?_⟩, h3, h4, h5⟩
      cases p with
      | none => rfl
      | some q => exact (h6 q rfl).1
theorem getC_some {l : List Cel} {k : Bs} {c : Cel} (h : getC l k = some c) : c ∈ l ∧ c.k = k :=
  ⟨List.mem_of_find?_eq_some h, by simpa using List.find?_some h⟩
theorem getC_none {l : List Cel} {k : Bs} (h : getC l k = none) : ∀ c ∈ l, c.k ≠ k := fun c hc => by simpa using List.find?_eq_none.1 h c hc
/-! ### a cell's events -/
theorem ofB_le {c : Cel} : ∀ {l : List Evt} {a : Int} {lv : Bs} {ld : Bool}, ofB c a lv ld l = true → a ≤ c.n
  | [], a, lv, ld, h => by simp only [ofB, Bool.and_eq_true, decide_eq_true_eq] at h; omega
  | e :: r, a, lv, ld, h => by
    rw [ofB] at h
    split at h
    · split at h
      · have := ofB_le h; omega
      · cases h
    · exact ofB_le h
theorem ofB_last {c : Cel} : ∀ {l : List Evt} {a : Int} {lv : Bs} {ld : Bool}, ofB c a lv ld l = true → ofB c a c.v c.d l = true
  | [], a, lv, ld, h => by simp only [ofB, Bool.and_eq_true, decide_eq_true_eq] at h ⊢; exact ⟨⟨h.1.1, trivial⟩, trivial⟩
  | e :: r, a, lv, ld, h => by
    rw [ofB] at h ⊢
    split
    · rename_i hk
      rw [if_pos hk] at h
      exact h
    · rename_i hk
      rw [if_neg hk] at h
      exact ofB_last h
theorem ofB_floor {c : Cel} (f : Int) : ∀ {l : List Evt} {a : Int} {lv : Bs} {ld : Bool}, ofB { c with f := f } a lv ld l = ofB c a lv ld l
  | [], a, lv, ld => rfl
  | e :: r, a, lv, ld => by rw [ofB, ofB, ofB_floor f, ofB_floor f]
theorem ofB_none {k : Bs} : ∀ {l : List Evt}, (∀ e ∈ l, e.k ≠ k) → ofB (cel0 k) 0 [] false l = true
  | [], h => rfl
  | e :: r, h => by rw [ofB, if_neg (show ¬ e.k = (cel0 k).k from h e (List.mem_cons_self ..)), ofB_none fun e he => h e (List.mem_cons_of_mem _ he)]
/-! ### histories -/
structure Hist (l : List Evt) (c : List Cel) : Prop where
  cells : ∀ x ∈ c, celB x = true
  rising : Rising c
  events : ∀ e ∈ l, (∃ x ∈ c, x.k = e.k) ∧ evtB e = true
  of : ∀ x ∈ c, ofB x x.f x.v x.d l = true
theorem Hist.nil : Hist [] [] := ⟨fun x hx => by simp at hx, List.Pairwise.nil, fun x hx => by simp at hx, fun x hx => by simp at hx⟩
theorem bump1_k (e : Evt) (x : Cel) : (bump1 e x).k = x.k := by unfold bump1; split <;> rfl
theorem Hist.cons {e : Evt} {l : List Evt} {c : List Cel} (h : Hist (e :: l) c) : Hist l (c.map (bump1 e)) := by
  have key : ∀ x ∈ c, celB (bump1 e x) = true ∧ ofB (bump1 e x) (bump1 e x).f (bump1 e x).v (bump1 e x).d l = true := fun x hx => by
    have h1 := h.cells x hx
    have h2 := h.of x hx
    rw [ofB] at h2
    unfold bump1
    split
    · rename_i hk
      rw [if_pos hk.symm] at h2
      split at h2
      · rename_i hn
        have hle := ofB_le h2
        have hm : max x.f e.n = e.n := by omega
        refine ⟨?_, ?_⟩
        · simp only [celB, isCellB, Bool.and_eq_true, decide_eq_true_eq] at h1 ⊢
          exact ⟨⟨h1.1.1, by omega⟩, by omega⟩
        · simp only
          rw [ofB_floor, hm]
          exact ofB_last h2
      · cases h2
    · rename_i hk
      rw [if_neg fun e => hk e.symm] at h2
      exact ⟨h1, h2⟩
  refine ⟨fun x hx => ?_, ?_, fun e' he => ?_, fun x hx => ?_⟩
  · obtain ⟨y, hy, rfl⟩ := List.mem_map.1 hx; exact (key y hy).1
  · refine List.pairwise_map.2 (h.rising.imp fun hab => by rw [bump1_k, bump1_k]; exact hab)
  · obtain ⟨⟨x, hx, hk⟩, h2⟩ := h.events e' (List.mem_cons_of_mem _ he)
    exact ⟨⟨bump1 e x, List.mem_map.2 ⟨x, hx, rfl⟩, by rw [bump1_k]; exact hk⟩, h2⟩
  · obtain ⟨y, hy, rfl⟩ := List.mem_map.1 hx; exact (key y hy).2
theorem Hist.bumps : ∀ {es l : List Evt} {c : List Cel}, Hist (es ++ l) c → Hist l (bumps es c)
  | [], _, _, h => h
  | e :: es, l, c, h => Hist.bumps (es := es) (Hist.cons h)
theorem Hist.cellOf {l : List Evt} {c : List Cel} (h : Hist l c) (k : Bs) :
    (0 ≤ (cellOf c k).f ∧ (cellOf c k).f ≤ (cellOf c k).n) ∧ ofB (cellOf c k) (cellOf c k).f (cellOf c k).v (cellOf c k).d l = true := by
  unfold Go.Proofs.YtnblecdpkbempaaGreatDoor.cellOf
  cases hg : getC c k with
  | none =>
    refine ⟨⟨Int.le_refl _, Int.le_refl _⟩, ofB_none fun e he hk => ?_⟩
    obtain ⟨⟨x, hx, hxk⟩, _⟩ := h.events e he
    exact getC_none hg x hx (hxk.trans hk)
  | some x =>
    obtain ⟨h1, h2⟩ := getC_some hg
    have := h.cells x h1
    simp only [celB, isCellB, Bool.and_eq_true, decide_eq_true_eq] at this
    exact ⟨⟨this.1.2, this.2⟩, h.of x h1⟩
def put1 (x : Cel) (w : Bs) : Cel := { x with n := x.n + 1, v := w, d := false }
def evt1 (x : Cel) (w : Bs) : Evt := ⟨x.k, x.n + 1, w, false⟩
/-- all versions are this great at most -/
def Most (c : List Cel) (n : Int) : Prop := ∀ z ∈ c, z.n ≤ n
theorem Most.cellOf {c : List Cel} {n : Int} (h : Most c n) (h0 : 0 ≤ n) (k : Bs) : (Go.Proofs.YtnblecdpkbempaaGreatDoor.cellOf c k).n ≤ n := by
  unfold Go.Proofs.YtnblecdpkbempaaGreatDoor.cellOf
  cases hg : getC c k with
  | none => exact h0
  | some x => exact h x (getC_some hg).1
/-! ### what comes after what was seen -/
end Go.Proofs.YtnblecdpkbempaaGreatDoor

namespace Go.Proofs.YtnblecdpkbempaaGreatDoor
open Go.RowKit
set_option linter.unusedSimpArgs false
set_option linter.unusedVariables false

def prevK (c : List Cel) (i : Nat) : Option Bs := if i = 0 then none else (c[i - 1]?).map (·.k)
theorem idx_first {c : List Cel} {p : Cel} (hp : c[0]? = some p) : idxB (prevK c 0) (c.drop 0) = (celB p && idxB (prevK c (0 + 1)) (c.drop (0 + 1))) := by
  rw [drop_get hp, idxB]; simp [prevK, hp, belowB]
theorem idx_next {c : List Cel} {i : Nat} {p q : Cel} (h0 : 0 < i) (hq : c[i - 1]? = some q) (hp : c[i]? = some p) : idxB (prevK c i) (c.drop i) = (celB p && blt q.k p.k && idxB (prevK c (i + 1)) (c.drop (i + 1))) := by
  rw [drop_get hp, idxB]; simp [prevK, hp, hq, belowB, show ¬ i = 0 by omega]
theorem idx_end (c : List Cel) : idxB (prevK c c.length) (c.drop c.length) = true := by rw [List.drop_length]; rfl
theorem getC_cons (p : Cel) (r : List Cel) (k : Bs) : getC (p :: r) k = if p.k = k then some p else getC r k := by
  unfold getC; by_cases h : p.k = k <;> simp [h]
def idx0 (p : Cel → Bool) : List Cel → Nat → Int
  | [], _ => -1
  | x :: r, i => if p x then i else idx0 p r (i + 1)
theorem idx0_any (p : Cel → Bool) : ∀ (l : List Cel) (i : Nat), decide (0 ≤ idx0 p l i) = l.any p
  | [], i => by simp [idx0]
  | x :: r, i => by
    rw [idx0, List.any_cons]
    by_cases h : p x = true
    · simp [h]
    · simp [h, idx0_any p r]
theorem celB_f {c : Cel} (h : celB c = true) : 0 ≤ c.f ∧ c.f ≤ 1000000000000 := by
  simp only [celB, isCellB, mayB, Bool.and_eq_true, decide_eq_true_eq] at h; omega
theorem evtB_n {e : Evt} (h : evtB e = true) : 0 ≤ e.n ∧ e.n ≤ 1000000000000 := by
  simp only [evtB, mayB, Bool.and_eq_true, decide_eq_true_eq] at h; omega
theorem beqb_dec (a b : Bool) : (a == b) = decide (a = b) := by cases a <;> cases b <;> rfl
def aftQ (s : Span) (seen : List Sn) (e : Evt) : Bool := hasB s e.k && decide (seenOf seen e.k < e.n)
set_option maxRecDepth 100000 in
set_option maxHeartbeats 1000000 in
theorem indexIs_fn (c : List Cel) : Fn Tryz.prog 117 [.sl (c.map encC)] (.bool (idxB none c)) := by
  refine Fn.mk' base Tryz.func117 rfl rfl rfl ?_
  refine AW.len 0 rfl (fun hlen => ?_)
  simp only [List.length_map, maxLen] at hlen
  repeat' ((conv => whnf); (first
   | (with_reducible first | refine AW.seq ?_ | refine AW.region base (by kernel_rfl) ?_ | refine AW.cond ?_ | refine AW.block ?_ | refine AW.ret ?_ | refine AW.exit ?_ | refine AW.skip ?_ | refine Br.t ?_ | refine Br.f ?_)
   | ((with_reducible refine Or.inl ?_); (conv => whnf); (with_reducible refine And.intro LitSl.mk ?_))
   | refine Br.t ?_
   | refine Br.f ?_
   | (with_reducible refine Br.mk (fun hb => ?_) (fun hb => (by exfalso; (first | (simp at hb; done) | omega | (simp at hb; omega) | fail))))
   | (with_reducible refine Br.mk (fun hb => (by exfalso; (first | (simp at hb; done) | omega | (simp at hb; omega) | fail))) (fun hb => ?_))
   | ((with_reducible refine Or.inl ?_); (conv => whnf); (first | (with_reducible first | refine ⟨_, cellIs_fn _ _ _ _ _, ?_⟩ | refine ⟨_, cellIsr_fn _ _ _ _ _, ?_⟩)))
   | (with_reducible refine Br.mk (fun hb => ?_) (fun hb => ?_) <;> (try rw [hb]) <;> (try simp only [List.length_map, decide_eq_true_eq, decide_eq_false_iff_not, Bool.not_eq_true', Bool.not_eq_false', Int.ofNat_lt, Int.ofNat_le, Int.not_lt, Int.not_le, Int.toNat_natCast] at hb))
   | ((with_reducible first | refine Or.inl (And.intro ?_ ?_) | refine And.intro ?_ ?_); (focus (first | with_reducible rfl | exact trivial | (exact ⟨rfl, trivial⟩) | (exact ⟨rfl, rfl, trivial⟩) | omega | (intro r hr; simp only [List.mem_singleton] at hr; subst hr; rfl)  | ((simp only [List.length_map] at *; omega)) | ((simp only [in64, maxLen] at *; omega)) | (simp only [in64]; omega) | assumption | (simp; done) | (simp [V.cells]; done) | (simp [in64, maxLen, limK] at *; omega) | ((show confB _ _ = true); kernel_rfl) | rfl)))
   | (intro row hrow; (try simp only [Int.toNat_natCast, List.length_map, toNat_pred, toNat_succ', toNat_zero', toNat_one'] at hrow); (first | (have hsm := same_map (by assumption) hrow; subst hsm; clear hrow) | (obtain ⟨p, hp, rfl⟩ := of_map hrow; clear hrow)))))
  refine AW.loop (fun (i : Nat) => i ≤ c.length ∧ idxB none c = idxB (prevK c i) (c.drop i)) (fun (i : Nat) => ⟨[(0, .sl (c.map encC)), (5, .sl (c.map encC)), (6, .int .i64 ((c.map encC).length : Int)), (7, .int .i64 (i : Int))], []⟩) (fun i => c.length - i) 0 ?_ ?_ ?_
  · exact ⟨Nat.zero_le _, rfl⟩
  · (refine ⟨⟨[], ?_⟩⟩; repeat' (first | (with_reducible rfl) | exact trivial | ((conv => whnf); (first | (with_reducible refine And.intro ?_ ?_) | (first | with_reducible rfl | ((first | refine congrArg V.str ?_ | refine congrArg (V.int _) ?_ | refine congrArg V.bool ?_ | refine congrArg V.sl ?_); (first | with_reducible rfl | omega | rfl | (simp; done))) | (first | with_reducible rfl | omega | rfl | (simp; done)) | rfl)))))
  · rintro i hk
    obtain ⟨hk1, hk2⟩ := hk
    rcases (by omega : i = c.length ∨ i < c.length) with hi | hi
    · subst hi
      repeat' ((conv => whnf); (first
       | (with_reducible first | refine AW.seq ?_ | refine AW.region base (by kernel_rfl) ?_ | refine AW.cond ?_ | refine AW.block ?_ | refine AW.ret ?_ | refine AW.exit ?_ | refine AW.skip ?_ | refine Br.t ?_ | refine Br.f ?_)
       | ((with_reducible refine Or.inl ?_); (conv => whnf); (with_reducible refine And.intro LitSl.mk ?_))
       | refine Br.t ?_
       | refine Br.f ?_
       | (with_reducible refine Br.mk (fun hb => ?_) (fun hb => (by exfalso; (first | (simp at hb; done) | omega | (simp at hb; omega) | fail))))
       | (with_reducible refine Br.mk (fun hb => (by exfalso; (first | (simp at hb; done) | omega | (simp at hb; omega) | fail))) (fun hb => ?_))
       | ((with_reducible refine Or.inl ?_); (conv => whnf); (first | (with_reducible first | refine ⟨_, cellIs_fn _ _ _ _ _, ?_⟩ | refine ⟨_, cellIsr_fn _ _ _ _ _, ?_⟩)))
       | (with_reducible refine Br.mk (fun hb => ?_) (fun hb => ?_) <;> (try rw [hb]) <;> (try simp only [List.length_map, decide_eq_true_eq, decide_eq_false_iff_not, Bool.not_eq_true', Bool.not_eq_false', Int.ofNat_lt, Int.ofNat_le, Int.not_lt, Int.not_le, Int.toNat_natCast] at hb))
       | ((with_reducible first | refine Or.inl (And.intro ?_ ?_) | refine And.intro ?_ ?_); (focus (first | with_reducible rfl | exact trivial | (exact ⟨rfl, trivial⟩) | (exact ⟨rfl, rfl, trivial⟩) | omega | (intro r hr; simp only [List.mem_singleton] at hr; subst hr; rfl)  | ((simp only [List.length_map] at *; omega)) | ((simp only [in64, maxLen] at *; omega)) | (simp only [in64]; omega) | assumption | (simp; done) | (simp [V.cells]; done) | (simp [in64, maxLen, limK] at *; omega) | ((show confB _ _ = true); kernel_rfl) | rfl)))
       | (intro row hrow; (try simp only [Int.toNat_natCast, List.length_map, toNat_pred, toNat_succ', toNat_zero', toNat_one'] at hrow); (first | (have hsm := same_map (by assumption) hrow; subst hsm; clear hrow) | (obtain ⟨p, hp, rfl⟩ := of_map hrow; clear hrow)))))
      all_goals ((conv => whnf); (refine congrArg V.bool ?_; rw [hk2, idx_end]))
    obtain ⟨p, hp⟩ : ∃ p, c[i]? = some p := ⟨_, List.getElem?_eq_getElem hi⟩
    obtain ⟨st, hst⟩ : ∃ st : Bool, idxB (prevK c i) (c.drop i) = (celB p && st && idxB (prevK c (i + 1)) (c.drop (i + 1))) ∧ ((i = 0 ∧ st = true) ∨ ∃ q, 0 < i ∧ c[i - 1]? = some q ∧ st = blt q.k p.k) := by
      rcases (by omega : i = 0 ∨ 0 < i) with h0 | h0
      · subst h0; exact ⟨true, by rw [idx_first hp]; simp, .inl ⟨rfl, rfl⟩⟩
      · obtain ⟨q, hq⟩ : ∃ q, c[i - 1]? = some q := ⟨_, List.getElem?_eq_getElem (by omega)⟩
        exact ⟨blt q.k p.k, by rw [idx_next h0 hq hp], .inr ⟨q, h0, hq, rfl⟩⟩
    obtain ⟨hst1, hst2⟩ := hst
    rw [hst1] at hk2
    rcases hst2 with ⟨h0, rfl⟩ | ⟨q, h0, hq, rfl⟩
    · subst h0
      repeat' ((conv => whnf); (first
       | (with_reducible first | refine AW.seq ?_ | refine AW.region base (by kernel_rfl) ?_ | refine AW.cond ?_ | refine AW.block ?_ | refine AW.ret ?_ | refine AW.exit ?_ | refine AW.skip ?_ | refine Br.t ?_ | refine Br.f ?_)
       | ((with_reducible refine Or.inl ?_); (conv => whnf); (with_reducible refine And.intro LitSl.mk ?_))
       | refine Br.t ?_
       | refine Br.f ?_
       | (with_reducible refine Br.mk (fun hb => ?_) (fun hb => (by exfalso; (first | (simp at hb; done) | omega | (simp at hb; omega) | fail))))
       | (with_reducible refine Br.mk (fun hb => (by exfalso; (first | (simp at hb; done) | omega | (simp at hb; omega) | fail))) (fun hb => ?_))
       | ((with_reducible refine Or.inl ?_); (conv => whnf); (first | (with_reducible first | refine ⟨_, cellIs_fn _ _ _ _ _, ?_⟩ | refine ⟨_, cellIsr_fn _ _ _ _ _, ?_⟩)))
       | (with_reducible refine Br.mk (fun hb => ?_) (fun hb => ?_) <;> (try rw [hb]) <;> (try simp only [List.length_map, decide_eq_true_eq, decide_eq_false_iff_not, Bool.not_eq_true', Bool.not_eq_false', Int.ofNat_lt, Int.ofNat_le, Int.not_lt, Int.not_le, Int.toNat_natCast] at hb))
       | ((with_reducible first | refine Or.inl (And.intro ?_ ?_) | refine And.intro ?_ ?_); (focus (first | with_reducible rfl | exact trivial | (exact ⟨rfl, trivial⟩) | (exact ⟨rfl, rfl, trivial⟩) | omega | (intro r hr; simp only [List.mem_singleton] at hr; subst hr; rfl)  | ((simp only [List.length_map] at *; omega)) | ((simp only [in64, maxLen] at *; omega)) | (simp only [in64]; omega) | assumption | (simp; done) | (simp [V.cells]; done) | (simp [in64, maxLen, limK] at *; omega) | ((show confB _ _ = true); kernel_rfl) | rfl)))
       | (intro row hrow; (try simp only [Int.toNat_natCast, List.length_map, toNat_pred, toNat_succ', toNat_zero', toNat_one'] at hrow); (first | (have hsm := same_map (by assumption) hrow; subst hsm; clear hrow) | (obtain ⟨p, hp, rfl⟩ := of_map hrow; clear hrow)))))
      all_goals (try first | with_reducible assumption | ((first | show (_ : Int) ≤ _ | show (_ : Nat) ≤ _ | show (_ : Int) < _ | show ¬ (_ : Int) = _); (first | omega | (simp at *; omega) | (simp; done) | (simp [maxLen]; done))) | ((show in64 _); (simp only [in64] at *; (first | omega | (simp at *; omega) | (simp; done) | (simp [maxLen]; done)))) | ((with_reducible refine And.intro ?_ ?_) <;> (first | omega | (simp at *; omega) | (simp; done) | (simp [maxLen]; done))))
      all_goals (first
        | (with_reducible exact absurd rfl (by assumption))
        | ((conv => whnf); (refine ⟨1, ?_⟩); (refine And.intro ?_ (And.intro ?_ ?_)); (focus (refine ⟨⟨[], ?_⟩⟩; repeat' (first | (with_reducible rfl) | exact trivial | ((conv => whnf); (first | (with_reducible refine And.intro ?_ ?_) | (first | with_reducible rfl | ((first | refine congrArg V.str ?_ | refine congrArg (V.int _) ?_ | refine congrArg V.bool ?_ | refine congrArg V.sl ?_); (first | with_reducible rfl | omega | rfl | (simp; done))) | (first | with_reducible rfl | omega | rfl | (simp; done)) | rfl)))))); (focus (refine ⟨by omega, ?_⟩; rw [hk2]; simp_all [celB])); (focus omega))
        | ((conv => whnf); (refine congrArg V.bool ?_; rw [hk2]; simp_all [celB]; done)))
    · skip
      repeat' ((conv => whnf); (first
       | (with_reducible first | refine AW.seq ?_ | refine AW.region base (by kernel_rfl) ?_ | refine AW.cond ?_ | refine AW.block ?_ | refine AW.ret ?_ | refine AW.exit ?_ | refine AW.skip ?_ | refine Br.t ?_ | refine Br.f ?_)
       | ((with_reducible refine Or.inl ?_); (conv => whnf); (with_reducible refine And.intro LitSl.mk ?_))
       | refine Br.t ?_
       | refine Br.f ?_
       | (with_reducible refine Br.mk (fun hb => ?_) (fun hb => (by exfalso; (first | (simp at hb; done) | omega | (simp at hb; omega) | fail))))
       | (with_reducible refine Br.mk (fun hb => (by exfalso; (first | (simp at hb; done) | omega | (simp at hb; omega) | fail))) (fun hb => ?_))
       | ((with_reducible refine Or.inl ?_); (conv => whnf); (first | (with_reducible first | refine ⟨_, cellIs_fn _ _ _ _ _, ?_⟩ | refine ⟨_, cellIsr_fn _ _ _ _ _, ?_⟩)))
       | (with_reducible refine Br.mk (fun hb => ?_) (fun hb => ?_) <;> (try rw [hb]) <;> (try simp only [List.length_map, decide_eq_true_eq, decide_eq_false_iff_not, Bool.not_eq_true', Bool.not_eq_false', Int.ofNat_lt, Int.ofNat_le, Int.not_lt, Int.not_le, Int.toNat_natCast] at hb))
       | ((with_reducible first | refine Or.inl (And.intro ?_ ?_) | refine And.intro ?_ ?_); (focus (first | with_reducible rfl | exact trivial | (exact ⟨rfl, trivial⟩) | (exact ⟨rfl, rfl, trivial⟩) | omega | (intro r hr; simp only [List.mem_singleton] at hr; subst hr; rfl)  | ((simp only [List.length_map] at *; omega)) | ((simp only [in64, maxLen] at *; omega)) | (simp only [in64]; omega) | assumption | (simp; done) | (simp [V.cells]; done) | (simp [in64, maxLen, limK] at *; omega) | ((show confB _ _ = true); kernel_rfl) | rfl)))
       | (intro row hrow; (try simp only [Int.toNat_natCast, List.length_map, toNat_pred, toNat_succ', toNat_zero', toNat_one'] at hrow); (first | (have hsm := same_map (by assumption) hrow; subst hsm; clear hrow) | (obtain ⟨p, hp, rfl⟩ := of_map hrow; clear hrow)))))
      all_goals (try first | with_reducible assumption | ((first | show (_ : Int) ≤ _ | show (_ : Nat) ≤ _ | show (_ : Int) < _ | show ¬ (_ : Int) = _); (first | omega | (simp at *; omega) | (simp; done) | (simp [maxLen]; done))) | ((show in64 _); (simp only [in64] at *; (first | omega | (simp at *; omega) | (simp; done) | (simp [maxLen]; done)))) | ((with_reducible refine And.intro ?_ ?_) <;> (first | omega | (simp at *; omega) | (simp; done) | (simp [maxLen]; done))))
      all_goals (first
        | (with_reducible exact absurd rfl (by assumption))
        | ((conv => whnf); (refine ⟨i + 1, ?_⟩); (refine And.intro ?_ (And.intro ?_ ?_)); (focus (refine ⟨⟨[], ?_⟩⟩; repeat' (first | (with_reducible rfl) | exact trivial | ((conv => whnf); (first | (with_reducible refine And.intro ?_ ?_) | (first | with_reducible rfl | ((first | refine congrArg V.str ?_ | refine congrArg (V.int _) ?_ | refine congrArg V.bool ?_ | refine congrArg V.sl ?_); (first | with_reducible rfl | omega | rfl | (simp; done))) | (first | with_reducible rfl | omega | rfl | (simp; done)) | rfl)))))); (focus (refine ⟨by omega, ?_⟩; rw [hk2]; simp_all [celB])); (focus omega))
        | ((conv => whnf); (refine congrArg V.bool ?_; rw [hk2]; simp_all [celB]; done)))


set_option maxRecDepth 100000 in
set_option maxHeartbeats 1000000 in
theorem isIndexr_fn (c : List Cel) : Fn Tryz.prog 74 [.sl (c.map encC)] (.bool (idxB none c)) := by
  refine Fn.mk' base Tryz.func74 rfl rfl rfl ?_
  refine AW.len 0 rfl (fun hlen => ?_)
  simp only [List.length_map, maxLen] at hlen
  repeat' ((conv => whnf); (first
   | (with_reducible first | refine AW.seq ?_ | refine AW.region base (by kernel_rfl) ?_ | refine AW.cond ?_ | refine AW.block ?_ | refine AW.ret ?_ | refine AW.exit ?_ | refine AW.skip ?_ | refine Br.t ?_ | refine Br.f ?_)
   | ((with_reducible refine Or.inl ?_); (conv => whnf); (with_reducible refine And.intro LitSl.mk ?_))
   | refine Br.t ?_
   | refine Br.f ?_
   | (with_reducible refine Br.mk (fun hb => ?_) (fun hb => (by exfalso; (first | (simp at hb; done) | omega | (simp at hb; omega) | fail))))
   | (with_reducible refine Br.mk (fun hb => (by exfalso; (first | (simp at hb; done) | omega | (simp at hb; omega) | fail))) (fun hb => ?_))
   | ((with_reducible refine Or.inl ?_); (conv => whnf); (first | (with_reducible first | refine ⟨_, cellIs_fn _ _ _ _ _, ?_⟩ | refine ⟨_, cellIsr_fn _ _ _ _ _, ?_⟩)))
   | (with_reducible refine Br.mk (fun hb => ?_) (fun hb => ?_) <;> (try rw [hb]) <;> (try simp only [List.length_map, decide_eq_true_eq, decide_eq_false_iff_not, Bool.not_eq_true', Bool.not_eq_false', Int.ofNat_lt, Int.ofNat_le, Int.not_lt, Int.not_le, Int.toNat_natCast] at hb))
   | ((with_reducible first | refine Or.inl (And.intro ?_ ?_) | refine And.intro ?_ ?_); (focus (first | with_reducible rfl | exact trivial | (exact ⟨rfl, trivial⟩) | (exact ⟨rfl, rfl, trivial⟩) | omega | (intro r hr; simp only [List.mem_singleton] at hr; subst hr; rfl)  | ((simp only [List.length_map] at *; omega)) | ((simp only [in64, maxLen] at *; omega)) | (simp only [in64]; omega) | assumption | (simp; done) | (simp [V.cells]; done) | (simp [in64, maxLen, limK] at *; omega) | ((show confB _ _ = true); kernel_rfl) | rfl)))
   | (intro row hrow; (try simp only [Int.toNat_natCast, List.length_map, toNat_pred, toNat_succ', toNat_zero', toNat_one'] at hrow); (first | (have hsm := same_map (by assumption) hrow; subst hsm; clear hrow) | (obtain ⟨p, hp, rfl⟩ := of_map hrow; clear hrow)))))
  refine AW.loop (fun (i : Nat) => i ≤ c.length ∧ idxB none c = idxB (prevK c i) (c.drop i)) (fun (i : Nat) => ⟨[(0, .sl (c.map encC)), (3, .int .i64 (i : Int))], []⟩) (fun i => c.length - i) 0 ?_ ?_ ?_
  · exact ⟨Nat.zero_le _, rfl⟩
  · (refine ⟨⟨[], ?_⟩⟩; repeat' (first | (with_reducible rfl) | exact trivial | ((conv => whnf); (first | (with_reducible refine And.intro ?_ ?_) | (first | with_reducible rfl | ((first | refine congrArg V.str ?_ | refine congrArg (V.int _) ?_ | refine congrArg V.bool ?_ | refine congrArg V.sl ?_); (first | with_reducible rfl | omega | rfl | (simp; done))) | (first | with_reducible rfl | omega | rfl | (simp; done)) | rfl)))))
  · rintro i hk
    obtain ⟨hk1, hk2⟩ := hk
    rcases (by omega : i = c.length ∨ i < c.length) with hi | hi
    · subst hi
      repeat' ((conv => whnf); (first
       | (with_reducible first | refine AW.seq ?_ | refine AW.region base (by kernel_rfl) ?_ | refine AW.cond ?_ | refine AW.block ?_ | refine AW.ret ?_ | refine AW.exit ?_ | refine AW.skip ?_ | refine Br.t ?_ | refine Br.f ?_)
       | ((with_reducible refine Or.inl ?_); (conv => whnf); (with_reducible refine And.intro LitSl.mk ?_))
       | refine Br.t ?_
       | refine Br.f ?_
       | (with_reducible refine Br.mk (fun hb => ?_) (fun hb => (by exfalso; (first | (simp at hb; done) | omega | (simp at hb; omega) | fail))))
       | (with_reducible refine Br.mk (fun hb => (by exfalso; (first | (simp at hb; done) | omega | (simp at hb; omega) | fail))) (fun hb => ?_))
       | ((with_reducible refine Or.inl ?_); (conv => whnf); (first | (with_reducible first | refine ⟨_, cellIs_fn _ _ _ _ _, ?_⟩ | refine ⟨_, cellIsr_fn _ _ _ _ _, ?_⟩)))
       | (with_reducible refine Br.mk (fun hb => ?_) (fun hb => ?_) <;> (try rw [hb]) <;> (try simp only [List.length_map, decide_eq_true_eq, decide_eq_false_iff_not, Bool.not_eq_true', Bool.not_eq_false', Int.ofNat_lt, Int.ofNat_le, Int.not_lt, Int.not_le, Int.toNat_natCast] at hb))
       | ((with_reducible first | refine Or.inl (And.intro ?_ ?_) | refine And.intro ?_ ?_); (focus (first | with_reducible rfl | exact trivial | (exact ⟨rfl, trivial⟩) | (exact ⟨rfl, rfl, trivial⟩) | omega | (intro r hr; simp only [List.mem_singleton] at hr; subst hr; rfl)  | ((simp only [List.length_map] at *; omega)) | ((simp only [in64, maxLen] at *; omega)) | (simp only [in64]; omega) | assumption | (simp; done) | (simp [V.cells]; done) | (simp [in64, maxLen, limK] at *; omega) | ((show confB _ _ = true); kernel_rfl) | rfl)))
       | (intro row hrow; (try simp only [Int.toNat_natCast, List.length_map, toNat_pred, toNat_succ', toNat_zero', toNat_one'] at hrow); (first | (have hsm := same_map (by assumption) hrow; subst hsm; clear hrow) | (obtain ⟨p, hp, rfl⟩ := of_map hrow; clear hrow)))))
      all_goals ((conv => whnf); (refine congrArg V.bool ?_; rw [hk2, idx_end]))
    obtain ⟨p, hp⟩ : ∃ p, c[i]? = some p := ⟨_, List.getElem?_eq_getElem hi⟩
    obtain ⟨st, hst⟩ : ∃ st : Bool, idxB (prevK c i) (c.drop i) = (celB p && st && idxB (prevK c (i + 1)) (c.drop (i + 1))) ∧ ((i = 0 ∧ st = true) ∨ ∃ q, 0 < i ∧ c[i - 1]? = some q ∧ st = blt q.k p.k) := by
      rcases (by omega : i = 0 ∨ 0 < i) with h0 | h0
      · subst h0; exact ⟨true, by rw [idx_first hp]; simp, .inl ⟨rfl, rfl⟩⟩
      · obtain ⟨q, hq⟩ : ∃ q, c[i - 1]? = some q := ⟨_, List.getElem?_eq_getElem (by omega)⟩
        exact ⟨blt q.k p.k, by rw [idx_next h0 hq hp], .inr ⟨q, h0, hq, rfl⟩⟩
    obtain ⟨hst1, hst2⟩ := hst
    rw [hst1] at hk2
    rcases hst2 with ⟨h0, rfl⟩ | ⟨q, h0, hq, rfl⟩
    · subst h0
      repeat' ((conv => whnf); (first
       | (with_reducible first | refine AW.seq ?_ | refine AW.region base (by kernel_rfl) ?_ | refine AW.cond ?_ | refine AW.block ?_ | refine AW.ret ?_ | refine AW.exit ?_ | refine AW.skip ?_ | refine Br.t ?_ | refine Br.f ?_)
       | ((with_reducible refine Or.inl ?_); (conv => whnf); (with_reducible refine And.intro LitSl.mk ?_))
       | refine Br.t ?_
       | refine Br.f ?_
       | (with_reducible refine Br.mk (fun hb => ?_) (fun hb => (by exfalso; (first | (simp at hb; done) | omega | (simp at hb; omega) | fail))))
       | (with_reducible refine Br.mk (fun hb => (by exfalso; (first | (simp at hb; done) | omega | (simp at hb; omega) | fail))) (fun hb => ?_))
       | ((with_reducible refine Or.inl ?_); (conv => whnf); (first | (with_reducible first | refine ⟨_, cellIs_fn _ _ _ _ _, ?_⟩ | refine ⟨_, cellIsr_fn _ _ _ _ _, ?_⟩)))
       | (with_reducible refine Br.mk (fun hb => ?_) (fun hb => ?_) <;> (try rw [hb]) <;> (try simp only [List.length_map, decide_eq_true_eq, decide_eq_false_iff_not, Bool.not_eq_true', Bool.not_eq_false', Int.ofNat_lt, Int.ofNat_le, Int.not_lt, Int.not_le, Int.toNat_natCast] at hb))
       | ((with_reducible first | refine Or.inl (And.intro ?_ ?_) | refine And.intro ?_ ?_); (focus (first | with_reducible rfl | exact trivial | (exact ⟨rfl, trivial⟩) | (exact ⟨rfl, rfl, trivial⟩) | omega | (intro r hr; simp only [List.mem_singleton] at hr; subst hr; rfl)  | ((simp only [List.length_map] at *; omega)) | ((simp only [in64, maxLen] at *; omega)) | (simp only [in64]; omega) | assumption | (simp; done) | (simp [V.cells]; done) | (simp [in64, maxLen, limK] at *; omega) | ((show confB _ _ = true); kernel_rfl) | rfl)))
       | (intro row hrow; (try simp only [Int.toNat_natCast, List.length_map, toNat_pred, toNat_succ', toNat_zero', toNat_one'] at hrow); (first | (have hsm := same_map (by assumption) hrow; subst hsm; clear hrow) | (obtain ⟨p, hp, rfl⟩ := of_map hrow; clear hrow)))))
      all_goals (try first | with_reducible assumption | ((first | show (_ : Int) ≤ _ | show (_ : Nat) ≤ _ | show (_ : Int) < _ | show ¬ (_ : Int) = _); (first | omega | (simp at *; omega) | (simp; done) | (simp [maxLen]; done))) | ((show in64 _); (simp only [in64] at *; (first | omega | (simp at *; omega) | (simp; done) | (simp [maxLen]; done)))) | ((with_reducible refine And.intro ?_ ?_) <;> (first | omega | (simp at *; omega) | (simp; done) | (simp [maxLen]; done))))
      all_goals (first
        | (with_reducible exact absurd rfl (by assumption))
        | ((conv => whnf); (refine ⟨1, ?_⟩); (refine And.intro ?_ (And.intro ?_ ?_)); (focus (refine ⟨⟨[], ?_⟩⟩; repeat' (first | (with_reducible rfl) | exact trivial | ((conv => whnf); (first | (with_reducible refine And.intro ?_ ?_) | (first | with_reducible rfl | ((first | refine congrArg V.str ?_ | refine congrArg (V.int _) ?_ | refine congrArg V.bool ?_ | refine congrArg V.sl ?_); (first | with_reducible rfl | omega | rfl | (simp; done))) | (first | with_reducible rfl | omega | rfl | (simp; done)) | rfl)))))); (focus (refine ⟨by omega, ?_⟩; rw [hk2]; simp_all [celB])); (focus omega))
        | ((conv => whnf); (refine congrArg V.bool ?_; rw [hk2]; simp_all [celB]; done)))
    · skip
      repeat' ((conv => whnf); (first
       | (with_reducible first | refine AW.seq ?_ | refine AW.region base (by kernel_rfl) ?_ | refine AW.cond ?_ | refine AW.block ?_ | refine AW.ret ?_ | refine AW.exit ?_ | refine AW.skip ?_ | refine Br.t ?_ | refine Br.f ?_)
       | ((with_reducible refine Or.inl ?_); (conv => whnf); (with_reducible refine And.intro LitSl.mk ?_))
       | refine Br.t ?_
       | refine Br.f ?_
       | (with_reducible refine Br.mk (fun hb => ?_) (fun hb => (by exfalso; (first | (simp at hb; done) | omega | (simp at hb; omega) | fail))))
       | (with_reducible refine Br.mk (fun hb => (by exfalso; (first | (simp at hb; done) | omega | (simp at hb; omega) | fail))) (fun hb => ?_))
       | ((with_reducible refine Or.inl ?_); (conv => whnf); (first | (with_reducible first | refine ⟨_, cellIs_fn _ _ _ _ _, ?_⟩ | refine ⟨_, cellIsr_fn _ _ _ _ _, ?_⟩)))
       | (with_reducible refine Br.mk (fun hb => ?_) (fun hb => ?_) <;> (try rw [hb]) <;> (try simp only [List.length_map, decide_eq_true_eq, decide_eq_false_iff_not, Bool.not_eq_true', Bool.not_eq_false', Int.ofNat_lt, Int.ofNat_le, Int.not_lt, Int.not_le, Int.toNat_natCast] at hb))
       | ((with_reducible first | refine Or.inl (And.intro ?_ ?_) | refine And.intro ?_ ?_); (focus (first | with_reducible rfl | exact trivial | (exact ⟨rfl, trivial⟩) | (exact ⟨rfl, rfl, trivial⟩) | omega | (intro r hr; simp only [List.mem_singleton] at hr; subst hr; rfl)  | ((simp only [List.length_map] at *; omega)) | ((simp only [in64, maxLen] at *; omega)) | (simp only [in64]; omega) | assumption | (simp; done) | (simp [V.cells]; done) | (simp [in64, maxLen, limK] at *; omega) | ((show confB _ _ = true); kernel_rfl) | rfl)))
       | (intro row hrow; (try simp only [Int.toNat_natCast, List.length_map, toNat_pred, toNat_succ', toNat_zero', toNat_one'] at hrow); (first | (have hsm := same_map (by assumption) hrow; subst hsm; clear hrow) | (obtain ⟨p, hp, rfl⟩ := of_map hrow; clear hrow)))))
      all_goals (try first | with_reducible assumption | ((first | show (_ : Int) ≤ _ | show (_ : Nat) ≤ _ | show (_ : Int) < _ | show ¬ (_ : Int) = _); (first | omega | (simp at *; omega) | (simp; done) | (simp [maxLen]; done))) | ((show in64 _); (simp only [in64] at *; (first | omega | (simp at *; omega) | (simp; done) | (simp [maxLen]; done)))) | ((with_reducible refine And.intro ?_ ?_) <;> (first | omega | (simp at *; omega) | (simp; done) | (simp [maxLen]; done))))
      all_goals (first
        | (with_reducible exact absurd rfl (by assumption))
        | ((conv => whnf); (refine ⟨i + 1, ?_⟩); (refine And.intro ?_ (And.intro ?_ ?_)); (focus (refine ⟨⟨[], ?_⟩⟩; repeat' (first | (with_reducible rfl) | exact trivial | ((conv => whnf); (first | (with_reducible refine And.intro ?_ ?_) | (first | with_reducible rfl | ((first | refine congrArg V.str ?_ | refine congrArg (V.int _) ?_ | refine congrArg V.bool ?_ | refine congrArg V.sl ?_); (first | with_reducible rfl | omega | rfl | (simp; done))) | (first | with_reducible rfl | omega | rfl | (simp; done)) | rfl)))))); (focus (refine ⟨by omega, ?_⟩; rw [hk2]; simp_all [celB])); (focus omega))
        | ((conv => whnf); (refine congrArg V.bool ?_; rw [hk2]; simp_all [celB]; done)))


set_option maxRecDepth 100000 in
set_option maxHeartbeats 400000 in
theorem get_fn (c : List Cel) (k : Bs) : Fn Tryz.prog 118 [.sl (c.map encC), .str k] (.tup [.agg [.str k, .str (cellOf c k).v, .int .i64 (cellOf c k).n, .bool (cellOf c k).d, .int .i64 (cellOf c k).f], .bool (getC c k).isSome]) := by
  refine Fn.mk' base Tryz.func118 rfl rfl rfl ?_
  refine AW.len 0 rfl (fun hlen => ?_)
  simp only [List.length_map, maxLen] at hlen
  repeat' ((conv => whnf); (first
   | (with_reducible first | refine AW.seq ?_ | refine AW.region base (by kernel_rfl) ?_ | refine AW.cond ?_ | refine AW.block ?_ | refine AW.ret ?_ | refine AW.exit ?_ | refine AW.skip ?_ | refine Br.t ?_ | refine Br.f ?_)
   | ((with_reducible refine Or.inl ?_); (conv => whnf); (with_reducible refine And.intro LitSl.mk ?_))
   | refine Br.t ?_
   | refine Br.f ?_
   | (with_reducible refine Br.mk (fun hb => ?_) (fun hb => ?_) <;> (try rw [hb]) <;> (try simp only [List.length_map, decide_eq_true_eq, decide_eq_false_iff_not, Bool.not_eq_true', Bool.not_eq_false', Int.ofNat_lt, Int.ofNat_le, Int.not_lt, Int.not_le, Int.toNat_natCast] at hb))
   | ((with_reducible first | refine Or.inl (And.intro ?_ ?_) | refine And.intro ?_ ?_); (focus (first | with_reducible rfl | exact trivial | (exact ⟨rfl, trivial⟩) | (exact ⟨rfl, rfl, trivial⟩) | omega | (intro r hr; simp only [List.mem_singleton] at hr; subst hr; rfl)  | ((simp only [List.length_map] at *; omega)) | ((simp only [in64, maxLen] at *; omega)) | (simp only [in64]; omega) | assumption | (simp; done) | (simp [V.cells]; done) | (simp [in64, maxLen, limK] at *; omega) | ((show confB _ _ = true); kernel_rfl) | rfl)))
   | (intro row hrow; (try simp only [Int.toNat_natCast, List.length_map, toNat_pred, toNat_succ', toNat_zero', toNat_one'] at hrow); (first | (have hsm := same_map (by assumption) hrow; subst hsm; clear hrow) | (obtain ⟨p, hp, rfl⟩ := of_map hrow; clear hrow)))))
  refine AW.loop (fun (i : Nat) => i ≤ c.length ∧ getC c k = getC (c.drop i) k) (fun (i : Nat) => ⟨[(0, .sl (c.map encC)), (1, .str k), (4, .ptr 0 0), (8, .sl (c.map encC)), (9, .int .i64 ((c.map encC).length : Int)), (10, .int .i64 (i : Int))], [.cells [.str [], .str [], .int .i64 0, .bool false, .int .i64 0]]⟩) (fun (i : Nat) => c.length - i) 0 ?_ ?_ ?_
  · (exact ⟨Nat.zero_le _, rfl⟩)
  · (refine ⟨⟨[1000], ?_⟩⟩; repeat' (first | (with_reducible rfl) | exact trivial | ((conv => whnf); (first | (with_reducible refine And.intro ?_ ?_) | (first | with_reducible rfl | ((first | refine congrArg V.str ?_ | refine congrArg (V.int _) ?_ | refine congrArg V.bool ?_ | refine congrArg V.sl ?_); (first | with_reducible rfl | omega | rfl | (simp; done))) | (first | with_reducible rfl | omega | rfl | (simp; done)) | rfl)))))
  · rintro i hk
    repeat' ((conv => whnf); (first
     | (with_reducible first | refine AW.seq ?_ | refine AW.region base (by kernel_rfl) ?_ | refine AW.cond ?_ | refine AW.block ?_ | refine AW.ret ?_ | refine AW.exit ?_ | refine AW.skip ?_ | refine Br.t ?_ | refine Br.f ?_)
     | ((with_reducible refine Or.inl ?_); (conv => whnf); (with_reducible refine And.intro LitSl.mk ?_))
     | refine Br.t ?_
     | refine Br.f ?_
     | (with_reducible refine Br.mk (fun hb => ?_) (fun hb => ?_) <;> (try rw [hb]) <;> (try simp only [List.length_map, decide_eq_true_eq, decide_eq_false_iff_not, Bool.not_eq_true', Bool.not_eq_false', Int.ofNat_lt, Int.ofNat_le, Int.not_lt, Int.not_le, Int.toNat_natCast] at hb))
     | ((with_reducible first | refine Or.inl (And.intro ?_ ?_) | refine And.intro ?_ ?_); (focus (first | with_reducible rfl | exact trivial | (exact ⟨rfl, trivial⟩) | (exact ⟨rfl, rfl, trivial⟩) | omega | (intro r hr; simp only [List.mem_singleton] at hr; subst hr; rfl)  | ((simp only [List.length_map] at *; omega)) | ((simp only [in64, maxLen] at *; omega)) | (simp only [in64]; omega) | assumption | (simp; done) | (simp [V.cells]; done) | (simp [in64, maxLen, limK] at *; omega) | ((show confB _ _ = true); kernel_rfl) | rfl)))
     | (intro row hrow; (try simp only [Int.toNat_natCast, List.length_map, toNat_pred, toNat_succ', toNat_zero', toNat_one'] at hrow); (first | (have hsm := same_map (by assumption) hrow; subst hsm; clear hrow) | (obtain ⟨p, hp, rfl⟩ := of_map hrow; clear hrow)))))
    all_goals (try first | with_reducible assumption | ((first | show (_ : Int) ≤ _ | show (_ : Nat) ≤ _ | show (_ : Int) < _ | show ¬ (_ : Int) = _); (first | omega | (simp at *; omega))) | ((show in64 _); (simp only [in64] at *; (first | omega | (simp at *; omega)))) | ((with_reducible refine And.intro ?_ ?_) <;> (first | omega | (simp at *; omega))))
    all_goals (first
      | (with_reducible exact absurd rfl (by assumption))
      | ((conv => whnf); (refine ⟨(i + 1), ?_⟩); (refine And.intro ?_ (And.intro ?_ ?_)); (focus (refine ⟨⟨[0], ?_⟩⟩; repeat' (first | (with_reducible rfl) | exact trivial | ((conv => whnf); (first | (with_reducible refine And.intro ?_ ?_) | (first | with_reducible rfl | ((first | refine congrArg V.str ?_ | refine congrArg (V.int _) ?_ | refine congrArg V.bool ?_ | refine congrArg V.sl ?_); (first | with_reducible rfl | omega | rfl | (simp; done))) | (first | with_reducible rfl | omega | rfl | (simp; done)) | rfl)))))); (focus (refine ⟨by omega, ?_⟩; rw [hk.2, drop_get hp, getC_cons, if_neg (by simpa using hb)])); (focus (first | omega | (dsimp only; omega) | (simp; done) | (simp; omega) | (simp at *; omega))))
      | ((conv => whnf); (try (first | rfl | (exfalso; simp_all; done) | (exfalso; simp at *; omega) | (have e : getC c k = some p := (by rw [hk.2, drop_get hp, getC_cons, if_pos (by simpa using hb)]); have hpk : p.k = k := (by simpa using hb); simp [cellOf, e, hpk]; done) | (have e : getC c k = none := (by rw [hk.2, List.drop_of_length_le (by simp at *; omega)]; rfl); simp [cellOf, e, cel0]; done))); done))


set_option maxRecDepth 100000 in
set_option maxHeartbeats 400000 in
theorem getr_fn (c : List Cel) (k : Bs) : Fn Tryz.prog 75 [.sl (c.map encC), .str k] (.tup [.agg [.str k, .str (cellOf c k).v, .int .i64 (cellOf c k).n, .bool (cellOf c k).d, .int .i64 (cellOf c k).f], .bool (getC c k).isSome]) := by
  refine Fn.mk' base Tryz.func75 rfl rfl rfl ?_
  refine AW.len 0 rfl (fun hlen => ?_)
  simp only [List.length_map, maxLen] at hlen
  repeat' ((conv => whnf); (first
   | (with_reducible first | refine AW.seq ?_ | refine AW.region base (by kernel_rfl) ?_ | refine AW.cond ?_ | refine AW.block ?_ | refine AW.ret ?_ | refine AW.exit ?_ | refine AW.skip ?_ | refine Br.t ?_ | refine Br.f ?_)
   | ((with_reducible refine Or.inl ?_); (conv => whnf); (with_reducible refine And.intro LitSl.mk ?_))
   | refine Br.t ?_
   | refine Br.f ?_
   | (with_reducible refine Br.mk (fun hb => ?_) (fun hb => ?_) <;> (try rw [hb]) <;> (try simp only [List.length_map, decide_eq_true_eq, decide_eq_false_iff_not, Bool.not_eq_true', Bool.not_eq_false', Int.ofNat_lt, Int.ofNat_le, Int.not_lt, Int.not_le, Int.toNat_natCast] at hb))
   | ((with_reducible first | refine Or.inl (And.intro ?_ ?_) | refine And.intro ?_ ?_); (focus (first | with_reducible rfl | exact trivial | (exact ⟨rfl, trivial⟩) | (exact ⟨rfl, rfl, trivial⟩) | omega | (intro r hr; simp only [List.mem_singleton] at hr; subst hr; rfl)  | ((simp only [List.length_map] at *; omega)) | ((simp only [in64, maxLen] at *; omega)) | (simp only [in64]; omega) | assumption | (simp; done) | (simp [V.cells]; done) | (simp [in64, maxLen, limK] at *; omega) | ((show confB _ _ = true); kernel_rfl) | rfl)))
   | (intro row hrow; (try simp only [Int.toNat_natCast, List.length_map, toNat_pred, toNat_succ', toNat_zero', toNat_one'] at hrow); (first | (have hsm := same_map (by assumption) hrow; subst hsm; clear hrow) | (obtain ⟨p, hp, rfl⟩ := of_map hrow; clear hrow)))))
  refine AW.loop (fun (i : Nat) => i ≤ c.length ∧ getC c k = getC (c.drop i) k) (fun (i : Nat) => ⟨[(0, .sl (c.map encC)), (1, .str k), (4, .ptr 0 0), (6, .int .i64 (i : Int))], [.cells [.str [], .str [], .int .i64 0, .bool false, .int .i64 0]]⟩) (fun (i : Nat) => c.length - i) 0 ?_ ?_ ?_
  · (exact ⟨Nat.zero_le _, rfl⟩)
  · (refine ⟨⟨[1000], ?_⟩⟩; repeat' (first | (with_reducible rfl) | exact trivial | ((conv => whnf); (first | (with_reducible refine And.intro ?_ ?_) | (first | with_reducible rfl | ((first | refine congrArg V.str ?_ | refine congrArg (V.int _) ?_ | refine congrArg V.bool ?_ | refine congrArg V.sl ?_); (first | with_reducible rfl | omega | rfl | (simp; done))) | (first | with_reducible rfl | omega | rfl | (simp; done)) | rfl)))))
  · rintro i hk
    repeat' ((conv => whnf); (first
     | (with_reducible first | refine AW.seq ?_ | refine AW.region base (by kernel_rfl) ?_ | refine AW.cond ?_ | refine AW.block ?_ | refine AW.ret ?_ | refine AW.exit ?_ | refine AW.skip ?_ | refine Br.t ?_ | refine Br.f ?_)
     | ((with_reducible refine Or.inl ?_); (conv => whnf); (with_reducible refine And.intro LitSl.mk ?_))
     | refine Br.t ?_
     | refine Br.f ?_
     | (with_reducible refine Br.mk (fun hb => ?_) (fun hb => ?_) <;> (try rw [hb]) <;> (try simp only [List.length_map, decide_eq_true_eq, decide_eq_false_iff_not, Bool.not_eq_true', Bool.not_eq_false', Int.ofNat_lt, Int.ofNat_le, Int.not_lt, Int.not_le, Int.toNat_natCast] at hb))
     | ((with_reducible first | refine Or.inl (And.intro ?_ ?_) | refine And.intro ?_ ?_); (focus (first | with_reducible rfl | exact trivial | (exact ⟨rfl, trivial⟩) | (exact ⟨rfl, rfl, trivial⟩) | omega | (intro r hr; simp only [List.mem_singleton] at hr; subst hr; rfl)  | ((simp only [List.length_map] at *; omega)) | ((simp only [in64, maxLen] at *; omega)) | (simp only [in64]; omega) | assumption | (simp; done) | (simp [V.cells]; done) | (simp [in64, maxLen, limK] at *; omega) | ((show confB _ _ = true); kernel_rfl) | rfl)))
     | (intro row hrow; (try simp only [Int.toNat_natCast, List.length_map, toNat_pred, toNat_succ', toNat_zero', toNat_one'] at hrow); (first | (have hsm := same_map (by assumption) hrow; subst hsm; clear hrow) | (obtain ⟨p, hp, rfl⟩ := of_map hrow; clear hrow)))))
    all_goals (try first | with_reducible assumption | ((first | show (_ : Int) ≤ _ | show (_ : Nat) ≤ _ | show (_ : Int) < _ | show ¬ (_ : Int) = _); (first | omega | (simp at *; omega))) | ((show in64 _); (simp only [in64] at *; (first | omega | (simp at *; omega)))) | ((with_reducible refine And.intro ?_ ?_) <;> (first | omega | (simp at *; omega))))
    all_goals (first
      | (with_reducible exact absurd rfl (by assumption))
      | ((conv => whnf); (refine ⟨(i + 1), ?_⟩); (refine And.intro ?_ (And.intro ?_ ?_)); (focus (refine ⟨⟨[0], ?_⟩⟩; repeat' (first | (with_reducible rfl) | exact trivial | ((conv => whnf); (first | (with_reducible refine And.intro ?_ ?_) | (first | with_reducible rfl | ((first | refine congrArg V.str ?_ | refine congrArg (V.int _) ?_ | refine congrArg V.bool ?_ | refine congrArg V.sl ?_); (first | with_reducible rfl | omega | rfl | (simp; done))) | (first | with_reducible rfl | omega | rfl | (simp; done)) | rfl)))))); (focus (refine ⟨by omega, ?_⟩; rw [hk.2, drop_get hp, getC_cons, if_neg (by simpa using hb)])); (focus (first | omega | (dsimp only; omega) | (simp; done) | (simp; omega) | (simp at *; omega))))
      | ((conv => whnf); (try (first | rfl | (exfalso; simp_all; done) | (exfalso; simp at *; omega) | (have e : getC c k = some p := (by rw [hk.2, drop_get hp, getC_cons, if_pos (by simpa using hb)]); have hpk : p.k = k := (by simpa using hb); simp [cellOf, e, hpk]; done) | (have e : getC c k = none := (by rw [hk.2, List.drop_of_length_le (by simp at *; omega)]; rfl); simp [cellOf, e, cel0]; done))); done))


set_option maxRecDepth 100000 in
set_option maxHeartbeats 1000000 in
theorem of_fn (l : List Evt) (c : Cel) (he : ∀ e ∈ l, evtB e = true) (hc : celB c = true) : Fn Tryz.prog 121 [.sl (l.map encE), .agg [.str c.k, .str c.v, .int .i64 c.n, .bool c.d, .int .i64 c.f]] (.bool (ofB c c.f c.v c.d l)) := by
  refine Fn.mk' base Tryz.func121 rfl rfl rfl ?_
  refine AW.len 0 rfl (fun hlen => ?_)
  simp only [List.length_map, maxLen] at hlen
  repeat' ((conv => whnf); (first
   | (with_reducible first | refine AW.seq ?_ | refine AW.region base (by kernel_rfl) ?_ | refine AW.cond ?_ | refine AW.block ?_ | refine AW.ret ?_ | refine AW.exit ?_ | refine AW.skip ?_ | refine Br.t ?_ | refine Br.f ?_)
   | ((with_reducible refine Or.inl ?_); (conv => whnf); (with_reducible refine And.intro LitSl.mk ?_))
   | refine Br.t ?_
   | refine Br.f ?_
   | (with_reducible refine Br.mk (fun hb => ?_) (fun hb => ?_) <;> (try rw [hb]) <;> (try simp only [List.length_map, decide_eq_true_eq, decide_eq_false_iff_not, Bool.not_eq_true', Bool.not_eq_false', Int.ofNat_lt, Int.ofNat_le, Int.not_lt, Int.not_le, Int.toNat_natCast] at hb))
   | ((with_reducible first | refine Or.inl (And.intro ?_ ?_) | refine And.intro ?_ ?_); (focus (first | with_reducible rfl | exact trivial | (exact ⟨rfl, trivial⟩) | (exact ⟨rfl, rfl, trivial⟩) | omega | (intro r hr; simp only [List.mem_singleton] at hr; subst hr; rfl)  | ((simp only [List.length_map] at *; omega)) | ((simp only [in64, maxLen] at *; omega)) | (simp only [in64]; omega) | assumption | (simp; done) | (simp [V.cells]; done) | (simp [in64, maxLen, limK] at *; omega) | ((show confB _ _ = true); kernel_rfl) | rfl)))
   | (intro row hrow; (try simp only [Int.toNat_natCast, List.length_map, toNat_pred, toNat_succ', toNat_zero', toNat_one'] at hrow); (first | (have hsm := same_map (by assumption) hrow; subst hsm; clear hrow) | (obtain ⟨p, hp, rfl⟩ := of_map hrow; clear hrow)))))
  refine AW.loop (fun (⟨i, a, lk, ln, lv, ld⟩ : Nat × Int × Bs × Int × Bs × Bool) => i ≤ l.length ∧ ofB c c.f c.v c.d l = ofB c a lv ld (l.drop i) ∧ 0 ≤ a ∧ a ≤ 1000000000000) (fun (⟨i, a, lk, ln, lv, ld⟩ : Nat × Int × Bs × Int × Bs × Bool) => ⟨[(0, .sl (l.map encE)), (3, .ptr 0 0), (5, .int .i64 a), (6, .ptr 1 0), (16, .sl (l.map encE)), (17, .int .i64 ((l.map encE).length : Int)), (18, .int .i64 (i : Int))], [.cells [.str c.k, .str c.v, .int .i64 c.n, .bool c.d, .int .i64 c.f], .cells [.str lk, .int .i64 ln, .str lv, .bool ld]]⟩) (fun (⟨i, a, lk, ln, lv, ld⟩ : Nat × Int × Bs × Int × Bs × Bool) => l.length - i) (0, c.f, [], 0, c.v, c.d) ?_ ?_ ?_
  · (exact ⟨Nat.zero_le _, rfl, celB_f hc⟩)
  · (refine ⟨⟨[1000, 3005], ?_⟩⟩; repeat' (first | (with_reducible rfl) | exact trivial | ((conv => whnf); (first | (with_reducible refine And.intro ?_ ?_) | (first | with_reducible rfl | ((first | refine congrArg V.str ?_ | refine congrArg (V.int _) ?_ | refine congrArg V.bool ?_ | refine congrArg V.sl ?_); (first | with_reducible rfl | omega | rfl | (simp; done))) | (first | with_reducible rfl | omega | rfl | (simp; done)) | rfl)))))
  · rintro ⟨i, a, lk, ln, lv, ld⟩ hk
    obtain ⟨hk1, hk2, hk3, hk4⟩ := hk
    rcases (by omega : i = l.length ∨ i < l.length) with hi | hi
    · subst hi
      rw [List.drop_length] at hk2
      repeat' ((conv => whnf); (first
       | (with_reducible first | refine AW.seq ?_ | refine AW.region base (by kernel_rfl) ?_ | refine AW.cond ?_ | refine AW.block ?_ | refine AW.ret ?_ | refine AW.exit ?_ | refine AW.skip ?_ | refine Br.t ?_ | refine Br.f ?_)
       | ((with_reducible refine Or.inl ?_); (conv => whnf); (with_reducible refine And.intro LitSl.mk ?_))
       | refine Br.t ?_
       | refine Br.f ?_
       | (with_reducible refine Br.mk (fun hb => ?_) (fun hb => (by exfalso; (first | (simp at hb; done) | omega | (simp at hb; omega) | fail))))
       | (with_reducible refine Br.mk (fun hb => (by exfalso; (first | (simp at hb; done) | omega | (simp at hb; omega) | fail))) (fun hb => ?_))
       | (with_reducible refine Br.mk (fun hb => ?_) (fun hb => ?_) <;> (try rw [hb]) <;> (try simp only [List.length_map, decide_eq_true_eq, decide_eq_false_iff_not, Bool.not_eq_true', Bool.not_eq_false', Int.ofNat_lt, Int.ofNat_le, Int.not_lt, Int.not_le, Int.toNat_natCast] at hb))
       | ((with_reducible first | refine Or.inl (And.intro ?_ ?_) | refine And.intro ?_ ?_); (focus (first | with_reducible rfl | exact trivial | (exact ⟨rfl, trivial⟩) | (exact ⟨rfl, rfl, trivial⟩) | omega | (intro r hr; simp only [List.mem_singleton] at hr; subst hr; rfl)  | ((simp only [List.length_map] at *; omega)) | ((simp only [in64, maxLen] at *; omega)) | (simp only [in64]; omega) | assumption | (simp; done) | (simp [V.cells]; done) | (simp [in64, maxLen, limK] at *; omega) | ((show confB _ _ = true); kernel_rfl) | rfl)))
       | (intro row hrow; (try simp only [Int.toNat_natCast, List.length_map, toNat_pred, toNat_succ', toNat_zero', toNat_one'] at hrow); (first | (have hsm := same_map (by assumption) hrow; subst hsm; clear hrow) | (obtain ⟨p, hp, rfl⟩ := of_map hrow; clear hrow)))))
      all_goals ((conv => whnf); (refine congrArg V.bool ?_; rw [hk2]; simp only [ofB]; simp_all [beqb_dec]))
    obtain ⟨p, hp⟩ : ∃ p, l[i]? = some p := ⟨_, List.getElem?_eq_getElem hi⟩
    rw [drop_get hp, ofB] at hk2
    have hen := evtB_n (he p (List.mem_of_getElem? hp))
    repeat' ((conv => whnf); (first
     | (with_reducible first | refine AW.seq ?_ | refine AW.region base (by kernel_rfl) ?_ | refine AW.cond ?_ | refine AW.block ?_ | refine AW.ret ?_ | refine AW.exit ?_ | refine AW.skip ?_ | refine Br.t ?_ | refine Br.f ?_)
     | ((with_reducible refine Or.inl ?_); (conv => whnf); (with_reducible refine And.intro LitSl.mk ?_))
     | refine Br.t ?_
     | refine Br.f ?_
     | (with_reducible refine Br.mk (fun hb => ?_) (fun hb => ?_) <;> (try rw [hb]) <;> (try simp only [List.length_map, decide_eq_true_eq, decide_eq_false_iff_not, Bool.not_eq_true', Bool.not_eq_false', Int.ofNat_lt, Int.ofNat_le, Int.not_lt, Int.not_le, Int.toNat_natCast] at hb))
     | ((with_reducible first | refine Or.inl (And.intro ?_ ?_) | refine And.intro ?_ ?_); (focus (first | with_reducible rfl | exact trivial | (exact ⟨rfl, trivial⟩) | (exact ⟨rfl, rfl, trivial⟩) | omega | (intro r hr; simp only [List.mem_singleton] at hr; subst hr; rfl)  | ((simp only [List.length_map] at *; omega)) | ((simp only [in64, maxLen] at *; omega)) | (simp only [in64]; omega) | assumption | (simp; done) | (simp [V.cells]; done) | (simp [in64, maxLen, limK] at *; omega) | ((show confB _ _ = true); kernel_rfl) | rfl)))
     | (intro row hrow; (try simp only [Int.toNat_natCast, List.length_map, toNat_pred, toNat_succ', toNat_zero', toNat_one'] at hrow); (first | (have hsm := same_map (by assumption) hrow; subst hsm; clear hrow) | (obtain ⟨p, hp, rfl⟩ := of_map hrow; clear hrow)))))
    all_goals (try first | with_reducible assumption | ((first | show (_ : Int) ≤ _ | show (_ : Nat) ≤ _ | show (_ : Int) < _ | show ¬ (_ : Int) = _); (first | omega | (simp at *; omega))) | ((show in64 _); (simp only [in64] at *; (first | omega | (simp at *; omega)))) | ((with_reducible refine And.intro ?_ ?_) <;> (first | omega | (simp at *; omega))))
    all_goals (first
      | (with_reducible exact absurd rfl (by assumption))
      | ((conv => whnf); (refine ⟨(i + 1, ?_, ?_, ?_, ?_, ?_), ?_⟩); (rotate_left 5); (refine And.intro ?_ (And.intro ?_ ?_)); (focus (refine ⟨⟨[0, 1], ?_⟩⟩; repeat' (first | (with_reducible rfl) | exact trivial | ((conv => whnf); (first | (with_reducible refine And.intro ?_ ?_) | (first | with_reducible rfl | ((first | refine congrArg V.str ?_ | refine congrArg (V.int _) ?_ | refine congrArg V.bool ?_ | refine congrArg V.sl ?_); (first | with_reducible rfl | omega | rfl | (simp; done))) | (first | with_reducible rfl | omega | rfl | (simp; done)) | rfl)))))); (focus (refine ⟨by omega, ?_, by omega, by omega⟩; rw [hk2]; simp_all)); (focus (first | omega | (dsimp only; omega) | (simp; done) | (simp; omega) | (simp at *; omega))))
      | ((conv => whnf); (try (first | rfl | (exfalso; simp_all; done) | (exfalso; simp at *; omega) | (refine congrArg V.bool ?_; rw [hk2]; simp_all; done))); done))


set_option maxRecDepth 100000 in
set_option maxHeartbeats 400000 in
theorem isL_fn (l : List Evt) (c : Cel) (he : ∀ e ∈ l, evtB e = true) (hc : celB c = true) : Fn Tryz.prog 120 [.agg [.str c.k, .str c.v, .int .i64 c.n, .bool c.d, .int .i64 c.f], .elt [.sl (l.map encE)] 0] (.bool (!ofB c c.f c.v c.d l)) := by
  refine Fn.mk' base Tryz.func120 rfl rfl rfl ?_
  repeat' ((conv => whnf); (first
   | (with_reducible first | refine AW.seq ?_ | refine AW.region base (by kernel_rfl) ?_ | refine AW.cond ?_ | refine AW.block ?_ | refine AW.ret ?_ | refine AW.exit ?_ | refine AW.skip ?_ | refine Br.t ?_ | refine Br.f ?_)
   | ((with_reducible refine Or.inl ?_); (conv => whnf); (with_reducible refine And.intro LitSl.mk ?_))
   | refine Br.t ?_
   | refine Br.f ?_
   | ((with_reducible refine Or.inl ?_); (conv => whnf); (first | (with_reducible first | refine ⟨_, of_fn _ c he hc, ?_⟩)))
   | (with_reducible refine Br.mk (fun hb => ?_) (fun hb => ?_) <;> (try rw [hb]) <;> (try simp only [List.length_map, decide_eq_true_eq, decide_eq_false_iff_not, Bool.not_eq_true', Bool.not_eq_false', Int.ofNat_lt, Int.ofNat_le, Int.not_lt, Int.not_le, Int.toNat_natCast] at hb))
   | ((with_reducible first | refine Or.inl (And.intro ?_ ?_) | refine And.intro ?_ ?_); (focus (first | with_reducible rfl | exact trivial | (exact ⟨rfl, trivial⟩) | (exact ⟨rfl, rfl, trivial⟩) | omega | (intro r hr; simp only [List.mem_singleton] at hr; subst hr; rfl)  | ((simp only [List.length_map] at *; omega)) | ((simp only [in64, maxLen] at *; omega)) | (simp only [in64]; omega) | assumption | (simp; done) | (simp [V.cells]; done) | (simp [in64, maxLen, limK] at *; omega) | ((show confB _ _ = true); kernel_rfl) | rfl)))
   | (intro row hrow; (try simp only [Int.toNat_natCast, List.length_map, toNat_pred, toNat_succ', toNat_zero', toNat_one'] at hrow); (first | (have hsm := same_map (by assumption) hrow; subst hsm; clear hrow) | (obtain ⟨p, hp, rfl⟩ := of_map hrow; clear hrow)))))
  all_goals (conv => whnf)
  all_goals (first | rfl | (simp only [V.bool.injEq, V.tup.injEq, V.agg.injEq, V.str.injEq, V.int.injEq, V.sl.injEq, V.ifc.injEq, List.cons.injEq, and_true, true_and, and_self]; done) | (simp only [V.bool.injEq, V.tup.injEq, V.agg.injEq, V.str.injEq, V.int.injEq, V.sl.injEq, V.ifc.injEq, List.cons.injEq, and_true, true_and, and_self]; grind) | (simp  at *; done) | (simp  at *; grind))

set_option maxRecDepth 100000 in
set_option maxHeartbeats 400000 in
theorem indexFunc_fn (l : List Evt) (c : List Cel) (he : ∀ e ∈ l, evtB e = true) (hc : ∀ x ∈ c, celB x = true) : Fn Tryz.prog 116 [.sl (c.map encC), .fn 120 [.elt [.sl (l.map encE)] 0]] (.int .i64 (idx0 (fun x => !ofB x x.f x.v x.d l) c 0)) := by
  refine Fn.mk' base Tryz.func116 rfl rfl rfl ?_
  refine AW.len 0 rfl (fun hlen => ?_)
  simp only [List.length_map, maxLen] at hlen
  repeat' ((conv => whnf); (first
   | (with_reducible first | refine AW.seq ?_ | refine AW.region base (by kernel_rfl) ?_ | refine AW.cond ?_ | refine AW.block ?_ | refine AW.ret ?_ | refine AW.exit ?_ | refine AW.skip ?_ | refine Br.t ?_ | refine Br.f ?_)
   | ((with_reducible refine Or.inl ?_); (conv => whnf); (with_reducible refine And.intro LitSl.mk ?_))
   | refine Br.t ?_
   | refine Br.f ?_
   | (with_reducible refine Br.mk (fun hb => ?_) (fun hb => ?_) <;> (try rw [hb]) <;> (try simp only [List.length_map, decide_eq_true_eq, decide_eq_false_iff_not, Bool.not_eq_true', Bool.not_eq_false', Int.ofNat_lt, Int.ofNat_le, Int.not_lt, Int.not_le, Int.toNat_natCast] at hb))
   | ((with_reducible first | refine Or.inl (And.intro ?_ ?_) | refine And.intro ?_ ?_); (focus (first | with_reducible rfl | exact trivial | (exact ⟨rfl, trivial⟩) | (exact ⟨rfl, rfl, trivial⟩) | omega | (intro r hr; simp only [List.mem_singleton] at hr; subst hr; rfl)  | ((simp only [List.length_map] at *; omega)) | ((simp only [in64, maxLen] at *; omega)) | (simp only [in64]; omega) | assumption | (simp; done) | (simp [V.cells]; done) | (simp [in64, maxLen, limK] at *; omega) | ((show confB _ _ = true); kernel_rfl) | rfl)))
   | (intro row hrow; (try simp only [Int.toNat_natCast, List.length_map, toNat_pred, toNat_succ', toNat_zero', toNat_one'] at hrow); (first | (have hsm := same_map (by assumption) hrow; subst hsm; clear hrow) | (obtain ⟨p, hp, rfl⟩ := of_map hrow; clear hrow)))))
  refine AW.loop (fun (i : Nat) => i ≤ c.length ∧ idx0 (fun x => !ofB x x.f x.v x.d l) c 0 = idx0 (fun x => !ofB x x.f x.v x.d l) (c.drop i) i) (fun (i : Nat) => ⟨[(0, .sl (c.map encC)), (1, .fn 120 [.elt [.sl (l.map encE)] 0]), (6, .sl (c.map encC)), (7, .int .i64 ((c.map encC).length : Int)), (8, .int .i64 (i : Int))], []⟩) (fun (i : Nat) => c.length - i) 0 ?_ ?_ ?_
  · (exact ⟨Nat.zero_le _, rfl⟩)
  · (refine ⟨⟨[], ?_⟩⟩; repeat' (first | (with_reducible rfl) | exact trivial | ((conv => whnf); (first | (with_reducible refine And.intro ?_ ?_) | (first | with_reducible rfl | ((first | refine congrArg V.str ?_ | refine congrArg (V.int _) ?_ | refine congrArg V.bool ?_ | refine congrArg V.sl ?_); (first | with_reducible rfl | omega | rfl | (simp; done))) | (first | with_reducible rfl | omega | rfl | (simp; done)) | rfl)))))
  · rintro i hk
    repeat' ((conv => whnf); (first
     | (with_reducible first | refine AW.seq ?_ | refine AW.region base (by kernel_rfl) ?_ | refine AW.cond ?_ | refine AW.block ?_ | refine AW.ret ?_ | refine AW.exit ?_ | refine AW.skip ?_ | refine Br.t ?_ | refine Br.f ?_)
     | ((with_reducible refine Or.inl ?_); (conv => whnf); (with_reducible refine And.intro LitSl.mk ?_))
     | refine Br.t ?_
     | refine Br.f ?_
     | ((with_reducible refine Or.inl ?_); (conv => whnf); (first | (with_reducible first | refine ⟨_, isL_fn _ p he (hc p (List.mem_of_getElem? hp)), ?_⟩)))
     | (with_reducible refine Br.mk (fun hb => ?_) (fun hb => ?_) <;> (try rw [hb]) <;> (try simp only [List.length_map, decide_eq_true_eq, decide_eq_false_iff_not, Bool.not_eq_true', Bool.not_eq_false', Int.ofNat_lt, Int.ofNat_le, Int.not_lt, Int.not_le, Int.toNat_natCast] at hb))
     | ((with_reducible first | refine Or.inl (And.intro ?_ ?_) | refine And.intro ?_ ?_); (focus (first | with_reducible rfl | exact trivial | (exact ⟨rfl, trivial⟩) | (exact ⟨rfl, rfl, trivial⟩) | omega | (intro r hr; simp only [List.mem_singleton] at hr; subst hr; rfl)  | ((simp only [List.length_map] at *; omega)) | ((simp only [in64, maxLen] at *; omega)) | (simp only [in64]; omega) | assumption | (simp; done) | (simp [V.cells]; done) | (simp [in64, maxLen, limK] at *; omega) | ((show confB _ _ = true); kernel_rfl) | rfl)))
     | (intro row hrow; (try simp only [Int.toNat_natCast, List.length_map, toNat_pred, toNat_succ', toNat_zero', toNat_one'] at hrow); (first | (have hsm := same_map (by assumption) hrow; subst hsm; clear hrow) | (obtain ⟨p, hp, rfl⟩ := of_map hrow; clear hrow)))))
    all_goals (try first | with_reducible assumption | ((first | show (_ : Int) ≤ _ | show (_ : Nat) ≤ _ | show (_ : Int) < _ | show ¬ (_ : Int) = _); (first | omega | (simp at *; omega))) | ((show in64 _); (simp only [in64] at *; (first | omega | (simp at *; omega)))) | ((with_reducible refine And.intro ?_ ?_) <;> (first | omega | (simp at *; omega))))
    all_goals (first
      | (with_reducible exact absurd rfl (by assumption))
      | ((conv => whnf); (refine ⟨(i + 1), ?_⟩); (refine And.intro ?_ (And.intro ?_ ?_)); (focus (refine ⟨⟨[], ?_⟩⟩; repeat' (first | (with_reducible rfl) | exact trivial | ((conv => whnf); (first | (with_reducible refine And.intro ?_ ?_) | (first | with_reducible rfl | ((first | refine congrArg V.str ?_ | refine congrArg (V.int _) ?_ | refine congrArg V.bool ?_ | refine congrArg V.sl ?_); (first | with_reducible rfl | omega | rfl | (simp; done))) | (first | with_reducible rfl | omega | rfl | (simp; done)) | rfl)))))); (focus (refine ⟨by omega, ?_⟩; rw [hk.2, drop_get hp, idx0]; simp_all)); (focus (first | omega | (dsimp only; omega) | (simp; done) | (simp; omega) | (simp at *; omega))))
      | ((conv => whnf); (try (first | rfl | (exfalso; simp_all; done) | (exfalso; simp at *; omega) | (refine congrArg (V.int _) ?_; rw [hk.2, drop_get hp, idx0]; simp_all; done) | (refine congrArg (V.int _) ?_; rw [hk.2, List.drop_of_length_le (by simp at *; omega)]; rfl))); done))


set_option maxRecDepth 100000 in
set_option maxHeartbeats 400000 in
theorem containsFunc_fn (l : List Evt) (c : List Cel) (he : ∀ e ∈ l, evtB e = true) (hc : ∀ x ∈ c, celB x = true) : Fn Tryz.prog 81 [.sl (c.map encC), .fn 120 [.elt [.sl (l.map encE)] 0]] (.bool (c.any (fun x => !ofB x x.f x.v x.d l))) := by
  refine Fn.mk' base Tryz.func81 rfl rfl rfl ?_
  repeat' ((conv => whnf); (first
   | (with_reducible first | refine AW.seq ?_ | refine AW.region base (by kernel_rfl) ?_ | refine AW.cond ?_ | refine AW.block ?_ | refine AW.ret ?_ | refine AW.exit ?_ | refine AW.skip ?_ | refine Br.t ?_ | refine Br.f ?_)
   | ((with_reducible refine Or.inl ?_); (conv => whnf); (with_reducible refine And.intro LitSl.mk ?_))
   | refine Br.t ?_
   | refine Br.f ?_
   | ((with_reducible refine Or.inl ?_); (conv => whnf); (first | (with_reducible first | refine ⟨_, indexFunc_fn _ _ he hc, ?_⟩)))
   | (with_reducible refine Br.mk (fun hb => ?_) (fun hb => ?_) <;> (try rw [hb]) <;> (try simp only [List.length_map, decide_eq_true_eq, decide_eq_false_iff_not, Bool.not_eq_true', Bool.not_eq_false', Int.ofNat_lt, Int.ofNat_le, Int.not_lt, Int.not_le, Int.toNat_natCast] at hb))
   | ((with_reducible first | refine Or.inl (And.intro ?_ ?_) | refine And.intro ?_ ?_); (focus (first | with_reducible rfl | exact trivial | (exact ⟨rfl, trivial⟩) | (exact ⟨rfl, rfl, trivial⟩) | omega | (intro r hr; simp only [List.mem_singleton] at hr; subst hr; rfl)  | ((simp only [List.length_map] at *; omega)) | ((simp only [in64, maxLen] at *; omega)) | (simp only [in64]; omega) | assumption | (simp; done) | (simp [V.cells]; done) | (simp [in64, maxLen, limK] at *; omega) | ((show confB _ _ = true); kernel_rfl) | rfl)))
   | (intro row hrow; (try simp only [Int.toNat_natCast, List.length_map, toNat_pred, toNat_succ', toNat_zero', toNat_one'] at hrow); (first | (have hsm := same_map (by assumption) hrow; subst hsm; clear hrow) | (obtain ⟨p, hp, rfl⟩ := of_map hrow; clear hrow)))))
  all_goals (conv => whnf)
  all_goals (first | rfl | (simp only [V.bool.injEq, V.tup.injEq, V.agg.injEq, V.str.injEq, V.int.injEq, V.sl.injEq, V.ifc.injEq, List.cons.injEq, and_true, true_and, and_self]; done) | (simp only [V.bool.injEq, V.tup.injEq, V.agg.injEq, V.str.injEq, V.int.injEq, V.sl.injEq, V.ifc.injEq, List.cons.injEq, and_true, true_and, and_self]; grind) | (simp  at *; done) | (simp  at *; grind) | (exact congrArg V.bool (idx0_any _ _ _)))

theorem all_step {l : List Evt} {i : Nat} {p : Evt} {f : Evt → Bool} (hp : l[i]? = some p) (h : (l.take i).all f = true) (h2 : f p = true) : (l.take (i + 1)).all f = true := by
  rw [take_get hp, List.all_append, h]; simp [h2]
theorem all_no {l : List Evt} {i : Nat} {p : Evt} {f : Evt → Bool} (hp : l[i]? = some p) (h2 : f p = false) : l.all f = false := by
  rw [List.all_eq_false]; exact ⟨p, List.mem_of_getElem? hp, by simp [h2]⟩
theorem hist_e {l : List Evt} {c : List Cel} {i : Nat} (h : i ≤ l.length ∧ (l.take i).all (fun e => (getC c e.k).isSome && evtB e) = true) (hi : l.length ≤ i) : ∀ e ∈ l, evtB e = true := fun e he => by
  have h2 := h.2
  rw [List.take_of_length_le hi, List.all_eq_true] at h2
  have := h2 e he
  simp only [Bool.and_eq_true] at this
  exact this.2
theorem hist_c {c : List Cel} (h : idxB none c = true) : ∀ x ∈ c, celB x = true := ((idxB_iff c none).1 h).1
theorem all_neg {c : List Cel} {f : Cel → Bool} : (!c.any fun x => !f x) = c.all f := by
  induction c with
  | nil => rfl
  | cons x r ih => rw [List.any_cons, List.all_cons, ← ih]; cases f x <;> simp

set_option maxRecDepth 100000 in
set_option maxHeartbeats 1000000 in
theorem histIs_fn (l : List Evt) (c : List Cel) : Fn Tryz.prog 82 [.sl (l.map encE), .sl (c.map encC)] (.bool (histB l c)) := by
  refine Fn.mk' base Tryz.func82 rfl rfl rfl ?_
  refine AW.len 0 rfl (fun hlen => ?_)
  simp only [List.length_map, maxLen] at hlen
  repeat' ((conv => whnf); (first
   | (with_reducible first | refine AW.seq ?_ | refine AW.region base (by kernel_rfl) ?_ | refine AW.cond ?_ | refine AW.block ?_ | refine AW.ret ?_ | refine AW.exit ?_ | refine AW.skip ?_ | refine Br.t ?_ | refine Br.f ?_)
   | ((with_reducible refine Or.inl ?_); (conv => whnf); (with_reducible refine And.intro LitSl.mk ?_))
   | refine Br.t ?_
   | refine Br.f ?_
   | ((with_reducible refine Or.inl ?_); (conv => whnf); (first | (with_reducible first | refine ⟨_, indexIs_fn _, ?_⟩ | refine ⟨_, get_fn _ _, ?_⟩ | refine ⟨_, isEvent_fn _ _ _ _, ?_⟩ | refine ⟨_, containsFunc_fn _ _ (hist_e (by assumption) (by simp at *; omega)) (hist_c (by assumption)), ?_⟩)))
   | (with_reducible refine Br.mk (fun hb => ?_) (fun hb => ?_) <;> (try rw [hb]) <;> (try simp only [List.length_map, decide_eq_true_eq, decide_eq_false_iff_not, Bool.not_eq_true', Bool.not_eq_false', Int.ofNat_lt, Int.ofNat_le, Int.not_lt, Int.not_le, Int.toNat_natCast] at hb))
   | ((with_reducible first | refine Or.inl (And.intro ?_ ?_) | refine And.intro ?_ ?_); (focus (first | with_reducible rfl | exact trivial | (exact ⟨rfl, trivial⟩) | (exact ⟨rfl, rfl, trivial⟩) | omega | (intro r hr; simp only [List.mem_singleton] at hr; subst hr; rfl)  | ((simp only [List.length_map] at *; omega)) | ((simp only [in64, maxLen] at *; omega)) | (simp only [in64]; omega) | assumption | (simp; done) | (simp [V.cells]; done) | (simp [in64, maxLen, limK] at *; omega) | ((show confB _ _ = true); kernel_rfl) | rfl)))
   | (intro row hrow; (try simp only [Int.toNat_natCast, List.length_map, toNat_pred, toNat_succ', toNat_zero', toNat_one'] at hrow); (first | (have hsm := same_map (by assumption) hrow; subst hsm; clear hrow) | (obtain ⟨p, hp, rfl⟩ := of_map hrow; clear hrow)))))
  · (conv => whnf); (refine congrArg V.bool ?_); simp_all [histB]
  refine AW.loop (fun (i : Nat) => i ≤ l.length ∧ (l.take i).all (fun e => (getC c e.k).isSome && evtB e) = true) (fun (i : Nat) => ⟨[(1, .sl (c.map encC)), (2, .ptr 0 0), (12, .sl (l.map encE)), (13, .int .i64 ((l.map encE).length : Int)), (14, .int .i64 (i : Int))], [.cells [.sl (l.map encE)]]⟩) (fun (i : Nat) => l.length - i) 0 ?_ ?_ ?_
  · (exact ⟨Nat.zero_le _, rfl⟩)
  · (refine ⟨⟨[1000], ?_⟩⟩; repeat' (first | (with_reducible rfl) | exact trivial | ((conv => whnf); (first | (with_reducible refine And.intro ?_ ?_) | (first | with_reducible rfl | ((first | refine congrArg V.str ?_ | refine congrArg (V.int _) ?_ | refine congrArg V.bool ?_ | refine congrArg V.sl ?_); (first | with_reducible rfl | omega | rfl | (simp; done))) | (first | with_reducible rfl | omega | rfl | (simp; done)) | rfl)))))
  · rintro i hk
    repeat' ((conv => whnf); (first
     | (with_reducible first | refine AW.seq ?_ | refine AW.region base (by kernel_rfl) ?_ | refine AW.cond ?_ | refine AW.block ?_ | refine AW.ret ?_ | refine AW.exit ?_ | refine AW.skip ?_ | refine Br.t ?_ | refine Br.f ?_)
     | ((with_reducible refine Or.inl ?_); (conv => whnf); (with_reducible refine And.intro LitSl.mk ?_))
     | refine Br.t ?_
     | refine Br.f ?_
     | ((with_reducible refine Or.inl ?_); (conv => whnf); (first | (with_reducible first | refine ⟨_, indexIs_fn _, ?_⟩ | refine ⟨_, get_fn _ _, ?_⟩ | refine ⟨_, isEvent_fn _ _ _ _, ?_⟩ | refine ⟨_, containsFunc_fn _ _ (hist_e (by assumption) (by simp at *; omega)) (hist_c (by assumption)), ?_⟩)))
     | (with_reducible refine Br.mk (fun hb => ?_) (fun hb => ?_) <;> (try rw [hb]) <;> (try simp only [List.length_map, decide_eq_true_eq, decide_eq_false_iff_not, Bool.not_eq_true', Bool.not_eq_false', Int.ofNat_lt, Int.ofNat_le, Int.not_lt, Int.not_le, Int.toNat_natCast] at hb))
     | ((with_reducible first | refine Or.inl (And.intro ?_ ?_) | refine And.intro ?_ ?_); (focus (first | with_reducible rfl | exact trivial | (exact ⟨rfl, trivial⟩) | (exact ⟨rfl, rfl, trivial⟩) | omega | (intro r hr; simp only [List.mem_singleton] at hr; subst hr; rfl)  | ((simp only [List.length_map] at *; omega)) | ((simp only [in64, maxLen] at *; omega)) | (simp only [in64]; omega) | assumption | (simp; done) | (simp [V.cells]; done) | (simp [in64, maxLen, limK] at *; omega) | ((show confB _ _ = true); kernel_rfl) | rfl)))
     | (intro row hrow; (try simp only [Int.toNat_natCast, List.length_map, toNat_pred, toNat_succ', toNat_zero', toNat_one'] at hrow); (first | (have hsm := same_map (by assumption) hrow; subst hsm; clear hrow) | (obtain ⟨p, hp, rfl⟩ := of_map hrow; clear hrow)))))
    all_goals (try first | with_reducible assumption | ((first | show (_ : Int) ≤ _ | show (_ : Nat) ≤ _ | show (_ : Int) < _ | show ¬ (_ : Int) = _); (first | omega | (simp at *; omega))) | ((show in64 _); (simp only [in64] at *; (first | omega | (simp at *; omega)))) | ((with_reducible refine And.intro ?_ ?_) <;> (first | omega | (simp at *; omega))))
    all_goals (first
      | (with_reducible exact absurd rfl (by assumption))
      | ((conv => whnf); (refine ⟨(i + 1), ?_⟩); (refine And.intro ?_ (And.intro ?_ ?_)); (focus (refine ⟨⟨[0], ?_⟩⟩; repeat' (first | (with_reducible rfl) | exact trivial | ((conv => whnf); (first | (with_reducible refine And.intro ?_ ?_) | (first | with_reducible rfl | ((first | refine congrArg V.str ?_ | refine congrArg (V.int _) ?_ | refine congrArg V.bool ?_ | refine congrArg V.sl ?_); (first | with_reducible rfl | omega | rfl | (simp; done))) | (first | with_reducible rfl | omega | rfl | (simp; done)) | rfl)))))); (focus (refine ⟨by omega, all_step hp hk.2 ?_⟩; simp_all [evtB])); (focus (first | omega | (dsimp only; omega) | (simp; done) | (simp; omega) | (simp at *; omega))))
      | ((conv => whnf); (try (first | rfl | (exfalso; simp_all; done) | (exfalso; simp at *; omega) | (refine congrArg V.bool ?_; have e := all_no (f := fun e => (getC c e.k).isSome && evtB e) hp (by simp_all [evtB]); rw [histB, e, Bool.and_false, Bool.false_and]) | (refine congrArg V.bool ?_; rw [histB, all_neg, ← all_neg]; have e : l.take i = l := List.take_of_length_le (by simp at *; omega); rw [e] at hk; simp_all; done))); done))


end Go.Proofs.YtnblecdpkbempaaGreatDoor
