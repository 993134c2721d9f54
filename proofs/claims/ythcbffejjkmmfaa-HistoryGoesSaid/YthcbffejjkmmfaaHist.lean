/-
  Cells, events and histories: plain laws, no program in sight. No conditions.
-/
import Derived.Test.YthcbffejjkmmfaaSp
namespace Go.Proofs.Ythcbffejjkmmfaa
open Go.RowKit
set_option linter.unusedSimpArgs false
set_option linter.unusedVariables false

/-! ### the order of texts -/
theorem blt_irrefl (a : Bs) : blt a a = false := by
  unfold blt
  induction a with
  | nil => rfl
  | cons x a ih => simp [Op.bytesLess, ih]
theorem blt_trans {a b c : Bs} (h : blt a b = true) (k : blt b c = true) : blt a c = true := by
  unfold blt at *
  induction a generalizing b c with
  | nil => cases b <;> cases c <;> simp_all [Op.bytesLess]
  | cons x a ih =>
    cases b with
    | nil => simp [Op.bytesLess] at h
    | cons y b =>
      cases c with
      | nil => simp [Op.bytesLess] at k
      | cons z c =>
        simp only [Op.bytesLess, Bool.or_eq_true, decide_eq_true_eq, Bool.and_eq_true, beq_iff_eq] at *
        simp only [UInt8.lt_iff_toNat_lt, ← UInt8.toNat_inj] at *
        rcases h with h | ⟨h, h'⟩ <;> rcases k with k | ⟨k, k'⟩
        · exact .inl (by omega)
        · exact .inl (by omega)
        · exact .inl (by omega)
        · exact .inr ⟨by omega, ih h' k'⟩
theorem blt_total (a b : Bs) : blt a b = true ∨ a = b ∨ blt b a = true := by
  unfold blt
  induction a generalizing b with
  | nil => cases b <;> simp [Op.bytesLess]
  | cons x a ih =>
    cases b with
    | nil => simp [Op.bytesLess]
    | cons y b =>
      simp only [Op.bytesLess, Bool.or_eq_true, decide_eq_true_eq, Bool.and_eq_true, beq_iff_eq, List.cons.injEq, UInt8.lt_iff_toNat_lt, ← UInt8.toNat_inj]
      have := ih b
      rcases (by omega : x.toNat < y.toNat ∨ x.toNat = y.toNat ∨ y.toNat < x.toNat) with h | h | h
      · exact .inl (.inl h)
      · rcases this with g | g | g
        · exact .inl (.inr ⟨h, g⟩)
        · exact .inr (.inl ⟨h, g⟩)
        · exact .inr (.inr (.inr ⟨h.symm, g⟩))
      · exact .inr (.inr (.inl h))
theorem blt_nil (k : Bs) : blt k [] = false := by cases k <;> rfl
theorem lt_snoc (l : Bs) (b : UInt8) : blt l (l ++ [b]) = true := by
  unfold blt
  induction l with
  | nil => rfl
  | cons x l ih => simp [Op.bytesLess, ih]
/-- between a text and itself with a zero byte behind it there is no other -/
theorem next_text {a k : Bs} (h : blt k a = false) (g : blt k (a ++ [0]) = true) : k = a := by
  unfold blt at *
  induction a generalizing k with
  | nil => 
    cases k with
    | nil => rfl
    | cons x k =>
      exfalso
      simp only [List.nil_append, Op.bytesLess, Bool.or_eq_true, decide_eq_true_eq, Bool.and_eq_true, beq_iff_eq, UInt8.lt_iff_toNat_lt] at g
      rcases g with g | ⟨_, g⟩
      · simp at g
      · cases k <;> simp [Op.bytesLess] at g
  | cons y a ih =>
    cases k with
    | nil => simp [Op.bytesLess] at h
    | cons x k =>
      simp only [List.cons_append, Op.bytesLess, Bool.or_eq_true, Bool.or_eq_false_iff, decide_eq_true_eq, decide_eq_false_iff_not, Bool.and_eq_true, Bool.and_eq_false_imp, beq_iff_eq, UInt8.lt_iff_toNat_lt, ← UInt8.toNat_inj, List.cons.injEq] at *
      rcases g with g | ⟨g1, g2⟩
      · exact absurd g h.1
      · exact ⟨g1, ih (h.2 g1) g2⟩

structure Cel where
  k : Bs
  v : Bs
  n : Int
  d : Bool
  f : Int
  deriving DecidableEq
structure Evt where
  k : Bs
  n : Int
  v : Bs
  d : Bool
  deriving DecidableEq
structure Sn where
  k : Bs
  n : Int
  deriving DecidableEq
abbrev encC (c : Cel) : List V := [.str c.k, .str c.v, .int .i64 c.n, .bool c.d, .int .i64 c.f]
abbrev encE (e : Evt) : List V := [.str e.k, .int .i64 e.n, .str e.v, .bool e.d]
abbrev encN (s : Sn) : List V := [.str s.k, .int .i64 s.n]
def celB (c : Cel) : Bool := isCellB c.k c.v c.n c.d c.f
def evtB (e : Evt) : Bool := mayB e.k e.v e.n e.d
def belowB : Option Bs → Bs → Bool
  | none, _ => true
  | some q, k => blt q k
def idxB : Option Bs → List Cel → Bool
  | _, [] => true
  | p, c :: r => celB c && belowB p c.k && idxB (some c.k) r
def getC (l : List Cel) (k : Bs) : Option Cel := l.find? fun c => decide (c.k = k)
def cel0 (k : Bs) : Cel := ⟨k, [], 0, false, 0⟩
def cellOf (l : List Cel) (k : Bs) : Cel := (getC l k).getD (cel0 k)
def withL (c : Cel) : Bool → List Cel → List Cel
  | done, [] => if done then [] else [c]
  | done, x :: r => (if !done && !blt x.k c.k then [c] else []) ++ ((if x.k = c.k then [] else [x]) ++ withL c (done || !blt x.k c.k) r)
def withC (l : List Cel) (c : Cel) : List Cel := if celB c then withL c false l else l
def bump1 (e : Evt) (x : Cel) : Cel := if x.k = e.k then { x with f := max x.f e.n } else x
def bumps (es : List Evt) (cs : List Cel) : List Cel := es.foldl (fun a e => a.map (bump1 e)) cs
def ofB (c : Cel) : Int → Bs → Bool → List Evt → Bool
  | a, lv, ld, [] => decide (a = c.n) && decide (lv = c.v) && decide (ld = c.d)
  | a, lv, ld, e :: r => if e.k = c.k then (if e.n = a + 1 then ofB c e.n e.v e.d r else false) else ofB c a lv ld r
def histB (l : List Evt) (c : List Cel) : Bool := idxB none c && l.all (fun e => (getC c e.k).isSome && evtB e) && c.all (fun x => ofB x x.f x.v x.d l)
def goneN (l : List Evt) (n : Int) : Nat := l.length - n.toNat
def keepE (l : List Evt) (n : Int) : List Evt := l.drop (goneN l n)
def keepC (l : List Evt) (c : List Cel) (n : Int) : List Cel := bumps (l.take (goneN l n)) c
def seenOf (s : List Sn) (k : Bs) : Int := ((s.find? fun x => decide (x.k = k)).map (·.n)).getD 0
def overB (c : List Cel) (s : Span) (seen : List Sn) : Bool := c.any fun x => hasB s x.k && decide (seenOf seen x.k < x.f)
def aftE (l : List Evt) (s : Span) (seen : List Sn) (most : Int) : List Evt := (l.filter fun e => hasB s e.k && decide (seenOf seen e.k < e.n)).take most.toNat

/-! ### cells in order -/
def Rising (l : List Cel) : Prop := l.Pairwise fun a b => blt a.k b.k = true
theorem idxB_iff : ∀ (l : List Cel) (p : Option Bs), idxB p l = true ↔ (∀ c ∈ l, celB c = true) ∧ Rising l ∧ ∀ q, p = some q → ∀ c ∈ l, blt q c.k = true
  | [], p => by simp [idxB, Rising]
  | c :: r, p => by
    rw [idxB, Bool.and_eq_true, Bool.and_eq_true, idxB_iff r]
    simp only [Rising, List.pairwise_cons, List.mem_cons, forall_eq_or_imp, Option.some.injEq, forall_eq']
    constructor
    · rintro ⟨⟨h1, h2⟩, h3, h4, h5⟩
      refine ⟨⟨h1, h3⟩, ⟨h5, h4⟩, ?_⟩
      rintro q rfl
      exact ⟨h2, fun c' hc' => blt_trans h2 (h5 c' hc')⟩
    · rintro ⟨⟨h1, h3⟩, ⟨h5, h4⟩, h6⟩
      refine ⟨⟨h1, ?_⟩, h3, h4, h5⟩
      cases p with
      | none => rfl
      | some q => exact (h6 q rfl).1
theorem rising_key {l : List Cel} (h : Rising l) : ∀ {a b : Cel}, a ∈ l → b ∈ l → a.k = b.k → a = b := by
  induction l with
  | nil => intro a b ha; cases ha
  | cons x r ih =>
    intro a b ha hb e
    obtain ⟨h1, h2⟩ := List.pairwise_cons.1 h
    rcases List.mem_cons.1 ha with ha1 | ha1 <;> rcases List.mem_cons.1 hb with hb1 | hb1
    · rw [ha1, hb1]
    · have := h1 b hb1; rw [← ha1, e, blt_irrefl] at this; cases this
    · have := h1 a ha1; rw [← hb1, e, blt_irrefl] at this; cases this
    · exact ih h2 ha1 hb1 e
theorem getC_some {l : List Cel} {k : Bs} {c : Cel} (h : getC l k = some c) : c ∈ l ∧ c.k = k :=
  ⟨List.mem_of_find?_eq_some h, by simpa using List.find?_some h⟩
theorem getC_none {l : List Cel} {k : Bs} (h : getC l k = none) : ∀ c ∈ l, c.k ≠ k := fun c hc => by simpa using List.find?_eq_none.1 h c hc
theorem getC_of {l : List Cel} {c : Cel} (hr : Rising l) (h : c ∈ l) : getC l c.k = some c := by
  cases hg : getC l c.k with
  | none => exact absurd rfl (getC_none hg c h)
  | some x => obtain ⟨h1, h2⟩ := getC_some hg; rw [rising_key hr h1 h h2]
theorem isSome_getC {l : List Cel} {k : Bs} : (getC l k).isSome = true ↔ ∃ c ∈ l, c.k = k := by simp [getC, List.find?_isSome]
/-- with a cell in the place of its key's -/
theorem mem_withL (c : Cel) : ∀ (l : List Cel) (done : Bool) (x : Cel), x ∈ withL c done l ↔ (done = false ∧ x = c) ∨ (x ∈ l ∧ x.k ≠ c.k)
  | [], done, x => by cases done <;> simp [withL]
  | y :: r, done, x => by
    rw [withL, List.mem_append, List.mem_append, mem_withL c r, List.mem_cons]
    cases done <;> cases hb : blt y.k c.k <;> by_cases hk : y.k = c.k <;> simp [hk] <;> grind
theorem rising_withL (c : Cel) : ∀ (l : List Cel) (done : Bool), Rising l → (done = true → ∀ x ∈ l, blt c.k x.k = true) → Rising (withL c done l)
  | [], done, _, _ => by cases done <;> simp [withL, Rising]
  | y :: r, done, h, hd => by
    obtain ⟨h1, h2⟩ := List.pairwise_cons.1 h
    rw [withL]
    have tl : ∀ d', (d' = true → blt y.k c.k = false) → Rising (withL c d' r) := fun d' hd' => rising_withL c r d' h2 fun e x hx => by
      have hlt := h1 x hx
      rcases blt_total y.k c.k with g | g | g
      · rw [hd' e] at g; cases g
      · rw [← g]; exact hlt
      · exact blt_trans g hlt
    cases done with
    | true =>
      have hy : blt c.k y.k = true := hd rfl y (List.mem_cons_self ..)
      have hne : y.k ≠ c.k := fun e => by rw [e, blt_irrefl] at hy; cases hy
      have hyc : blt y.k c.k = false := by
        cases hb : blt y.k c.k with
        | false => rfl
        | true => have := blt_trans hb hy; rw [blt_irrefl] at this; cases this
      simp only [Bool.not_true, Bool.false_and, Bool.false_eq_true, if_false, List.nil_append, if_neg hne, Bool.true_or, List.singleton_append]
      refine List.pairwise_cons.2 ⟨fun x hx => ?_, tl true fun _ => hyc⟩
      rcases (mem_withL c r true x).1 hx with ⟨h0, _⟩ | ⟨hx, _⟩
      · cases h0
      · exact h1 x hx
    | false =>
      cases hyc : blt y.k c.k with
      | true =>
        have hne : y.k ≠ c.k := fun e => by rw [e, blt_irrefl] at hyc; cases hyc
        simp only [Bool.not_true, Bool.and_false, Bool.false_eq_true, if_false, List.nil_append, if_neg hne, Bool.or_false, List.singleton_append]
        refine List.pairwise_cons.2 ⟨fun x hx => ?_, tl false fun h => by cases h⟩
        rcases (mem_withL c r false x).1 hx with ⟨_, rfl⟩ | ⟨hx, _⟩
        · exact hyc
        · exact h1 x hx
      | false =>
        simp only [Bool.not_false, Bool.and_self, if_true, Bool.or_true]
        have hr := tl true fun _ => hyc
        have hx1 : ∀ x ∈ withL c true r, x ∈ r := fun x hx => by
          rcases (mem_withL c r true x).1 hx with ⟨h0, _⟩ | ⟨hx, _⟩
          · cases h0
          · exact hx
        by_cases hk : y.k = c.k
        · simp only [if_pos hk, List.nil_append, List.singleton_append]
          exact List.pairwise_cons.2 ⟨fun x hx => by rw [← hk]; exact h1 x (hx1 x hx), hr⟩
        · have hcy : blt c.k y.k = true := by
            rcases blt_total y.k c.k with g | g | g
            · rw [hyc] at g; cases g
            · exact absurd g hk
            · exact g
          simp only [if_neg hk, List.singleton_append]
          refine List.pairwise_cons.2 ⟨fun x hx => ?_, List.pairwise_cons.2 ⟨fun x hx => h1 x (hx1 x hx), hr⟩⟩
          rcases List.mem_cons.1 hx with rfl | hx
          · exact hcy
          · exact blt_trans hcy (h1 x (hx1 x hx))

/-! ### a cell's events -/
theorem ofB_le {c : Cel} : ∀ {l : List Evt} {a : Int} {lv : Bs} {ld : Bool}, ofB c a lv ld l = true → a ≤ c.n
  | [], a, lv, ld, h => by simp only [ofB, Bool.and_eq_true, decide_eq_true_eq] at h; omega
  | e :: r, a, lv, ld, h => by
    rw [ofB] at h
    split at h
    · split at h
      · have := ofB_le h; omega
      · cases h
    · exact ofB_le h
theorem ofB_last {c : Cel} : ∀ {l : List Evt} {a : Int} {lv : Bs} {ld : Bool}, ofB c a lv ld l = true → ofB c a c.v c.d l = true
  | [], a, lv, ld, h => by simp only [ofB, Bool.and_eq_true, decide_eq_true_eq] at h ⊢; exact ⟨⟨h.1.1, trivial⟩, trivial⟩
  | e :: r, a, lv, ld, h => by
    rw [ofB] at h ⊢
    split
    · rename_i hk
      rw [if_pos hk] at h
      exact h
    · rename_i hk
      rw [if_neg hk] at h
      exact ofB_last h
theorem ofB_floor {c : Cel} (f : Int) : ∀ {l : List Evt} {a : Int} {lv : Bs} {ld : Bool}, ofB { c with f := f } a lv ld l = ofB c a lv ld l
  | [], a, lv, ld => rfl
  | e :: r, a, lv, ld => by rw [ofB, ofB, ofB_floor f, ofB_floor f]
theorem ofB_other {c : Cel} {e : Evt} (h : e.k ≠ c.k) : ∀ {l : List Evt} {a : Int} {lv : Bs} {ld : Bool}, ofB c a lv ld (l ++ [e]) = ofB c a lv ld l
  | [], a, lv, ld => by simp only [List.nil_append, ofB, if_neg h]
  | x :: r, a, lv, ld => by rw [List.cons_append, ofB, ofB, ofB_other h, ofB_other h]
theorem ofB_none {k : Bs} : ∀ {l : List Evt}, (∀ e ∈ l, e.k ≠ k) → ofB (cel0 k) 0 [] false l = true
  | [], h => rfl
  | e :: r, h => by rw [ofB, if_neg (show ¬ e.k = (cel0 k).k from h e (List.mem_cons_self ..)), ofB_none fun e he => h e (List.mem_cons_of_mem _ he)]
theorem ofB_snoc {c : Cel} (w : Bs) (d' : Bool) : ∀ {l : List Evt} {a : Int} {lv lv' : Bs} {ld ld' : Bool}, ofB c a lv ld l = true →
    ofB { c with n := c.n + 1, v := w, d := d' } a lv' ld' (l ++ [⟨c.k, c.n + 1, w, d'⟩]) = true
  | [], a, lv, lv', ld, ld', h => by
    simp only [ofB, Bool.and_eq_true, decide_eq_true_eq] at h
    simp only [List.nil_append, ofB]
    rw [if_pos trivial, if_pos (by omega)]
    simp
  | e :: r, a, lv, lv', ld, ld', h => by
    rw [ofB] at h
    rw [List.cons_append, ofB]
    split at h
    · rename_i hk
      rw [if_pos hk]
      split at h
      · rename_i hn
        rw [if_pos hn]
        exact ofB_snoc w d' h
      · cases h
    · rename_i hk
      rw [if_neg hk]
      exact ofB_snoc w d' h

/-! ### histories -/
structure Hist (l : List Evt) (c : List Cel) : Prop where
  cells : ∀ x ∈ c, celB x = true
  rising : Rising c
  events : ∀ e ∈ l, (∃ x ∈ c, x.k = e.k) ∧ evtB e = true
  of : ∀ x ∈ c, ofB x x.f x.v x.d l = true
theorem histB_iff {l : List Evt} {c : List Cel} : histB l c = true ↔ Hist l c := by
  simp only [histB, Bool.and_eq_true, idxB_iff, List.all_eq_true, isSome_getC]
  constructor
  · rintro ⟨⟨⟨h1, h2, _⟩, h3⟩, h4⟩
    exact ⟨h1, h2, h3, h4⟩
  · rintro ⟨h1, h2, h3, h4⟩
    exact ⟨⟨⟨h1, h2, fun q hq => by cases hq⟩, h3⟩, h4⟩
theorem Hist.nil : Hist [] [] := ⟨fun x hx => by simp at hx, List.Pairwise.nil, fun x hx => by simp at hx, fun x hx => by simp at hx⟩
theorem bump1_k (e : Evt) (x : Cel) : (bump1 e x).k = x.k := by unfold bump1; split <;> rfl
theorem bump1_n (e : Evt) (x : Cel) : (bump1 e x).n = x.n := by unfold bump1; split <;> rfl
theorem bump1_f (e : Evt) (x : Cel) : x.f ≤ (bump1 e x).f := by unfold bump1; split <;> simp <;> omega
theorem Hist.cons {e : Evt} {l : List Evt} {c : List Cel} (h : Hist (e :: l) c) : Hist l (c.map (bump1 e)) := by
  have key : ∀ x ∈ c, celB (bump1 e x) = true ∧ ofB (bump1 e x) (bump1 e x).f (bump1 e x).v (bump1 e x).d l = true := fun x hx => by
    have h1 := h.cells x hx
    have h2 := h.of x hx
    rw [ofB] at h2
    unfold bump1
    split
    · rename_i hk
      rw [if_pos hk.symm] at h2
      split at h2
      · rename_i hn
        have hle := ofB_le h2
        have hm : max x.f e.n = e.n := by omega
        refine ⟨?_, ?_⟩
        · simp only [celB, isCellB, Bool.and_eq_true, decide_eq_true_eq] at h1 ⊢
          exact ⟨⟨h1.1.1, by omega⟩, by omega⟩
        · simp only
          rw [ofB_floor, hm]
          exact ofB_last h2
      · cases h2
    · rename_i hk
      rw [if_neg fun e => hk e.symm] at h2
      exact ⟨h1, h2⟩
  refine ⟨fun x hx => ?_, ?_, fun e' he => ?_, fun x hx => ?_⟩
  · obtain ⟨y, hy, rfl⟩ := List.mem_map.1 hx; exact (key y hy).1
  · refine List.pairwise_map.2 (h.rising.imp fun hab => by rw [bump1_k, bump1_k]; exact hab)
  · obtain ⟨⟨x, hx, hk⟩, h2⟩ := h.events e' (List.mem_cons_of_mem _ he)
    exact ⟨⟨bump1 e x, List.mem_map.2 ⟨x, hx, rfl⟩, by rw [bump1_k]; exact hk⟩, h2⟩
  · obtain ⟨y, hy, rfl⟩ := List.mem_map.1 hx; exact (key y hy).2
theorem Hist.bumps : ∀ {es l : List Evt} {c : List Cel}, Hist (es ++ l) c → Hist l (bumps es c)
  | [], _, _, h => h
  | e :: es, l, c, h => Hist.bumps (es := es) (Hist.cons h)
theorem Hist.keep {l : List Evt} {c : List Cel} (h : Hist l c) (n : Int) : Hist (keepE l n) (keepC l c n) :=
  Hist.bumps (by rw [keepE, List.take_append_drop]; exact h)
theorem bumps_length : ∀ (es : List Evt) (c : List Cel), (Go.Proofs.Ythcbffejjkmmfaa.bumps es c).length = c.length
  | [], c => rfl
  | e :: es, c => by
    show (Go.Proofs.Ythcbffejjkmmfaa.bumps es (c.map (bump1 e))).length = _
    rw [bumps_length es]; simp
theorem bumps_get : ∀ (es : List Evt) (c : List Cel) (j : Nat) (x y : Cel), c[j]? = some x → (Go.Proofs.Ythcbffejjkmmfaa.bumps es c)[j]? = some y → x.f ≤ y.f ∧ y.n = x.n ∧ y.k = x.k
  | [], c, j, x, y, h1, h2 => by
    have h2' : c[j]? = some y := h2
    rw [h1] at h2'; cases h2'; exact ⟨Int.le_refl _, rfl, rfl⟩
  | e :: es, c, j, x, y, h1, h2 => by
    obtain ⟨a, b, d⟩ := bumps_get es (c.map (bump1 e)) j (bump1 e x) y (by rw [List.getElem?_map, h1]; rfl) h2
    exact ⟨Int.le_trans (bump1_f e x) a, by rw [b, bump1_n], by rw [d, bump1_k]⟩
theorem keepE_length (l : List Evt) (n : Int) : (keepE l n).length = min n.toNat l.length := by
  simp only [keepE, goneN, List.length_drop]; omega

/-- one more version of a key -/
theorem cellOf_k (c : List Cel) (k : Bs) : (cellOf c k).k = k := by
  unfold cellOf
  cases h : getC c k with
  | none => rfl
  | some x => exact (getC_some h).2
theorem Hist.cellOf {l : List Evt} {c : List Cel} (h : Hist l c) (k : Bs) :
    (0 ≤ (cellOf c k).f ∧ (cellOf c k).f ≤ (cellOf c k).n) ∧ ofB (cellOf c k) (cellOf c k).f (cellOf c k).v (cellOf c k).d l = true := by
  unfold Go.Proofs.Ythcbffejjkmmfaa.cellOf
  cases hg : getC c k with
  | none =>
    refine ⟨⟨Int.le_refl _, Int.le_refl _⟩, ofB_none fun e he hk => ?_⟩
    obtain ⟨⟨x, hx, hxk⟩, _⟩ := h.events e he
    exact getC_none hg x hx (hxk.trans hk)
  | some x =>
    obtain ⟨h1, h2⟩ := getC_some hg
    have := h.cells x h1
    simp only [celB, isCellB, Bool.and_eq_true, decide_eq_true_eq] at this
    exact ⟨⟨this.1.2, this.2⟩, h.of x h1⟩
def put1 (x : Cel) (w : Bs) : Cel := { x with n := x.n + 1, v := w, d := false }
def evt1 (x : Cel) (w : Bs) : Evt := ⟨x.k, x.n + 1, w, false⟩
theorem celB_put {x : Cel} {w : Bs} (hk : isKeyB x.k = true) (hw : w.length ≤ 12) (h0 : 0 ≤ x.f) (h1 : x.f ≤ x.n) (h2 : x.n < 1000000000000) : celB (put1 x w) = true := by
  show isCellB x.k w (x.n + 1) false x.f = true
  unfold isCellB mayB
  rw [hk, decide_eq_true hw, decide_eq_true (show 1 ≤ x.n + 1 by omega), decide_eq_true (show x.n + 1 ≤ 1000000000000 by omega), decide_eq_true h0, decide_eq_true (show x.f ≤ x.n + 1 by omega)]
  rfl
theorem Hist.put {l : List Evt} {c : List Cel} (h : Hist l c) {k w : Bs} (hk : isKeyB k = true) (hw : w.length ≤ 12) (hn : (Go.Proofs.Ythcbffejjkmmfaa.cellOf c k).n < 1000000000000) :
    Hist (l ++ [evt1 (Go.Proofs.Ythcbffejjkmmfaa.cellOf c k) w]) (withC c (put1 (Go.Proofs.Ythcbffejjkmmfaa.cellOf c k) w)) := by
  obtain ⟨⟨h0, h1⟩, h2⟩ := h.cellOf k
  have hck := cellOf_k c k
  generalize Go.Proofs.Ythcbffejjkmmfaa.cellOf c k = x at *
  subst hck
  have hy := celB_put hk hw h0 h1 hn
  have hm := mem_withL (put1 x w) c false
  unfold withC
  rw [if_pos hy]
  refine ⟨fun z hz => ?_, rising_withL _ _ _ h.rising (fun e => by cases e), fun e he => ?_, fun z hz => ?_⟩
  · rcases (hm z).1 hz with ⟨_, rfl⟩ | ⟨hz, _⟩
    · exact hy
    · exact h.cells z hz
  · rcases List.mem_append.1 he with he | he
    · obtain ⟨⟨z, hz, hzk⟩, he2⟩ := h.events e he
      refine ⟨?_, he2⟩
      by_cases hzx : z.k = x.k
      · exact ⟨put1 x w, (hm _).2 (.inl ⟨rfl, rfl⟩), hzx.symm.trans hzk⟩
      · exact ⟨z, (hm z).2 (.inr ⟨hz, hzx⟩), hzk⟩
    · cases List.mem_singleton.1 he
      refine ⟨⟨put1 x w, (hm _).2 (.inl ⟨rfl, rfl⟩), rfl⟩, ?_⟩
      simp only [celB, isCellB, Bool.and_eq_true] at hy
      exact hy.1.1
  · rcases (hm z).1 hz with ⟨_, rfl⟩ | ⟨hz, hzk⟩
    · exact ofB_snoc w false h2
    · rw [ofB_other fun e => hzk e.symm]
      exact h.of z hz
theorem withC_n {c : List Cel} {y : Cel} {z : Cel} (hz : z ∈ withC c y) : z = y ∨ z ∈ c := by
  unfold withC at hz
  split at hz
  · rcases (mem_withL y c false z).1 hz with ⟨_, rfl⟩ | ⟨hz, _⟩
    · exact .inl rfl
    · exact .inr hz
  · exact .inr hz
theorem bumps_n {es : List Evt} {c : List Cel} {z : Cel} (hz : z ∈ Go.Proofs.Ythcbffejjkmmfaa.bumps es c) : ∃ x ∈ c, x.n = z.n := by
  obtain ⟨j, hj⟩ := List.getElem?_of_mem hz
  have hlt : j < c.length := by rw [← bumps_length es c]; exact (List.getElem?_eq_some_iff.1 hj).1
  have := bumps_get es c j c[j] z (List.getElem?_eq_getElem hlt) hj
  exact ⟨c[j], List.getElem_mem hlt, this.2.1.symm⟩
/-- all versions are this great at most -/
def Most (c : List Cel) (n : Int) : Prop := ∀ z ∈ c, z.n ≤ n
theorem Most.cellOf {c : List Cel} {n : Int} (h : Most c n) (h0 : 0 ≤ n) (k : Bs) : (Go.Proofs.Ythcbffejjkmmfaa.cellOf c k).n ≤ n := by
  unfold Go.Proofs.Ythcbffejjkmmfaa.cellOf
  cases hg : getC c k with
  | none => exact h0
  | some x => exact h x (getC_some hg).1
theorem Most.put {c : List Cel} {n m : Int} (h : Most c n) (h0 : 0 ≤ n) (k w : Bs) (es : List Evt) : Most (Go.Proofs.Ythcbffejjkmmfaa.bumps es (withC c (put1 (Go.Proofs.Ythcbffejjkmmfaa.cellOf c k) w))) (n + 1) := fun z hz => by
  obtain ⟨x, hx, e⟩ := bumps_n hz
  rw [← e]
  rcases withC_n hx with rfl | hx
  · have := h.cellOf h0 k
    simp only [put1]; omega
  · have := h x hx; omega

/-! ### what comes after what was seen -/
theorem hasB_one {k x : Bs} (hk : isKeyB k = true) (hl : k.length ≤ 7) : hasB ⟨k, k ++ [0]⟩ x = decide (x = k) := by
  by_cases h : x = k
  · subst h
    have hne : x ++ [0] ≠ [] := by simp
    simp [hasB, isB, hk, lt_snoc, blt_irrefl, hne]
    omega
  · rw [decide_eq_false h]
    cases hb : hasB ⟨k, k ++ [0]⟩ x with
    | false => rfl
    | true =>
      simp only [hasB, Bool.and_eq_true, Bool.not_eq_true', Bool.or_eq_true, decide_eq_true_eq] at hb
      rcases hb.2 with g | g
      · simp at g
      · exact absurd (next_text hb.1.2 g) h
/-- a key's events above a version -/
theorem ofB_above {c : Cel} (v : Int) : ∀ {l : List Evt} {a : Int} {lv : Bs} {ld : Bool}, ofB c a lv ld l = true → a ≤ v → v ≤ c.n →
    ((l.filter fun e => decide (e.k = c.k) && decide (v < e.n)).length : Int) = c.n - v ∧ ∀ (i : Nat) (e : Evt), (l.filter fun e => decide (e.k = c.k) && decide (v < e.n))[i]? = some e → e.k = c.k ∧ e.n = v + 1 + i
  | [], a, lv, ld, h, h1, h2 => by
    simp only [ofB, Bool.and_eq_true, decide_eq_true_eq] at h
    exact ⟨by simp; omega, fun i e hi => by simp at hi⟩
  | e :: r, a, lv, ld, h, h1, h2 => by
    rw [ofB] at h
    split at h
    · rename_i hk
      split at h
      · rename_i hn
        rcases (by omega : a = v ∨ a + 1 ≤ v) with hv | hv
        · have hlt : v < e.n := by omega
          obtain ⟨q1, q2⟩ := ofB_above (v + 1) h (by omega) (by have := ofB_le h; omega)
          have hf : (r.filter fun e => decide (e.k = c.k) && decide (v < e.n)) = (r.filter fun e => decide (e.k = c.k) && decide (v + 1 < e.n)) := ofB_same h (by omega)
          rw [List.filter_cons_of_pos (by simp [hk, hlt]), hf]
          refine ⟨by rw [List.length_cons]; omega, fun i e' hi => ?_⟩
          cases i with
          | zero => simp at hi; subst hi; exact ⟨hk, by omega⟩
          | succ i =>
            obtain ⟨p1, p2⟩ := q2 i e' (by simpa using hi)
            exact ⟨p1, by omega⟩
        · rw [List.filter_cons_of_neg (by simp [hk]; omega)]
          exact ofB_above v h (by omega) h2
      · cases h
    · rename_i hk
      rw [List.filter_cons_of_neg (by simp [hk])]
      exact ofB_above v h h1 h2
 where
  /-- a key's events rise -/
  ofB_gt {c : Cel} : ∀ {l : List Evt} {a : Int} {lv : Bs} {ld : Bool}, ofB c a lv ld l = true → ∀ e ∈ l, e.k = c.k → a < e.n
    | [], a, lv, ld, h, e, he, _ => by cases he
    | x :: r, a, lv, ld, h, e, he, hk => by
      rw [ofB] at h
      split at h
      · split at h
        · rcases List.mem_cons.1 he with rfl | he
          · omega
          · have := ofB_gt h e he hk; omega
        · cases h
      · rename_i hxk
        rcases List.mem_cons.1 he with rfl | he
        · exact absurd hk hxk
        · exact ofB_gt h e he hk
  ofB_same {c : Cel} {l : List Evt} {a v : Int} {lv : Bs} {ld : Bool} (h : ofB c a lv ld l = true) (hv : v + 1 ≤ a) : (l.filter fun e => decide (e.k = c.k) && decide (v < e.n)) = (l.filter fun e => decide (e.k = c.k) && decide (v + 1 < e.n)) := by
    apply List.filter_congr
    intro e he
    by_cases hk : e.k = c.k
    · have := ofB_gt h e he hk
      simp only [hk, decide_true, Bool.true_and, decide_eq_decide]; omega
    · simp [hk]
theorem seen_one (k x : Bs) (v : Int) : seenOf [⟨k, v⟩] x = if x = k then v else 0 := by
  unfold seenOf
  by_cases h : x = k
  · subst h; simp
  · simp [h, fun e : k = x => h e.symm, show ¬ k = x from fun e => h e.symm]
theorem over_iff {l : List Evt} {c : List Cel} (h : Hist l c) {k : Bs} (hk : isKeyB k = true) (hl : k.length ≤ 7) {v : Int} (hv : 0 ≤ v) : overB c ⟨k, k ++ [0]⟩ [⟨k, v⟩] = decide (v < (cellOf c k).f) := by
  have e : overB c ⟨k, k ++ [0]⟩ [⟨k, v⟩] = c.any fun x => decide (x.k = k) && decide (v < x.f) := by
    unfold overB
    congr 1
    funext x
    rw [hasB_one hk hl, seen_one]
    by_cases hx : x.k = k <;> simp [hx]
  rw [e]
  unfold Go.Proofs.Ythcbffejjkmmfaa.cellOf
  cases hg : getC c k with
  | none =>
    have := getC_none hg
    rw [decide_eq_false (by simp [cel0]; omega), List.any_eq_false]
    intro x hx
    simp [this x hx]
  | some x =>
    obtain ⟨h1, h2⟩ := getC_some hg
    simp only [Option.getD_some]
    by_cases hf : v < x.f
    · rw [decide_eq_true hf, List.any_eq_true]
      exact ⟨x, h1, by simp [h2, hf]⟩
    · rw [decide_eq_false hf, List.any_eq_false]
      intro y hy
      by_cases hyk : y.k = k
      · have := rising_key h.rising hy h1 (hyk.trans h2.symm)
        subst this; simp [hf]
      · simp [hyk]
theorem after_one {l : List Evt} {c : List Cel} (h : Hist l c) {k : Bs} (hk : isKeyB k = true) (hl : k.length ≤ 7) {v : Int} (hv : (cellOf c k).f ≤ v) (hv2 : v ≤ (cellOf c k).n) (hlen : l.length ≤ 100) :
    ((aftE l ⟨k, k ++ [0]⟩ [⟨k, v⟩] 100).length : Int) = (cellOf c k).n - v ∧ ∀ (i : Nat) (e : Evt), (aftE l ⟨k, k ++ [0]⟩ [⟨k, v⟩] 100)[i]? = some e → e.k = k ∧ e.n = v + 1 + i := by
  have e : aftE l ⟨k, k ++ [0]⟩ [⟨k, v⟩] 100 = l.filter fun e => decide (e.k = (cellOf c k).k) && decide (v < e.n) := by
    unfold aftE
    rw [List.take_of_length_le (Nat.le_trans (List.length_filter_le _ _) (by show _ ≤ 100; exact hlen))]
    apply List.filter_congr
    intro x _
    rw [hasB_one hk hl, seen_one, cellOf_k]
    by_cases hx : x.k = k <;> simp [hx]
  rw [e]
  obtain ⟨q1, q2⟩ := ofB_above v (h.cellOf k).2 hv hv2
  exact ⟨q1, fun i e hi => by have := q2 i e hi; rw [cellOf_k] at this; exact this⟩
end Go.Proofs.Ythcbffejjkmmfaa
