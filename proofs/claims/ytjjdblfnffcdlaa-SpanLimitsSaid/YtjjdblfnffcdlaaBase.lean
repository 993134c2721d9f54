/-
  Plain words for the walks of this seat: texts as lists of bytes, what a span is, what is in it; small lemmas on worlds. It states no law by itself and has no conditions.
-/
import Derived.Test.YtjjdblfnffcdlaaRows
import Derived.WalkKit
import Derived.WalkSpells
import Derived.WalkLawsBesides
import Derived.Deep.QuietTactic
import Derived.BigQuiet
import Derived.Lib.Hide
import Derived.Deep.RegionHeld3
import Derived.Deep.DeepCutAuto
namespace Go.Proofs.Ytjjdblfnffcdlaa
open Go.RowKit
set_option linter.unusedSimpArgs false
set_option linter.unusedVariables false

abbrev Bs := List UInt8
/-- a text as a value -/
abbrev S (l : Bs) : Value := .string ⟨l.toArray⟩
def blt (a b : Bs) : Bool := Op.bytesLess a b

theorem ret_bool {a b : Bool} (h : a = b) : Ending.returned (.bool a) = Ending.returned (.bool b) := by rw [h]
theorem ret_val {a b : Value} (h : a = b) : Ending.returned a = Ending.returned b := by rw [h]

theorem blt_asymm (a b : Bs) : (!Op.bytesLess b a && !b == a) = Op.bytesLess a b := by
  induction a generalizing b with
  | nil => cases b <;> simp [Op.bytesLess]
  | cons x a ih =>
    cases b with
    | nil => simp [Op.bytesLess]
    | cons y b =>
      simp only [Op.bytesLess]
      have h := ih b
      rcases Nat.lt_trichotomy x.toNat y.toNat with g | g | g
      · have e1 : x < y := UInt8.lt_iff_toNat_lt.2 g
        have e2 : ¬ y < x := fun c => by have := UInt8.lt_iff_toNat_lt.1 c; omega
        have e3 : ¬ y = x := fun c => by subst c; omega
        simp [e1, e2, e3]
      · have e1 : x = y := UInt8.toNat_inj.1 g
        subst e1
        simpa using h
      · have e1 : y < x := UInt8.lt_iff_toNat_lt.2 g
        have e2 : ¬ x < y := fun c => by have := UInt8.lt_iff_toNat_lt.1 c; omega
        have e4 : ¬ x = y := fun c => by subst c; omega
        simp [e1, e2, e4]
theorem blt_irrefl (a : Bs) : blt a a = false := by
  unfold blt
  induction a with
  | nil => rfl
  | cons x a ih => simp [Op.bytesLess, ih]
theorem blt_trans {a b c : Bs} (h : blt a b = true) (k : blt b c = true) : blt a c = true := by
  unfold blt at *
  induction a generalizing b c with
  | nil => cases b <;> cases c <;> simp_all [Op.bytesLess]
  | cons x a ih =>
    cases b with
    | nil => simp [Op.bytesLess] at h
    | cons y b =>
      cases c with
      | nil => simp [Op.bytesLess] at k
      | cons z c =>
        simp only [Op.bytesLess, Bool.or_eq_true, decide_eq_true_eq, Bool.and_eq_true, beq_iff_eq] at *
        simp only [UInt8.lt_iff_toNat_lt, ← UInt8.toNat_inj] at *
        rcases h with h | ⟨h, h'⟩ <;> rcases k with k | ⟨k, k'⟩
        · exact .inl (by omega)
        · exact .inl (by omega)
        · exact .inl (by omega)
        · exact .inr ⟨by omega, ih h' k'⟩
theorem blt_total (a b : Bs) : blt a b = true ∨ a = b ∨ blt b a = true := by
  have h := blt_asymm a b
  unfold blt
  cases h1 : Op.bytesLess a b <;> cases h2 : Op.bytesLess b a <;> simp_all

def minB (a b : Bs) : Bs := if blt b a then b else a
def maxB (a b : Bs) : Bs := if blt a b then b else a
@[go_sem] theorem run_min_S {P : Program} (w : World) (ts : Array TypeId) (t : TypeId) (a b : Bs) : (Builtin.min_ ts t #[S a, S b]).run P w = .ok (S (minB a b)) w := by
  have h := blt_asymm a b
  unfold minB blt
  cases h1 : Op.bytesLess a b <;> cases h2 : Op.bytesLess b a <;> simp_all [Builtin.min_, Builtin.min2, Op.stringOp, asBool]
@[go_sem] theorem run_max_S {P : Program} (w : World) (ts : Array TypeId) (t : TypeId) (a b : Bs) : (Builtin.max_ ts t #[S a, S b]).run P w = .ok (S (maxB a b)) w := by
  unfold maxB blt
  cases h1 : Op.bytesLess a b <;> simp_all [Builtin.max_, Builtin.max2, Op.stringOp, asBool]

@[simp] theorem size_mk (l : Bs) : (ByteArray.mk l.toArray).size = l.length := by simp [ByteArray.size]

theorem block_of_isSome {W : World} {a : Addr} (h : (W.cell? a).isSome = true) : a.block < W.heap.size := by
  cases e : W.cell? a with
  | none => rw [e] at h; cases h
  | some v => exact World.block_lt_of_cell? W a e
/-- what a call leaves that makes memory alone: whatever was there is as it was -/
def Grew (W w : World) : Prop := Below W.heap.size W w
theorem Grew.below {W w : World} (h : Grew W w) : Below W.heap.size W w := h
theorem Grew.refl (W : World) : Grew W W := Below.refl _ _
theorem Grew.trans {a b c : World} (h : Grew a b) (k : Grew b c) : Grew a c := Below.trans h (Below.mono k (Below.size h))
theorem Grew.alloc {a w : World} {o : Obj} (h : Grew a w) : Grew a (w.alloc o) := Below.alloc h (Below.size h) o
theorem Grew.drew {a w : World} (h : Grew a w) : Grew a w.drew := Below.drew h
theorem Grew.setCell {a w : World} {p : Addr} {u : Value} (h : Grew a w) (hp : a.heap.size ≤ p.block) : Grew a (w.setCell p u) := Below.setCell h hp u
theorem Grew.keeps {W w1 : World} (hb : Grew W w1) : (∀ a, (W.cell? a).isSome = true → w1.cell? a = W.cell? a) ∧ (∀ a, (W.cell? a).isSome = true → w1.frozen? a = W.frozen? a) :=
  ⟨fun _ h => Below.cell hb (block_of_isSome h), fun _ h => Below.frozen hb (block_of_isSome h)⟩
theorem frozen?_alloc_some (w : World) (a : Addr) (o : Obj) (h : (w.cell? a).isSome = true) : (w.alloc o).frozen? a = w.frozen? a :=
  by apply World.frozen?_alloc_old; exact Nat.ne_of_lt (block_of_isSome h)
attribute [go_sem] World.cell?_alloc_some frozen?_alloc_some

/-- blocks of the call's own: their numbers, the cells that they hold; the greatest number first -/
def Owns (w : World) : List (Nat × Array Value) → Prop
  | [] => True
  | (n, C) :: r => ((∀ i, w.cell? ⟨n, i, none⟩ = C[i]?) ∧ (∀ i, w.frozen? ⟨n, i, none⟩ = false) ∧ n < w.heap.size ∧ ∀ m, m ∈ r.map (·.1) → m < n) ∧ Owns w r
theorem Owns.lt {w : World} : ∀ {L : List (Nat × Array Value)}, Owns w L → ∀ m, m ∈ L.map (·.1) → m < w.heap.size
  | [], _, _, hm => by cases hm
  | (n, C) :: r, h, m, hm => by
    simp only [List.map_cons, List.mem_cons] at hm
    rcases hm with rfl | hm
    · exact h.1.2.2.1
    · exact Owns.lt h.2 m hm
theorem Owns.later {w w1 : World} (hb : Grew w w1) : ∀ {L : List (Nat × Array Value)}, Owns w L → Owns w1 L
  | [], _ => trivial
  | (n, C) :: r, h => by
    obtain ⟨⟨h1, h2, h3, h4⟩, h5⟩ := h
    exact ⟨⟨fun i => (Below.cell hb (p := ⟨n, i, none⟩) h3).trans (h1 i), fun i => (Below.frozen hb (p := ⟨n, i, none⟩) h3).trans (h2 i), Nat.lt_of_lt_of_le h3 (Below.size hb), h4⟩, Owns.later hb h5⟩
theorem Owns.nil (w : World) : Owns w [] := trivial
theorem Owns.drew {w : World} {L : List (Nat × Array Value)} (h : Owns w L) : Owns w.drew L := Owns.later (Grew.refl w).drew h
theorem Owns.alloc {w : World} {L : List (Nat × Array Value)} {C : Array Value} {t : TypeId} (h : Owns w L) : Owns (w.alloc (.cells C t)) ((w.heap.size, C) :: L) :=
  ⟨⟨fun i => by simp, fun i => by simp, by simp, fun m hm => h.lt m hm⟩, h.later (Grew.refl w).alloc⟩
theorem Owns.put {w : World} {L : List (Nat × Array Value)} {n : Nat} {C : Array Value} {t : TypeId} (h : Owns w L) (hn : n = w.heap.size) : Owns (w.alloc (.cells C t)) ((n, C) :: L) := by
  subst hn; exact h.alloc
/-- a call has been made: what is owned is owned still -/
theorem Owns.step {w w1 : World} {L : List (Nat × Array Value)} {G : Prop} (hb : Grew w w1) (h : Owns w L) (k : Owns w1 L → G) : G := k (h.later hb)
theorem Grew.step {a w w1 : World} {G : Prop} (hb : Grew w w1) (h : Grew a w) (k : Grew a w1 → G) : G := k (h.trans hb)
theorem World.size_setCell' (w : World) (p : Addr) (v : Value) : (w.setCell p v).heap.size = w.heap.size := by simp [World.setCell]
/-- a store into one of them -/
def setIn (n i : Nat) (v : Value) : List (Nat × Array Value) → List (Nat × Array Value)
  | [] => []
  | (m, C) :: r => if m = n then (m, C.setIfInBounds i v) :: r else (m, C) :: setIn n i v r
theorem setIn_map (n i : Nat) (v : Value) : ∀ L : List (Nat × Array Value), (setIn n i v L).map (·.1) = L.map (·.1)
  | [] => rfl
  | (m, C) :: r => by simp only [setIn]; split <;> simp [setIn_map n i v r]
theorem Owns.far {w : World} {n i : Nat} {v : Value} : ∀ {L : List (Nat × Array Value)}, Owns w L → (∀ m, m ∈ L.map (·.1) → m ≠ n) → Owns (w.setCell ⟨n, i, none⟩ v) L
  | [], _, _ => trivial
  | (m, C) :: r, h, hn => by
    obtain ⟨⟨h1, h2, h3, h4⟩, h5⟩ := h
    have hne : m ≠ n := hn m (by simp)
    exact ⟨⟨fun j => (World.cell?_setCell_far w _ _ v (fun e => hne e.symm)).trans (h1 j), fun j => by simp [h2 j], by rw [World.size_setCell']; exact h3, h4⟩, Owns.far h5 (fun k hk => hn k (by simp at hk ⊢; exact .inr hk))⟩
theorem Owns.set {w : World} {n i : Nat} {v : Value} : ∀ {L : List (Nat × Array Value)}, Owns w L → n ∈ L.map (·.1) → Owns (w.setCell ⟨n, i, none⟩ v) (setIn n i v L)
  | [], _, hm => by cases hm
  | (m, C) :: r, h, hm => by
    obtain ⟨⟨h1, h2, h3, h4⟩, h5⟩ := h
    by_cases e : m = n
    · subst e
      simp only [setIn, if_pos]
      refine ⟨⟨fun j => ?_, fun j => by simp [h2 j], by rw [World.size_setCell']; exact h3, h4⟩, Owns.far h5 (fun k hk => Nat.ne_of_lt (h4 k hk))⟩
      by_cases ej : j = i
      · subst ej
        have h6 := h1 j
        rw [Array.getElem?_setIfInBounds_self]
        by_cases hj : j < C.size
        · have h7 : w.cell? ⟨m, j, none⟩ = some C[j] := by rw [h6]; simp [hj]
          rw [World.cell?_setCell_same (h := h7)]
          simp [hj]
        · have h7 : w.cell? ⟨m, j, none⟩ = none := by rw [h6]; simp; omega
          rw [if_neg hj]
          have : (w.setCell ⟨m, j, none⟩ v).cell? ⟨m, j, none⟩ = none := by
            cases hh : (w.setCell ⟨m, j, none⟩ v).cell? ⟨m, j, none⟩ with
            | none => rfl
            | some u =>
              exfalso
              simp only [World.setCell, World.cell?, Array.getElem?_modify] at hh h7
              split at h7 <;> simp_all
          exact this
      · rw [Array.getElem?_setIfInBounds_ne (fun e => ej e.symm), ← h1 j]
        apply World.cell?_setCell_other
        intro e
        simp only [Addr.mk.injEq] at e
        exact ej e.2.1.symm
    · simp only [setIn, if_neg e]
      have hr : n ∈ r.map (·.1) := by
        simp only [List.map_cons, List.mem_cons] at hm
        rcases hm with hm | hm
        · exact absurd hm.symm e
        · exact hm
      exact ⟨⟨fun j => (World.cell?_setCell_far w _ _ v (fun e2 => e e2.symm)).trans (h1 j), fun j => by simp [h2 j], by rw [World.size_setCell']; exact h3, by rw [setIn_map]; exact h4⟩, Owns.set h5 hr⟩

/-! A region that draws its order, whose operations only read and whose calls make memory alone: one walk, in the order of the text. -/
open Classical in
/-- some world in which whatever was there is as it was -/
noncomputable def grownTo (w x : World) : World := if Grew w x then x else w
theorem grew_grownTo (w x : World) : Grew w (grownTo w x) := by
  unfold grownTo; split
  · assumption
  · exact Grew.refl w
theorem grownTo_of {w x : World} (h : Grew w x) : x = grownTo w x := by unfold grownTo; rw [if_pos h]
@[go_sem] theorem cell?_grownTo (w x : World) (a : Addr) (h : (w.cell? a).isSome = true) : (grownTo w x).cell? a = w.cell? a := (grew_grownTo w x).keeps.1 a h
@[go_sem] theorem frozen?_grownTo (w x : World) (a : Addr) (h : (w.cell? a).isSome = true) : (grownTo w x).frozen? a = w.frozen? a := (grew_grownTo w x).keeps.2 a h
theorem wp_region_grown {P : Program} {id : Nat} {Q : Exit → Act → World → Prop} {a : Act} {w : World} {l : List Oper} (hm : P.follows .mixedOrders = true) (hB : Region.lexB .any l.toArray = true)
    (h : wpQuiet P l.toArray (fun w' => ∃ x, w' = grownTo w x) (fun a' => ∀ w', Grew w w' → Q .normal a' w') l a) : (Code.region id l.toArray true).wp P Q a w := by
  have e : (fun w' => ∃ x, w' = grownTo w x) = Grew w := by
    funext w'
    exact propext ⟨fun ⟨x, hx⟩ => hx ▸ grew_grownTo w x, fun h => ⟨w', grownTo_of h⟩⟩
  rw [e] at h
  exact wp_region_quiet (C := Grew w) hm hB ((Grew.refl w).drew) (by simpa using h)
theorem calls_grown {P : Program} {f : FuncId} {args : Array Value} {w x : World} {v : Value} (h : Calls P f args (grownTo w x) fun e w' => e = .returned v ∧ Grew (grownTo w x) w') :
    Calls P f args (grownTo w x) fun e w'' => e = .returned v ∧ ∃ y, w'' = grownTo w y :=
  h.mono fun _ w'' ⟨he, hg⟩ => ⟨he, w'', grownTo_of ((grew_grownTo w x).trans hg)⟩
theorem calls_grown_same {P : Program} {f : FuncId} {args : Array Value} {w x : World} {v : Value} (h : Calls P f args (grownTo w x) fun e w' => e = .returned v ∧ grownTo w x = w') :
    Calls P f args (grownTo w x) fun e w'' => e = .returned v ∧ ∃ y, w'' = grownTo w y :=
  h.mono fun _ _ ⟨he, hg⟩ => ⟨he, x, hg.symm⟩
theorem calls_grown_b {P : Program} {f : FuncId} {args : Array Value} {w x : World} {b c : Bool} (e : b = c) (h : Calls P f args (grownTo w x) fun e w' => e = .returned (.bool b) ∧ Grew (grownTo w x) w') :
    Calls P f args (grownTo w x) fun e w'' => e = .returned (.bool c) ∧ ∃ y, w'' = grownTo w y := by
  subst e; exact calls_grown h
theorem calls_grown_same_b {P : Program} {f : FuncId} {args : Array Value} {w x : World} {b c : Bool} (e : b = c) (h : Calls P f args (grownTo w x) fun e w' => e = .returned (.bool b) ∧ grownTo w x = w') :
    Calls P f args (grownTo w x) fun e w'' => e = .returned (.bool c) ∧ ∃ y, w'' = grownTo w y := by
  subst e; exact calls_grown_same h
/-- the world that the walk has come to, under a name -/
theorem settle {P : Program} {c : Code} {Q : Exit → Act → World → Prop} {a : Act} {w W : World} {L : List (Nat × Array Value)} (hg : Grew w W) (h : Owns W L) (k : ∀ w1, Grew w w1 → Owns w1 L → c.wp P Q a w1) : c.wp P Q a W := k W hg h
end Go.Proofs.Ytjjdblfnffcdlaa
