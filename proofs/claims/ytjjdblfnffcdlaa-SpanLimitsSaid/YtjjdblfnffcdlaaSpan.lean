/-
  The walks of packages span and estuaryref1 (spans): what each of their functions answers, in plain words. Condition: the texts are no longer than a length can say.
-/
import Derived.Test.YtjjdblfnffcdlaaBase
namespace Go.Proofs.Ytjjdblfnffcdlaa
open Go.RowKit
set_option linter.unusedSimpArgs false
set_option linter.unusedVariables false

def isKeyB (k : Bs) : Bool := !k.isEmpty && decide (k.length ≤ 8)
def isB (f t : Bs) : Bool := decide (f.length ≤ 8) && decide (t.length ≤ 8) && (t.isEmpty || blt f t)
def hasB (f t k : Bs) : Bool := isB f t && isKeyB k && !blt k f && (t.isEmpty || blt k t)
def lowOf (a b : Bs) : Bs := if a.isEmpty then b else if b.isEmpty then a else minB a b
def meetB (a b c d : Bs) : Bool := isB a b && isB c d && ((lowOf b d).isEmpty || blt (maxB a c) (lowOf b d))
def meetV (a b c d : Bs) : Value := if meetB a b c d then .agg #[S (maxB a c), S (lowOf b d)] else .agg #[S [], S []]
def withinB (a b c d : Bs) : Bool := isB a b && isB c d && !blt a c && (d.isEmpty || !b.isEmpty && !blt d b)
def touchB (a b c d : Bs) : Bool := isB a b && isB c d && !b.isEmpty && b == c
def cutB (a b k : Bs) : Bool := hasB a b k && blt a k
def cutV (a b k : Bs) : Value := .tuple #[if cutB a b k then .agg #[S a, S k] else .agg #[S [], S []], if cutB a b k then .agg #[S k, S b] else .agg #[S [], S []], .bool (cutB a b k)]
theorem maxB_len (a b : Bs) (n : Nat) (ha : a.length ≤ n) (hb : b.length ≤ n) : (maxB a b).length ≤ n := by unfold maxB; split <;> assumption
theorem minB_len (a b : Bs) (n : Nat) (ha : a.length ≤ n) (hb : b.length ≤ n) : (minB a b).length ≤ n := by unfold minB; split <;> assumption
theorem lowOf_len (a b : Bs) (n : Nat) (ha : a.length ≤ n) (hb : b.length ≤ n) : (lowOf a b).length ≤ n := by
  unfold lowOf; split
  · assumption
  · split
    · assumption
    · exact minB_len _ _ _ ha hb
theorem isB_meet (a b c d : Bs) (h1 : isB a b = true) (h2 : isB c d = true) : isB (maxB a c) (lowOf b d) = ((lowOf b d).isEmpty || blt (maxB a c) (lowOf b d)) := by
  simp only [isB, Bool.and_eq_true, decide_eq_true_eq] at h1 h2
  simp [isB, maxB_len a c 8 h1.1.1 h2.1.1, lowOf_len b d 8 h1.1.2 h2.1.2]

set_option maxHeartbeats 400000 in
theorem isKey_any (k : Bs) (w : World) (hk : k.length ≤ maxLen) :
    Calls Try.prog 12 #[S k] w fun e w' => e = .returned (.bool (isKeyB k)) ∧ w = w' := by
  unfold maxLen at hk
  go_enter Try.func12, Try.ntmps12
  go_wp2
  all_goals go_ret
  all_goals exact ⟨ret_bool (by cases k <;> simp [isKeyB] <;> grind), rfl⟩

set_option maxHeartbeats 400000 in
theorem is_any (a b : Bs) (w : World) (ha : a.length ≤ maxLen) (hb : b.length ≤ maxLen) :
    Calls Try.prog 14 #[.agg #[S a, S b]] w fun e w' => e = .returned (.bool (isB a b)) ∧ Grew w w' := by
  unfold maxLen at ha hb
  have hG := Grew.refl w
  go_enter Try.func14, Try.ntmps14
  go_wp2
  all_goals go_ret
  all_goals exact ⟨ret_bool (by simp [isB, blt, blt_asymm]; grind), by (repeat (with_reducible (first | exact hG | refine Grew.drew ?_ | refine Grew.alloc ?_ | refine Grew.setCell ?_ ?_)))⟩

set_option maxHeartbeats 400000 in
theorem has_any (a b k : Bs) (w : World) (ha : a.length ≤ maxLen) (hb : b.length ≤ maxLen) (hk : k.length ≤ maxLen) :
    Calls Try.prog 16 #[.agg #[S a, S b], S k] w fun e w' => e = .returned (.bool (hasB a b k)) ∧ Grew w w' := by
  have hG := Grew.refl w
  have K := Owns.nil w
  go_enter Try.func16, Try.ntmps16
  go_wp2_with (first | (go_at_call 14; refine (is_any _ _ _ ha hb).mono ?_; rintro e w1 ⟨rfl, hb1⟩; (try clear KO); refine Grew.step (a := w) hb1 ?_ ?_; (focus ((repeat (with_reducible (first | exact hG | refine Grew.drew ?_ | refine Grew.alloc ?_ | refine Grew.setCell ?_ ?_))) <;> simp)); clear hG; intro hG; apply Owns.step hb1; (focus ((repeat (with_reducible (first | exact K | apply Owns.alloc | apply Owns.drew | apply Owns.set))) <;> simp)); clear K; intro K; have KO := K; (try simp [Owns, setIn] at KO)) | (go_at_call 12; refine (isKey_any _ _ hk).mono ?_; rintro e w1 ⟨rfl, rfl⟩))
  all_goals go_ret
  all_goals exact ⟨ret_bool (by simp [hasB, blt]; grind), by (repeat (with_reducible (first | exact hG | refine Grew.drew ?_ | refine Grew.alloc ?_ | refine Grew.setCell ?_ ?_)))⟩

set_option maxHeartbeats 400000 in
theorem low_any (a b : Bs) (w : World) :
    Calls Try.prog 22 #[S a, S b] w fun e w' => e = .returned (S (lowOf a b)) ∧ w = w' := by
  go_enter Try.func22, Try.ntmps22
  go_wp2
  all_goals go_ret
  all_goals exact ⟨ret_val (by simp_all [lowOf, minB, blt]), rfl⟩

set_option maxHeartbeats 1000000 in
theorem meet_any (a b c d : Bs) (w : World) (ha : a.length ≤ maxLen) (hb : b.length ≤ maxLen) (hc : c.length ≤ maxLen) (hd : d.length ≤ maxLen) :
    Calls Try.prog 8 #[.agg #[S a, S b], .agg #[S c, S d]] w fun e w' => e = .returned (.tuple #[meetV a b c d, .bool (meetB a b c d)]) ∧ Grew w w' := by
  have hx : (maxB a c).length ≤ maxLen := maxB_len _ _ _ ha hc
  have hy : (lowOf b d).length ≤ maxLen := lowOf_len _ _ _ hb hd
  have HM := Lib.hid (isB_meet a b c d)
  go_enter Try.func8, Try.ntmps8
  go_upto_region 1 with fail
  go_cut [6] (fun s6 wx => ∃ g : Nat, s6 = .pointer (some ⟨g, 0, none⟩) ∧ Owns wx [(g, #[S (maxB a c), S (lowOf b d)]), (w.heap.size + 1 + 1, #[S [], S []]), (w.heap.size + 1, #[S c, S d]), (w.heap.size, #[S a, S b])] ∧ Grew w wx)
  case first =>
    go_region_held3 (fun w' => w'.cell? ⟨w.heap.size, 0, none⟩ = some (S a) ∧ w'.cell? ⟨w.heap.size, 1, none⟩ = some (S b) ∧ w'.cell? ⟨w.heap.size + 1, 0, none⟩ = some (S c) ∧ w'.cell? ⟨w.heap.size + 1, 1, none⟩ = some (S d)) (simp [go_sem, World.cell?_alloc_past])
      (first
        | (go_at_call 22; refine (low_any _ _ _).mono ?_; rintro e w' ⟨rfl, rfl⟩))
    all_goals (go_wp2_with fail; go_meet; exact ⟨_, rfl, (((((Owns.nil w).put rfl).put (by simp)).put (by simp)).put (by simp)).drew, (Grew.refl _).alloc.alloc.alloc.alloc.drew⟩)
  case rest =>
    obtain ⟨g, rfl, K, hG⟩ := hcut
    have KO := K
    simp [Owns] at KO
    go_wp2_with (first | (go_at_call_of 14 (Value.agg #[S a, S b]); refine (is_any _ _ _ ha hb).mono ?_; rintro e w1 ⟨rfl, hb1⟩; (try clear KO); refine Grew.step (a := w) hb1 ?_ ?_; (focus ((repeat (with_reducible (first | exact hG | refine Grew.drew ?_ | refine Grew.alloc ?_ | refine Grew.setCell ?_ ?_))) <;> simp)); clear hG; intro hG; apply Owns.step hb1; (focus ((repeat (with_reducible (first | exact K | apply Owns.alloc | apply Owns.drew | apply Owns.set))) <;> simp)); clear K; intro K; have KO := K; (try simp [Owns, setIn] at KO)) | (go_at_call_of 14 (Value.agg #[S c, S d]); refine (is_any _ _ _ hc hd).mono ?_; rintro e w1 ⟨rfl, hb1⟩; (try clear KO); refine Grew.step (a := w) hb1 ?_ ?_; (focus ((repeat (with_reducible (first | exact hG | refine Grew.drew ?_ | refine Grew.alloc ?_ | refine Grew.setCell ?_ ?_))) <;> simp)); clear hG; intro hG; apply Owns.step hb1; (focus ((repeat (with_reducible (first | exact K | apply Owns.alloc | apply Owns.drew | apply Owns.set))) <;> simp)); clear K; intro K; have KO := K; (try simp [Owns, setIn] at KO)) | (go_at_call_of 14 (Value.agg #[S (maxB a c), S (lowOf b d)]); refine (is_any _ _ _ hx hy).mono ?_; rintro e w1 ⟨rfl, hb1⟩; (try clear KO); refine Grew.step (a := w) hb1 ?_ ?_; (focus ((repeat (with_reducible (first | exact hG | refine Grew.drew ?_ | refine Grew.alloc ?_ | refine Grew.setCell ?_ ?_))) <;> simp)); clear hG; intro hG; apply Owns.step hb1; (focus ((repeat (with_reducible (first | exact K | apply Owns.alloc | apply Owns.drew | apply Owns.set))) <;> simp)); clear K; intro K; have KO := K; (try simp [Owns, setIn] at KO)))
    all_goals refine bodyPost_ret (by first | (simp [results, Try.results8, go_sem, KO]; done) | (simp [results, Try.results8, go_sem, KO]; rfl)) rfl ⟨?_, ?_⟩
    all_goals first
      | (refine ret_val ?_; have HM := HM.out; have e : meetB a b c d = true := by (first | (simp [meetB, blt]; grind) | (simp [meetB, blt] at *; grind))
         first | (simp [meetV, e]; done) | (simp [meetV, e, *]; done))
      | (refine ret_val ?_; have HM := HM.out; have e : meetB a b c d = false := by (first | (simp [meetB, blt]; grind) | (simp [meetB, blt] at *; grind))
         first | (simp [meetV, e]; done) | (simp [meetV, e, *]; done))
      | ((repeat (with_reducible (first | exact hG | refine Grew.drew ?_ | refine Grew.alloc ?_ | refine Grew.setCell ?_ ?_))) <;> first | omega | (simp; done) | (simp; omega))

set_option maxHeartbeats 1000000 in
theorem within_any (a b c d : Bs) (w : World) (ha : a.length ≤ maxLen) (hb : b.length ≤ maxLen) (hc : c.length ≤ maxLen) (hd : d.length ≤ maxLen) :
    Calls Try.prog 18 #[.agg #[S a, S b], .agg #[S c, S d]] w fun e w' => e = .returned (.bool (withinB a b c d)) ∧ Grew w w' := by
  have HA := Lib.hid (blt_asymm b d)
  have hG := Grew.refl w
  have K := Owns.nil w
  go_enter Try.func18, Try.ntmps18
  go_wp2_with (first | (go_at_call_of 14 (Value.agg #[S a, S b]); refine (is_any _ _ _ ha hb).mono ?_; rintro e w1 ⟨rfl, hb1⟩; (try clear KO); refine Grew.step (a := w) hb1 ?_ ?_; (focus ((repeat (with_reducible (first | exact hG | refine Grew.drew ?_ | refine Grew.alloc ?_ | refine Grew.setCell ?_ ?_))) <;> simp)); clear hG; intro hG; apply Owns.step hb1; (focus ((repeat (with_reducible (first | exact K | apply Owns.alloc | apply Owns.drew | apply Owns.set))) <;> simp)); clear K; intro K; have KO := K; (try simp [Owns, setIn] at KO)) | (go_at_call_of 14 (Value.agg #[S c, S d]); refine (is_any _ _ _ hc hd).mono ?_; rintro e w1 ⟨rfl, hb1⟩; (try clear KO); refine Grew.step (a := w) hb1 ?_ ?_; (focus ((repeat (with_reducible (first | exact hG | refine Grew.drew ?_ | refine Grew.alloc ?_ | refine Grew.setCell ?_ ?_))) <;> simp)); clear hG; intro hG; apply Owns.step hb1; (focus ((repeat (with_reducible (first | exact K | apply Owns.alloc | apply Owns.drew | apply Owns.set))) <;> simp)); clear K; intro K; have KO := K; (try simp [Owns, setIn] at KO)))
  all_goals go_ret
  all_goals exact ⟨ret_bool (by have HA := HA.out; simp [withinB, blt]; grind), by (repeat (with_reducible (first | exact hG | refine Grew.drew ?_ | refine Grew.alloc ?_ | refine Grew.setCell ?_ ?_)))⟩

set_option maxHeartbeats 1000000 in
theorem touch_any (a b c d : Bs) (w : World) (ha : a.length ≤ maxLen) (hb : b.length ≤ maxLen) (hc : c.length ≤ maxLen) (hd : d.length ≤ maxLen) :
    Calls Try.prog 20 #[.agg #[S a, S b], .agg #[S c, S d]] w fun e w' => e = .returned (.bool (touchB a b c d)) ∧ Grew w w' := by
  have hG := Grew.refl w
  have K := Owns.nil w
  go_enter Try.func20, Try.ntmps20
  go_wp2_with (first | (go_at_call_of 14 (Value.agg #[S a, S b]); refine (is_any _ _ _ ha hb).mono ?_; rintro e w1 ⟨rfl, hb1⟩; (try clear KO); refine Grew.step (a := w) hb1 ?_ ?_; (focus ((repeat (with_reducible (first | exact hG | refine Grew.drew ?_ | refine Grew.alloc ?_ | refine Grew.setCell ?_ ?_))) <;> simp)); clear hG; intro hG; apply Owns.step hb1; (focus ((repeat (with_reducible (first | exact K | apply Owns.alloc | apply Owns.drew | apply Owns.set))) <;> simp)); clear K; intro K; have KO := K; (try simp [Owns, setIn] at KO)) | (go_at_call_of 14 (Value.agg #[S c, S d]); refine (is_any _ _ _ hc hd).mono ?_; rintro e w1 ⟨rfl, hb1⟩; (try clear KO); refine Grew.step (a := w) hb1 ?_ ?_; (focus ((repeat (with_reducible (first | exact hG | refine Grew.drew ?_ | refine Grew.alloc ?_ | refine Grew.setCell ?_ ?_))) <;> simp)); clear hG; intro hG; apply Owns.step hb1; (focus ((repeat (with_reducible (first | exact K | apply Owns.alloc | apply Owns.drew | apply Owns.set))) <;> simp)); clear K; intro K; have KO := K; (try simp [Owns, setIn] at KO)))
  all_goals go_ret
  all_goals exact ⟨ret_bool (by simp [touchB, blt]; grind), by (repeat (with_reducible (first | exact hG | refine Grew.drew ?_ | refine Grew.alloc ?_ | refine Grew.setCell ?_ ?_)))⟩

set_option maxHeartbeats 1000000 in
theorem cut_any (a b k : Bs) (w : World) (ha : a.length ≤ maxLen) (hb : b.length ≤ maxLen) (hk : k.length ≤ maxLen) :
    Calls Try.prog 10 #[.agg #[S a, S b], S k] w fun e w' => e = .returned (cutV a b k) ∧ Grew w w' := by
  have HA := Lib.hid (blt_asymm a k)
  have hG := Grew.refl w
  have K := Owns.nil w
  go_enter Try.func10, Try.ntmps10
  go_wp2_with (first | (go_at_call 16; refine (has_any _ _ _ _ ha hb hk).mono ?_; rintro e w1 ⟨rfl, hb1⟩; (try clear KO); refine Grew.step (a := w) hb1 ?_ ?_; (focus ((repeat (with_reducible (first | exact hG | refine Grew.drew ?_ | refine Grew.alloc ?_ | refine Grew.setCell ?_ ?_))) <;> simp)); clear hG; intro hG; apply Owns.step hb1; (focus ((repeat (with_reducible (first | exact K | apply Owns.alloc | apply Owns.drew | apply Owns.set))) <;> simp)); clear K; intro K; have KO := K; (try simp [Owns, setIn] at KO)))
  all_goals try go_region
  all_goals (try go_wp2)
  all_goals refine bodyPost_ret (by first | (simp [results, Try.results10, go_sem, KO]; done) | (simp [results, Try.results10, go_sem, KO]; rfl)) rfl ⟨?_, ?_⟩
  all_goals first
    | (refine ret_val ?_; have HA := HA.out; have e : cutB a b k = true := by (simp [cutB, blt]; grind)
       simp [cutV, e]; done)
    | (refine ret_val ?_; have HA := HA.out; have e : cutB a b k = false := by (simp [cutB, blt]; grind)
       simp [cutV, e]; done)
    | ((repeat (with_reducible (first | exact hG | refine Grew.drew ?_ | refine Grew.alloc ?_ | refine Grew.setCell ?_ ?_))) <;> first | omega | (simp; done) | (simp; omega))

set_option maxHeartbeats 400000 in
theorem isKeyr_any (k : Bs) (w : World) (hk : k.length ≤ maxLen) :
    Calls Try.prog 13 #[S k] w fun e w' => e = .returned (.bool (isKeyB k)) ∧ w = w' := by
  unfold maxLen at hk
  go_enter Try.func13, Try.ntmps13
  go_wp2
  all_goals go_ret
  all_goals exact ⟨ret_bool (by cases k <;> simp [isKeyB] <;> grind), rfl⟩

set_option maxHeartbeats 400000 in
theorem isr_any (a b : Bs) (w : World) (ha : a.length ≤ maxLen) (hb : b.length ≤ maxLen) :
    Calls Try.prog 15 #[.agg #[S a, S b]] w fun e w' => e = .returned (.bool (isB a b)) ∧ Grew w w' := by
  unfold maxLen at ha hb
  have hG := Grew.refl w
  go_enter Try.func15, Try.ntmps15
  go_wp2
  all_goals go_ret
  all_goals exact ⟨ret_bool (by simp [isB, blt, blt_asymm]; grind), by (repeat (with_reducible (first | exact hG | refine Grew.drew ?_ | refine Grew.alloc ?_ | refine Grew.setCell ?_ ?_)))⟩

set_option maxHeartbeats 400000 in
theorem hasr_any (a b k : Bs) (w : World) (ha : a.length ≤ maxLen) (hb : b.length ≤ maxLen) (hk : k.length ≤ maxLen) :
    Calls Try.prog 17 #[.agg #[S a, S b], S k] w fun e w' => e = .returned (.bool (hasB a b k)) ∧ Grew w w' := by
  have hG := Grew.refl w
  have K := Owns.nil w
  go_enter Try.func17, Try.ntmps17
  go_wp2_with (first | (go_at_call 15; refine (isr_any _ _ _ ha hb).mono ?_; rintro e w1 ⟨rfl, hb1⟩; (try clear KO); refine Grew.step (a := w) hb1 ?_ ?_; (focus ((repeat (with_reducible (first | exact hG | refine Grew.drew ?_ | refine Grew.alloc ?_ | refine Grew.setCell ?_ ?_))) <;> simp)); clear hG; intro hG; apply Owns.step hb1; (focus ((repeat (with_reducible (first | exact K | apply Owns.alloc | apply Owns.drew | apply Owns.set))) <;> simp)); clear K; intro K; have KO := K; (try simp [Owns, setIn] at KO)) | (go_at_call 13; refine (isKeyr_any _ _ hk).mono ?_; rintro e w1 ⟨rfl, rfl⟩))
  all_goals go_ret
  all_goals exact ⟨ret_bool (by simp [hasB, blt]; grind), by (repeat (with_reducible (first | exact hG | refine Grew.drew ?_ | refine Grew.alloc ?_ | refine Grew.setCell ?_ ?_)))⟩

set_option maxHeartbeats 400000 in
theorem lowr_any (a b : Bs) (w : World) :
    Calls Try.prog 23 #[S a, S b] w fun e w' => e = .returned (S (lowOf a b)) ∧ w = w' := by
  go_enter Try.func23, Try.ntmps23
  go_wp2
  all_goals go_ret
  all_goals exact ⟨ret_val (by simp_all [lowOf, minB, blt]), rfl⟩

set_option maxHeartbeats 1000000 in
theorem meetr_any (a b c d : Bs) (w : World) (ha : a.length ≤ maxLen) (hb : b.length ≤ maxLen) (hc : c.length ≤ maxLen) (hd : d.length ≤ maxLen) :
    Calls Try.prog 9 #[.agg #[S a, S b], .agg #[S c, S d]] w fun e w' => e = .returned (.tuple #[meetV a b c d, .bool (meetB a b c d)]) ∧ Grew w w' := by
  have hx : (maxB a c).length ≤ maxLen := maxB_len _ _ _ ha hc
  have hy : (lowOf b d).length ≤ maxLen := lowOf_len _ _ _ hb hd
  have HM := Lib.hid (isB_meet a b c d)
  go_enter Try.func9, Try.ntmps9
  go_upto_region 1 with fail
  go_cut [6] (fun s6 wx => ∃ g : Nat, s6 = .pointer (some ⟨g, 0, none⟩) ∧ Owns wx [(g, #[S (maxB a c), S (lowOf b d)]), (w.heap.size + 1 + 1, #[S [], S []]), (w.heap.size + 1, #[S c, S d]), (w.heap.size, #[S a, S b])] ∧ Grew w wx)
  case first =>
    go_region_held3 (fun w' => w'.cell? ⟨w.heap.size, 0, none⟩ = some (S a) ∧ w'.cell? ⟨w.heap.size, 1, none⟩ = some (S b) ∧ w'.cell? ⟨w.heap.size + 1, 0, none⟩ = some (S c) ∧ w'.cell? ⟨w.heap.size + 1, 1, none⟩ = some (S d)) (simp [go_sem, World.cell?_alloc_past])
      (first
        | (go_at_call 23; refine (lowr_any _ _ _).mono ?_; rintro e w' ⟨rfl, rfl⟩))
    all_goals (go_wp2_with fail; go_meet; exact ⟨_, rfl, (((((Owns.nil w).put rfl).put (by simp)).put (by simp)).put (by simp)).drew, (Grew.refl _).alloc.alloc.alloc.alloc.drew⟩)
  case rest =>
    obtain ⟨g, rfl, K, hG⟩ := hcut
    have KO := K
    simp [Owns] at KO
    go_wp2_with (first | (go_at_call_of 15 (Value.agg #[S a, S b]); refine (isr_any _ _ _ ha hb).mono ?_; rintro e w1 ⟨rfl, hb1⟩; (try clear KO); refine Grew.step (a := w) hb1 ?_ ?_; (focus ((repeat (with_reducible (first | exact hG | refine Grew.drew ?_ | refine Grew.alloc ?_ | refine Grew.setCell ?_ ?_))) <;> simp)); clear hG; intro hG; apply Owns.step hb1; (focus ((repeat (with_reducible (first | exact K | apply Owns.alloc | apply Owns.drew | apply Owns.set))) <;> simp)); clear K; intro K; have KO := K; (try simp [Owns, setIn] at KO)) | (go_at_call_of 15 (Value.agg #[S c, S d]); refine (isr_any _ _ _ hc hd).mono ?_; rintro e w1 ⟨rfl, hb1⟩; (try clear KO); refine Grew.step (a := w) hb1 ?_ ?_; (focus ((repeat (with_reducible (first | exact hG | refine Grew.drew ?_ | refine Grew.alloc ?_ | refine Grew.setCell ?_ ?_))) <;> simp)); clear hG; intro hG; apply Owns.step hb1; (focus ((repeat (with_reducible (first | exact K | apply Owns.alloc | apply Owns.drew | apply Owns.set))) <;> simp)); clear K; intro K; have KO := K; (try simp [Owns, setIn] at KO)) | (go_at_call_of 15 (Value.agg #[S (maxB a c), S (lowOf b d)]); refine (isr_any _ _ _ hx hy).mono ?_; rintro e w1 ⟨rfl, hb1⟩; (try clear KO); refine Grew.step (a := w) hb1 ?_ ?_; (focus ((repeat (with_reducible (first | exact hG | refine Grew.drew ?_ | refine Grew.alloc ?_ | refine Grew.setCell ?_ ?_))) <;> simp)); clear hG; intro hG; apply Owns.step hb1; (focus ((repeat (with_reducible (first | exact K | apply Owns.alloc | apply Owns.drew | apply Owns.set))) <;> simp)); clear K; intro K; have KO := K; (try simp [Owns, setIn] at KO)))
    all_goals refine bodyPost_ret (by first | (simp [results, Try.results9, go_sem, KO]; done) | (simp [results, Try.results9, go_sem, KO]; rfl)) rfl ⟨?_, ?_⟩
    all_goals first
      | (refine ret_val ?_; have HM := HM.out; have e : meetB a b c d = true := by (first | (simp [meetB, blt]; grind) | (simp [meetB, blt] at *; grind))
         first | (simp [meetV, e]; done) | (simp [meetV, e, *]; done))
      | (refine ret_val ?_; have HM := HM.out; have e : meetB a b c d = false := by (first | (simp [meetB, blt]; grind) | (simp [meetB, blt] at *; grind))
         first | (simp [meetV, e]; done) | (simp [meetV, e, *]; done))
      | ((repeat (with_reducible (first | exact hG | refine Grew.drew ?_ | refine Grew.alloc ?_ | refine Grew.setCell ?_ ?_))) <;> first | omega | (simp; done) | (simp; omega))

set_option maxHeartbeats 1000000 in
theorem withinr_any (a b c d : Bs) (w : World) (ha : a.length ≤ maxLen) (hb : b.length ≤ maxLen) (hc : c.length ≤ maxLen) (hd : d.length ≤ maxLen) :
    Calls Try.prog 19 #[.agg #[S a, S b], .agg #[S c, S d]] w fun e w' => e = .returned (.bool (withinB a b c d)) ∧ Grew w w' := by
  have HA := Lib.hid (blt_asymm b d)
  have hG := Grew.refl w
  have K := Owns.nil w
  go_enter Try.func19, Try.ntmps19
  go_wp2_with (first | (go_at_call_of 15 (Value.agg #[S a, S b]); refine (isr_any _ _ _ ha hb).mono ?_; rintro e w1 ⟨rfl, hb1⟩; (try clear KO); refine Grew.step (a := w) hb1 ?_ ?_; (focus ((repeat (with_reducible (first | exact hG | refine Grew.drew ?_ | refine Grew.alloc ?_ | refine Grew.setCell ?_ ?_))) <;> simp)); clear hG; intro hG; apply Owns.step hb1; (focus ((repeat (with_reducible (first | exact K | apply Owns.alloc | apply Owns.drew | apply Owns.set))) <;> simp)); clear K; intro K; have KO := K; (try simp [Owns, setIn] at KO)) | (go_at_call_of 15 (Value.agg #[S c, S d]); refine (isr_any _ _ _ hc hd).mono ?_; rintro e w1 ⟨rfl, hb1⟩; (try clear KO); refine Grew.step (a := w) hb1 ?_ ?_; (focus ((repeat (with_reducible (first | exact hG | refine Grew.drew ?_ | refine Grew.alloc ?_ | refine Grew.setCell ?_ ?_))) <;> simp)); clear hG; intro hG; apply Owns.step hb1; (focus ((repeat (with_reducible (first | exact K | apply Owns.alloc | apply Owns.drew | apply Owns.set))) <;> simp)); clear K; intro K; have KO := K; (try simp [Owns, setIn] at KO)))
  all_goals go_ret
  all_goals exact ⟨ret_bool (by have HA := HA.out; simp [withinB, blt]; grind), by (repeat (with_reducible (first | exact hG | refine Grew.drew ?_ | refine Grew.alloc ?_ | refine Grew.setCell ?_ ?_)))⟩

set_option maxHeartbeats 1000000 in
theorem touchr_any (a b c d : Bs) (w : World) (ha : a.length ≤ maxLen) (hb : b.length ≤ maxLen) (hc : c.length ≤ maxLen) (hd : d.length ≤ maxLen) :
    Calls Try.prog 21 #[.agg #[S a, S b], .agg #[S c, S d]] w fun e w' => e = .returned (.bool (touchB a b c d)) ∧ Grew w w' := by
  have hG := Grew.refl w
  have K := Owns.nil w
  go_enter Try.func21, Try.ntmps21
  go_wp2_with (first | (go_at_call_of 15 (Value.agg #[S a, S b]); refine (isr_any _ _ _ ha hb).mono ?_; rintro e w1 ⟨rfl, hb1⟩; (try clear KO); refine Grew.step (a := w) hb1 ?_ ?_; (focus ((repeat (with_reducible (first | exact hG | refine Grew.drew ?_ | refine Grew.alloc ?_ | refine Grew.setCell ?_ ?_))) <;> simp)); clear hG; intro hG; apply Owns.step hb1; (focus ((repeat (with_reducible (first | exact K | apply Owns.alloc | apply Owns.drew | apply Owns.set))) <;> simp)); clear K; intro K; have KO := K; (try simp [Owns, setIn] at KO)) | (go_at_call_of 15 (Value.agg #[S c, S d]); refine (isr_any _ _ _ hc hd).mono ?_; rintro e w1 ⟨rfl, hb1⟩; (try clear KO); refine Grew.step (a := w) hb1 ?_ ?_; (focus ((repeat (with_reducible (first | exact hG | refine Grew.drew ?_ | refine Grew.alloc ?_ | refine Grew.setCell ?_ ?_))) <;> simp)); clear hG; intro hG; apply Owns.step hb1; (focus ((repeat (with_reducible (first | exact K | apply Owns.alloc | apply Owns.drew | apply Owns.set))) <;> simp)); clear K; intro K; have KO := K; (try simp [Owns, setIn] at KO)))
  all_goals go_ret
  all_goals exact ⟨ret_bool (by simp [touchB, blt]; grind), by (repeat (with_reducible (first | exact hG | refine Grew.drew ?_ | refine Grew.alloc ?_ | refine Grew.setCell ?_ ?_)))⟩

set_option maxHeartbeats 1000000 in
theorem cutr_any (a b k : Bs) (w : World) (ha : a.length ≤ maxLen) (hb : b.length ≤ maxLen) (hk : k.length ≤ maxLen) :
    Calls Try.prog 11 #[.agg #[S a, S b], S k] w fun e w' => e = .returned (cutV a b k) ∧ Grew w w' := by
  have HA := Lib.hid (blt_asymm a k)
  have hG := Grew.refl w
  have K := Owns.nil w
  go_enter Try.func11, Try.ntmps11
  go_wp2_with (first | (go_at_call 17; refine (hasr_any _ _ _ _ ha hb hk).mono ?_; rintro e w1 ⟨rfl, hb1⟩; (try clear KO); refine Grew.step (a := w) hb1 ?_ ?_; (focus ((repeat (with_reducible (first | exact hG | refine Grew.drew ?_ | refine Grew.alloc ?_ | refine Grew.setCell ?_ ?_))) <;> simp)); clear hG; intro hG; apply Owns.step hb1; (focus ((repeat (with_reducible (first | exact K | apply Owns.alloc | apply Owns.drew | apply Owns.set))) <;> simp)); clear K; intro K; have KO := K; (try simp [Owns, setIn] at KO)))
  all_goals try go_region
  all_goals (try go_wp2)
  all_goals refine bodyPost_ret (by first | (simp [results, Try.results11, go_sem, KO]; done) | (simp [results, Try.results11, go_sem, KO]; rfl)) rfl ⟨?_, ?_⟩
  all_goals first
    | (refine ret_val ?_; have HA := HA.out; have e : cutB a b k = true := by (simp [cutB, blt]; grind)
       simp [cutV, e]; done)
    | (refine ret_val ?_; have HA := HA.out; have e : cutB a b k = false := by (simp [cutB, blt]; grind)
       simp [cutV, e]; done)
    | ((repeat (with_reducible (first | exact hG | refine Grew.drew ?_ | refine Grew.alloc ?_ | refine Grew.setCell ?_ ?_))) <;> first | omega | (simp; done) | (simp; omega))
end Go.Proofs.Ytjjdblfnffcdlaa
