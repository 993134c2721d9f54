/-
  The plain law of 'SpanLimits' and its walk: of every two small numbers the law answers true. No condition.
-/
import Derived.Test.YtjjdblfnffcdlaaKnown
namespace Go.Proofs.Ytjjdblfnffcdlaa
open Go.RowKit
set_option linter.unusedSimpArgs false
set_option linter.unusedVariables false

theorem info_u8 : (Try.prog.info? 5).map (fun i => (i.zero, i.size, i.bytes)) = some (some (.int .u8 0), 1, 1) := by kernel_rfl
def zeros (m : Nat) : Bs := List.replicate m 0
def zerosV (m : Nat) : Array Value := (List.replicate m (Value.int .u8 0)).toArray
theorem madeCells_u8 (m : Nat) : madeCells #[.int .u8 0] m = (List.replicate m (Value.int .u8 0)).toArray := by
  unfold madeCells
  apply Array.ext
  · simp
  · intro i h1 h2
    simp [Nat.mod_one]
theorem fold_push : ∀ (ns : List Int) (l : Bs), (ns.foldl (fun r n => r.push (UInt8.ofNat n.toNat)) (⟨l.toArray⟩ : ByteArray)) = ⟨(l ++ ns.map fun n => UInt8.ofNat n.toNat).toArray⟩
  | [], l => by simp
  | n :: ns, l => by
    have e : (⟨l.toArray⟩ : ByteArray).push (UInt8.ofNat n.toNat) = ⟨(l ++ [UInt8.ofNat n.toNat]).toArray⟩ := by simp [ByteArray.push]
    rw [List.foldl_cons, e, fold_push ns]
    simp
@[go_sem] theorem append_mk (a b : Bs) : (⟨a.toArray⟩ : ByteArray) ++ ⟨b.toArray⟩ = ⟨(a ++ b).toArray⟩ := by
  apply ByteArray.ext
  simp
/-- bytes in one of the call's blocks, as a text -/
theorem run_text_of (w : World) (b : Nat) (n c : Nat) (ns : List Int) (hn : ns.length = n) (h : ∀ j u, (ns.map (Value.int .u8))[j]? = some u → w.cell? ⟨b, j, none⟩ = some u) :
    (convert 36 9 (.slice (some ⟨b, 0, none⟩) n c)).run Try.prog w = .ok (S (ns.map fun n => UInt8.ofNat n.toNat)) w := by
  rw [run_convert_bytes_string w 36 9 5 _ _ _ Try.underlying36 Try.underlying5 Try.underlying9]
  rw [run_bytesToString w _ _ _ ns]
  · have e := fold_push ns []
    simp only [List.nil_append] at e
    have e0 : ByteArray.empty = (⟨([] : Bs).toArray⟩ : ByteArray) := rfl
    rw [e0, e]
  · have := run_loadCells_list (P := Try.prog) w ⟨b, 0, none⟩ (ns.map (Value.int .u8)) (fun j v hv => by
      have e : (⟨b, 0, none⟩ : Addr).add j = ⟨b, j, none⟩ := by cases j <;> simp [Addr.add]
      rw [e]; exact h j v hv)
    simpa [hn] using this

set_option maxRecDepth 100000 in
set_option maxHeartbeats 2000000 in
theorem spanLimits_at (n e : Int) (m : Nat) (p q r : Bool) (w : World) (hn : 0 ≤ n ∧ n ≤ 255) (he : 0 ≤ e ∧ e ≤ 255) (hm : m < 12) (hnm : n % 12 = m) (hz : (zeros m).length = m)
    (k1 : isKeyB (zeros m) = p) (k2 : isB (zeros m) (zeros m ++ [UInt8.ofNat e.toNat]) = q) (k3 : hasB (zeros m) (zeros m ++ [UInt8.ofNat e.toNat]) (zeros m) = r) (k4 : hasB (zeros m) (zeros m ++ [UInt8.ofNat e.toNat]) (zeros m ++ [UInt8.ofNat e.toNat]) = false)
    (ok : (m < 1 ∧ p = false ∧ q = true ∧ r = false) ∨ (1 ≤ m ∧ m ≤ 7 ∧ p = true ∧ q = true ∧ r = true) ∨ (8 ≤ m ∧ m ≤ 8 ∧ p = true ∧ q = false ∧ r = false) ∨ (9 ≤ m ∧ p = false ∧ q = false ∧ r = false)) :
    Calls Try.prog 6 #[.int .u8 n, .int .u8 e] w fun e w' => e = .returned (.bool true) ∧ Grew w w' := by
  obtain ⟨n0, n1⟩ := hn
  obtain ⟨i0, hi, hz0, hz1, hz2⟩ := info_parts info_u8
  have hmk : ∀ u : World, (Instr.makeSlice 36 (.int .i64 (m : Int)) (.int .i64 (m : Int))).run Try.prog u = .ok (.slice (some ⟨u.heap.size, 0, none⟩) m m) (u.alloc (.cells (zerosV m) 5)) := fun u => by
    have h := run_make (P := Try.prog) u 36 5 i0 (.int .u8 0) Try.underlying36 hi hz0 .i64 .i64 (m : Int) (m : Int) (by omega) (Int.le_refl _) (by rw [hz2]; omega) (by omega)
    simpa [hz1, Value.cells, madeCells_u8, zerosV] using h
  have hcv : ∀ u : World, (convert 36 9 (.slice (some ⟨u.heap.size, 0, none⟩) m m)).run Try.prog (u.alloc (.cells (zerosV m) 5)) = .ok (S (zeros m)) (u.alloc (.cells (zerosV m) 5)) := fun u => by
    have h := run_text_of (u.alloc (.cells (zerosV m) 5)) u.heap.size m m (List.replicate m 0) (by simp) (fun j v hv => by rw [World.cell?_alloc_new]; unfold zerosV; rw [List.getElem?_toArray]; simpa only [List.map_replicate] using hv)
    simpa [zeros] using h
  have hcv1 : ∀ (u : World) (nn : Nat), nn = u.heap.size → (convert 36 9 (.slice (some ⟨nn, 0, none⟩) 1 1)).run Try.prog (u.alloc (.cells #[Value.int .u8 e] 5)) = .ok (S [UInt8.ofNat e.toNat]) (u.alloc (.cells #[Value.int .u8 e] 5)) := fun u nn hnn => by
    subst hnn
    exact run_text_of (u.alloc (.cells #[Value.int .u8 e] 5)) u.heap.size 1 1 [e] rfl (fun j v hv => by rw [World.cell?_alloc_new]; simpa using hv)
  have l1 : (zeros m).length ≤ maxLen := by rw [hz]; unfold maxLen; omega
  have l2 : (zeros m ++ [UInt8.ofNat e.toNat]).length ≤ maxLen := by simp [hz]; unfold maxLen; omega
  rcases ok with ⟨b1, rfl, rfl, rfl⟩ | ⟨b1, b2, rfl, rfl, rfl⟩ | ⟨b1, b2, rfl, rfl, rfl⟩ | ⟨b1, rfl, rfl, rfl⟩
  all_goals
    have hG := Grew.refl w
    have K := Owns.nil w
    go_enter Try.func6, Try.ntmps6
    go_wp2_with (first | (go_at_call 7; refine (known_any _).mono ?_; rintro e w1 ⟨rfl, hb1⟩; (try clear KO); refine Grew.step (a := w) hb1 ?_ ?_; (focus ((repeat (with_reducible (first | exact hG | refine Grew.drew ?_ | refine Grew.alloc ?_ | refine Grew.setCell ?_ ?_))) <;> simp)); clear hG; intro hG; apply Owns.step hb1; (focus ((repeat (with_reducible (first | exact K | apply Owns.alloc | apply Owns.drew | apply Owns.set))) <;> simp)); clear K; intro K; have KO := K; (try simp [Owns, setIn] at KO)) | (go_at_call 14; refine (is_any _ _ _ (by assumption) (by assumption)).mono ?_; rintro e w1 ⟨rfl, hb1⟩; (try clear KO); refine Grew.step (a := w) hb1 ?_ ?_; (focus ((repeat (with_reducible (first | exact hG | refine Grew.drew ?_ | refine Grew.alloc ?_ | refine Grew.setCell ?_ ?_))) <;> simp)); clear hG; intro hG; apply Owns.step hb1; (focus ((repeat (with_reducible (first | exact K | apply Owns.alloc | apply Owns.drew | apply Owns.set))) <;> simp)); clear K; intro K; have KO := K; (try simp [Owns, setIn] at KO)) | (go_at_call 16; refine (has_any _ _ _ _ (by assumption) (by assumption) (by assumption)).mono ?_; rintro e w1 ⟨rfl, hb1⟩; (try clear KO); refine Grew.step (a := w) hb1 ?_ ?_; (focus ((repeat (with_reducible (first | exact hG | refine Grew.drew ?_ | refine Grew.alloc ?_ | refine Grew.setCell ?_ ?_))) <;> simp)); clear hG; intro hG; apply Owns.step hb1; (focus ((repeat (with_reducible (first | exact K | apply Owns.alloc | apply Owns.drew | apply Owns.set))) <;> simp)); clear K; intro K; have KO := K; (try simp [Owns, setIn] at KO)) | (go_at_call 12; refine (isKey_any _ _ (by assumption)).mono ?_; rintro e w1 ⟨rfl, rfl⟩))
    (go_ret; exact ⟨by first | rfl | exact ret_bool (by simp; omega), by (repeat (with_reducible (first | exact hG | refine Grew.drew ?_ | refine Grew.alloc ?_ | refine Grew.setCell ?_ ?_)))⟩)

theorem lt_snoc (l : Bs) (b : UInt8) : blt l (l ++ [b]) = true := by
  unfold blt
  induction l with
  | nil => rfl
  | cons x l ih => simp [Op.bytesLess, ih]
theorem spanLimits_any (n e : Int) (w : World) (hn : 0 ≤ n ∧ n ≤ 255) (he : 0 ≤ e ∧ e ≤ 255) :
    Calls Try.prog 6 #[.int .u8 n, .int .u8 e] w fun e w' => e = .returned (.bool true) ∧ Grew w w' := by
  obtain ⟨m, hm⟩ : ∃ m : Nat, n % 12 = m := ⟨(n % 12).toNat, by omega⟩
  have hm2 : m < 12 := by omega
  have hz : (zeros m).length = m := by simp [zeros]
  have hl := lt_snoc (zeros m) (UInt8.ofNat e.toNat)
  have k1 : isKeyB (zeros m) = (decide (1 ≤ m) && decide (m ≤ 8)) := by
    unfold isKeyB; rw [hz]
    cases m with
    | zero => rfl
    | succ m => simp [zeros, List.replicate_succ]
  have k2 : isB (zeros m) (zeros m ++ [UInt8.ofNat e.toNat]) = decide (m ≤ 7) := by
    unfold isB; rw [hl]
    simp [hz]; omega
  have k3 : hasB (zeros m) (zeros m ++ [UInt8.ofNat e.toNat]) (zeros m) = (decide (1 ≤ m) && decide (m ≤ 7)) := by
    unfold hasB; rw [k1, k2, hl, blt_irrefl]
    by_cases h : 1 ≤ m <;> by_cases h2 : m ≤ 7 <;> by_cases h3 : m ≤ 8 <;> simp [h, h2, h3] <;> omega
  have k4 : hasB (zeros m) (zeros m ++ [UInt8.ofNat e.toNat]) (zeros m ++ [UInt8.ofNat e.toNat]) = false := by
    unfold hasB; rw [blt_irrefl]; simp
  by_cases h1 : 1 ≤ m
  · by_cases h2 : m ≤ 7
    · exact spanLimits_at n e m true true true w hn he hm2 hm hz (by rw [k1]; simp; omega) (by rw [k2]; simp; omega) (by rw [k3]; simp; omega) k4 (.inr (.inl ⟨h1, h2, rfl, rfl, rfl⟩))
    · by_cases h3 : m ≤ 8
      · exact spanLimits_at n e m true false false w hn he hm2 hm hz (by rw [k1]; simp; omega) (by rw [k2]; simp; omega) (by rw [k3]; simp; omega) k4 (.inr (.inr (.inl ⟨by omega, h3, rfl, rfl, rfl⟩)))
      · exact spanLimits_at n e m false false false w hn he hm2 hm hz (by rw [k1]; simp; omega) (by rw [k2]; simp; omega) (by rw [k3]; simp; omega) k4 (.inr (.inr (.inr ⟨by omega, rfl, rfl, rfl⟩)))
  · exact spanLimits_at n e m false true false w hn he hm2 hm hz (by rw [k1]; simp; omega) (by rw [k2]; simp; omega) (by rw [k3]; simp; omega) k4 (.inl ⟨by omega, rfl, rfl, rfl⟩)
end Go.Proofs.Ytjjdblfnffcdlaa
