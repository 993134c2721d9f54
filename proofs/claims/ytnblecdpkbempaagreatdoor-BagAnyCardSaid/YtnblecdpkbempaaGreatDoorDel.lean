/-
  slices.Delete of texts: a list of one's own without one; by the proved contract of the library. No conditions.
-/
import Derived.Test.YtnblecdpkbempaaGreatDoorFrame
import Derived.Shelf.Slices.Delete
import Derived.Sort.OwnSorted
namespace Go.Proofs.YtnblecdpkbempaaGreatDoor
open Go.RowKit
set_option linter.unusedSimpArgs false
set_option linter.unusedVariables false
open Go.Shelf Go.Sort

def renD : Ren := ⟨fun x => match x with | 24 => 71 | _ => 0, fun x => match x with | 0 => 0 | 3 => 3 | 4 => 4 | 9 => 9 | 24 => 37 | _ => 0, fun _ => 0⟩
set_option maxRecDepth 100000 in
theorem laysD : Lays2.n24 Tryz.prog renD where
  mixed := by kernel_rfl
  f24 := by kernel_rfl
  t0 := by kernel_rfl
  a0 := fun w => by kernel_rfl
  z0 := fun w => by kernel_rfl
  v0 := fun w => by kernel_rfl
  t3 := by kernel_rfl
  a3 := fun w => by kernel_rfl
  z3 := fun w => by kernel_rfl
  v3 := fun w => by kernel_rfl
  t4 := by kernel_rfl
  a4 := fun w => by kernel_rfl
  z4 := fun w => by kernel_rfl
  v4 := fun w => by kernel_rfl
  t9 := by kernel_rfl
  a9 := fun w => by kernel_rfl
  z9 := fun w => by kernel_rfl
  v9 := fun w => by kernel_rfl
  t24 := by kernel_rfl
  a24 := fun w => by kernel_rfl
  z24 := fun w => by kernel_rfl
  v24 := fun w => by kernel_rfl
  i9 := by kernel_rfl

theorem holds_own {w : World} {g : Nat} {cur : Array Value} {e : TypeId} {fz : Nat × Nat} {l : List Bs} (hb : w.heap[g]? = some (.cells cur e fz)) (ht : cur.toList.take l.length = l.map encStr) (hf : fz = (0, 0) ∨ cur.size ≤ fz.1) (hl : l.length ≤ cur.size) : Holds encStr w g 0 l.toArray := by
  intro j hj
  have hj' : j < l.length := by simpa using hj
  refine ⟨?_, ?_⟩
  · have h1 : (cur.toList.take l.length)[j]? = (l.map encStr)[j]? := by rw [ht]
    rw [List.getElem?_take_of_lt hj'] at h1
    simp only [World.cell?, hb, Nat.zero_add]
    simp only [Option.isSome_none, Bool.false_eq_true, if_false]
    rw [← Array.getElem?_toList, h1]
    simp [hj']
  · rcases hf with rfl | hf
    · simp [World.frozen?, hb]
    · simp [World.frozen?, hb]; omega
theorem flat_texts {w : World} {R : Nat → Prop} {l : List Bs} {fl : List Value} (hl : fl.length = l.length * 1) (h : ∀ (i : Nat) (row : List V), (l.map encT)[i]? = some row → Reps w R rho0 row ((fl.drop (i * 1)).take 1)) : fl = l.map encStr := by
  apply List.ext_getElem?
  intro i
  by_cases hi : i < l.length
  · have h1 := h i [.str l[i]] (by simp [hi])
    obtain ⟨x, hx, hr⟩ := Reps.get (i := 0) h1 rfl
    rw [Nat.mul_one, List.getElem?_take_of_lt (by omega), List.getElem?_drop, Nat.add_zero] at hx
    rw [hx, hr.of_str]
    simp [hi, encStr, S]
  · rw [List.getElem?_eq_none (by omega), List.getElem?_eq_none (by simp; omega)]
set_option maxRecDepth 100000 in
/-- what is behind place i moves down -/
theorem del_fn (l : List Bs) (i : Nat) (hi : i < l.length) : FnM Tryz.prog 71 [.own 0, .int .i64 (i : Int), .int .i64 ((i : Int) + 1)] [.rows 9 (l.map encT)] (.own 1) [.dead, .rows 9 ((l.take i ++ l.drop (i + 1)).map encT)] := ⟨fun cx w R ρ xs hs ht hr => by
  have hl : xs.length = 3 := hr.1.symm
  obtain ⟨x, r, rfl, h1, h2⟩ := hr.uncons
  obtain ⟨y, r, rfl, h3, h4⟩ := h2.uncons
  obtain ⟨z, r, rfl, h5, h6⟩ := h4.uncons
  obtain rfl : r = [] := List.eq_nil_of_length_eq_zero (by simpa using hl)
  obtain rfl := h3.of_int
  obtain rfl := h5.of_int
  cases h1 with
  | own hq hone =>
  have hb0 : hpL [Blk.rows 9 (l.map encT)] 0 = some (.rows 9 (l.map encT)) := rfl
  obtain ⟨E, fl, ho⟩ := hs.brep 0 _ _ hq hb0
  have hE : E = 1 := by have := ho.len [.str l[0]] (List.mem_map.2 ⟨l[0], List.getElem_mem .., rfl⟩); simpa using this.symm
  subst hE
  have hlm : (l.map encT).length = l.length := by simp
  have howns := ho.owns
  rw [hlm] at howns
  obtain ⟨hfl, hv⟩ := howns
  rcases hv with ⟨rfl, h0⟩ | ⟨a, rfl, h0⟩ | ⟨g, cap, cur, fz, rfl, hg, hnc, hcm, hcs, htk, hfz⟩
  · omega
  · omega
  have hflat : fl = l.map encStr := flat_texts hfl ho.rep
  rw [Nat.mul_one, hflat] at htk
  rw [Nat.mul_one] at hcs
  have hH := holds_own hg htk hfz (by omega)
  rw [run_enter Tryz.func71 rfl rfl]
  have hcall := Any.slices_Delete_string laysD g 0 (cap + 1) i (i + 1) l w hH hnc (by simp only [maxLen] at hcm; omega) (by omega) (by omega)
  refine (show Calls Tryz.prog _ _ _ _ from hcall).mono ?_
  rintro e w' ⟨rfl, q, rfl⟩
  have hnew : (l.take i ++ l.drop (i + 1) ++ List.replicate (i + 1 - i) ([] : Bs)).length = l.length := by simp; omega
  generalize hL : l.take i ++ l.drop (i + 1) ++ List.replicate (i + 1 - i) ([] : Bs) = L at hnew
  have hLt : L.take (l.length - 1) = l.take i ++ l.drop (i + 1) := by
    rw [← hL, List.take_append_of_le_length (by simp; omega), List.take_of_length_le (by simp; omega)]
  have hheap : ({ w with heap := w.heap } : World).heap[g]? = _ := hg
  have hgl : g < w.heap.size := (Array.getElem?_eq_some_iff.1 hg).1
  obtain ⟨W', hW'⟩ : ∃ W', W' = putRow encStr (Sort.ahead w q) g 0 L.toArray := ⟨_, rfl⟩
  rw [← hW']
  have hg' : W'.heap[g]? = some (.cells (putCells encStr 0 L.toArray cur) 9 fz) := by
    rw [hW']; simp [putRow, mapBlock, Sort.ahead, Array.getElem?_modify, hg, onCells]
  have hoth : ∀ j, j ≠ g → W'.heap[j]? = w.heap[j]? := fun j hj => by
    rw [hW']; simp [putRow, mapBlock, Sort.ahead, Array.getElem?_modify, Ne.symm hj]
  have hsz : w.heap.size = W'.heap.size := by rw [hW']; simp [putRow, mapBlock, Sort.ahead]
  obtain ⟨s1, e1⟩ := hs.write (w' := W') (b' := .dead) hq hb0 (by rintro (h | ⟨v, h⟩) <;> cases h) rfl (by rw [hW']; rfl) (by rw [hW']; rfl) (by rw [hW']; rfl) hsz hoth (fun _ => trivial)
  have hm := hs.mine 0 _ g ⟨_, hb0, by rintro (h | ⟨v, h⟩) <;> cases h⟩ hq rfl
  have hrows : BRep Tryz.prog W' R (ρ.set 1 (.hdr (.slice (some ⟨g, 0, none⟩) (l.length - (i + 1 - i)) (cap + 1)))) (.hdr (.slice (some ⟨g, 0, none⟩) (l.length - (i + 1 - i)) (cap + 1))) (.rows 9 ((l.take i ++ l.drop (i + 1)).map encT)) := by
    refine ⟨1, (l.take i ++ l.drop (i + 1)).map encStr, ⟨?_, ho.info, ?_, ?_, ?_⟩⟩
    · refine ⟨by simp, .inr (.inr ⟨g, cap, putCells encStr 0 L.toArray cur, fz, ?_, hg', by simp; omega, hcm, by simp [putCells, hcs], ?_, ?_⟩)⟩
      · congr 1; simp; omega
      · have := take_putCells cur L (by omega)
        rw [Nat.mul_one, show ((l.take i ++ l.drop (i + 1)).map encT).length = l.length - 1 by simp; omega, ← hLt, List.map_take, ← this, List.take_take, Nat.min_eq_left (by omega)]
      · rcases hfz with rfl | hfz
        · exact .inl rfl
        · exact .inr (by simp [putCells]; omega)
    · intro row hrow
      obtain ⟨a, _, rfl⟩ := List.mem_map.1 hrow; rfl
    · intro x hx
      obtain ⟨a, _, rfl⟩ := List.mem_map.1 hx; rfl
    · intro k row hk
      rw [List.getElem?_map] at hk
      cases hq2 : (l.take i ++ l.drop (i + 1))[k]? with
      | none => rw [hq2] at hk; cases hk
      | some a =>
        rw [hq2] at hk; cases hk
        have : (((l.take i ++ l.drop (i + 1)).map encStr).drop (k * 1)).take 1 = [encStr a] := by
          rw [Nat.mul_one, List.take_one, List.head?_drop, List.getElem?_map, hq2]; rfl
        rw [this]
        exact .cons (by have := @Rep.str W' R rho0 a; simpa [S, encStr] using this) .nil
  have ht1 : There ((hpL [Blk.rows 9 (l.map encT)]).set 0 (some .dead)) ρ := fun j o hj => Hp.mono_set _ 0 _ j (ht j o hj)
  have hdead : ∀ k', ¬ Live ((hpL [Blk.rows 9 (l.map encT)]).set 0 (some .dead)) k' := fun k' ⟨b, hb, hd⟩ => by
    by_cases h : k' = 0
    · subst h; rw [Hp.set_same] at hb; cases hb; exact hd (.inl rfl)
    · rw [Hp.set_other _ _ h, hpL_get] at hb
      cases k' with
      | zero => exact h rfl
      | succ n => simp at hb
  obtain ⟨s2, s3, e2⟩ := s1.add ht1 (k := 1) (by rw [Hp.set_other _ _ (by omega)]; rfl) hrows (fun k' o' n lv _ _ => absurd lv (hdead k')) (fun n hn => by cases hn; exact ⟨hm.1, by rw [← hsz]; exact hm.2.1, hm.2.2⟩)
  have hh : ((hpL [Blk.rows 9 (l.map encT)]).set 0 (some .dead)).set 1 (some (.rows 9 ((l.take i ++ l.drop (i + 1)).map encT))) = hpL [.dead, .rows 9 ((l.take i ++ l.drop (i + 1)).map encT)] := by
    funext k
    match k with
    | 0 => rfl
    | 1 => rfl
    | n + 2 => rw [Hp.set_other _ _ (by omega), Hp.set_other _ _ (by omega), hpL_get, hpL_get]; rfl
  rw [hh] at s2 s3
  exact ⟨_, rfl, R, _, s2, s3, e1.trans e2, .own (by simp [Rho.set]) rfl⟩⟩
end Go.Proofs.YtnblecdpkbempaaGreatDoor
