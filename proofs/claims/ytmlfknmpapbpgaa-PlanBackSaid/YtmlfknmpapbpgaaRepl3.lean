/-
  slices.Replace of places: one in the place of two. No conditions.
-/
import Derived.Test.YtmlfknmpapbpgaaRepl2
namespace Go.Proofs.Ytmlfknmpapbpgaa
open Go.RowKit
set_option linter.unusedSimpArgs false
set_option linter.unusedVariables false
open Go.Shelf Go.Lib

theorem cells_zero {w : World} {g : Nat} {a cur : Array Value} {t : TypeId} {fz : Nat × Nat} (hg : w.heap[g]? = some (.cells cur t fz)) : (w.setRow g a).heap[g]? = some (.cells a t fz) := setRow_heap w g cur a t fz hg

set_option maxHeartbeats 4000000 in
set_option maxRecDepth 100000 in
theorem repl_end1 (w : World) (g c i vb vc : Nat) (cur vcur : Array Value) (hg : w.heap[g]? = some (.cells cur 31 (0, 0))) (hcs : cur.size = c * 5) (hcm : c ≤ maxLen)
    (hv : w.heap[vb]? = some (.cells vcur 31 (0, 0))) (hvs : vcur.size = vc * 5) (hvb : vb ≠ g) (h1c : ∀ x ∈ cur.toList.take ((i + 2) * 5), x.oneCell' = true) (h1v : ∀ x ∈ vcur.toList.take 5, x.oneCell' = true) (hm : 1 ≤ vc) (hn : i + 2 ≤ c) :
    Calls Try.prog 17 #[.slice (some ⟨g, 0, none⟩) (i + 2) c, .int .i64 i, .int .i64 (i + 2 : Nat), .slice (some ⟨vb, 0, none⟩) 1 vc] w fun e w' => ∃ v', e = .returned v' ∧ Owns w' 31 5 v' (i + 1) (cur.toList.take (i * 5) ++ vcur.toList.take 5) ∧ w.grownBy w' (some g) ∧ ∀ g', roomOf v' = some g' → some g = some g' ∨ (w.heap.size ≤ g' ∧ g' < w'.heap.size) := by
  have hic : i ≤ c := by omega
  have hi0 : (0 : Int) ≤ (i : Int) := by omega
  have hicI : (i : Int) ≤ (c : Int) := by omega
  have hi1 : (0 : Int) ≤ (i : Int) + 2 := by omega
  have hjcI : (i : Int) + 2 ≤ (c : Int) := by omega
  have hlt : (i : Int) + 1 < (i : Int) + 2 := by omega
  have hne0 : ¬ ((i : Int) = (i : Int) + 2) := by omega
  have hk1 : ¬ (c = i + 1) := by omega
  have hk2 : ((i : Int) + 1).toNat = i + 1 := by omega
  have hk3 : (0 : Int) ≤ (i : Int) + 1 := by omega
  have hk4 : (i : Int) + 1 ≤ (i : Int) + 2 := by omega
  have hk5 : i + 2 - (i + 1) = 1 := by omega
  have hsz5 : (Try.prog.info? 31).map (fun i => i.size) = some 5 := by kernel_rfl
  obtain ⟨E, hpos, i0, z0, hi0, hsE, hby, hz0, hzc⟩ := (rows_of 24 rfl : ∃ E, RowInfo Try.prog 31 E)
  have hs0 : i0.size = 5 := by rw [hi0] at hsz5; simpa using hsz5
  obtain rfl : E = 5 := by omega
  clear hsz5 hsE
  obtain ⟨VV, hVV⟩ : ∃ VV, VV = (vcur.toList.take 5).drop 0 := ⟨_, rfl⟩
  have hlen : cur.toList.length = c * 5 := by rw [Array.length_toList, hcs]
  have hvlen : vcur.toList.length = vc * 5 := by rw [Array.length_toList, hvs]
  have hVl : VV.length = 5 := by rw [hVV]; simp; omega
  obtain ⟨c1, hc1⟩ : ∃ c1, c1 = (cur.toList.take (i * 5) ++ VV ++ cur.toList.drop (i * 5 + VV.length)).toArray := ⟨_, rfl⟩
  have hc1s : c1.size = cur.size := by rw [hc1]; simp; omega
  have hrun : ∀ ty, (Builtin.append_ #[24, 24] ty #[.slice (some ⟨g, 0, none⟩) i c, .slice (some ⟨vb, 0, none⟩) 1 vc]).run Try.prog w = .ok (.slice (some ⟨g, 0, none⟩) (i + 1) c) (w.setRow g c1) := fun ty => by
    have := run_append_room (P := Try.prog) w 24 ty 31 i0 Try.underlying24 hi0 g i c cur hg ⟨vb, 0, none⟩ 1 vc VV (by rw [hs0, hVl]) (by rw [hVV]; exact cell_of_row hv 0 5) (fun u hu => by rw [hVV] at hu; exact h1v u (List.mem_of_mem_drop hu)) (by omega) (by rw [hs0, hVl]; omega)
    rw [this, hc1, hs0]
  obtain ⟨cs, hcsl, hcl⟩ := run_clear_own (w := w.setRow g c1) (P := Try.prog) 24 31 _ 5 Try.underlying24 Try.zeroValue31 rfl (by intro u hu; revert u; decide) g ((i + 1) * 5) 1 (c - (i + 1)) (by omega) 31 (0, 0) c1 (setRow_heap w g cur _ _ _ hg) (.inl rfl) (by rw [hc1s]; omega)
  obtain ⟨c2, hc2⟩ : ∃ c2, c2 = (c1.toList.take ((i + 1) * 5) ++ cs ++ c1.toList.drop ((i + 1) * 5 + cs.length)).toArray := ⟨_, rfl⟩
  rw [← hc2] at hcl
  have hc2s : c2.size = cur.size := by rw [hc2]; simp; omega
  have hfin : c2.toList.take ((i + 1) * 5) = cur.toList.take (i * 5) ++ vcur.toList.take 5 := by
    have e1 : c1.toList.take ((i + 1) * 5) = cur.toList.take (i * 5) ++ VV := by
      rw [hc1, List.toList_toArray, List.take_append_of_le_length (by simp; omega), List.take_of_length_le (by simp; omega)]
    rw [hc2, List.toList_toArray, List.append_assoc, List.take_append_of_le_length (by rw [e1]; simp; omega), e1, List.take_of_length_le (by simp; omega), hVV, List.drop_zero]
  have HF : Hid _ := And.intro hfin (And.intro hc2s (And.intro hcs (And.intro hg (And.intro hn hcm))))
  clear hfin hc2s hcs hg hcm hc2 hc1 hc1s hVV hVl hlen hvlen hvs hv h1c h1v hi0 hz0 hs0 hby hzc hpos hcsl
  go_enter Try.func17, Try.ntmps17
  go_wp2_with (at_builtin; refine Lib.wpList_append_run _ rfl _ _ _ _ rfl _ _ rfl rfl _ _ (hrun _) ?_)
  all_goals go_ret
  obtain ⟨hfin, hc2s, hcs, hg, hn, hcm⟩ := HF
  obtain ⟨C, rfl⟩ : ∃ C, c = C + 1 := ⟨c - 1, by omega⟩
  have hgl : g < w.heap.size := (Array.getElem?_eq_some_iff.1 hg).1
  have hsz : c2.toList.length = (C + 1) * 5 := by rw [Array.length_toList, hc2s, hcs]
  refine ⟨_, rfl, ⟨by rw [← hfin, List.length_take, hsz]; omega, .inr (.inr ⟨g, C, c2, (0, 0), rfl, setRow_heap _ g c1 _ _ _ (setRow_heap w g cur _ _ _ hg), by omega, hcm, by rw [← Array.length_toList, hsz], hfin, .inl rfl⟩)⟩, ⟨rfl, rfl, rfl, by simp [World.setRow], fun k _ hk => ?_⟩, fun g' hg' => .inl (by simpa [roomOf] using hg')⟩
  rw [setRow_other _ g k _ (fun e => hk (by simp [e])), setRow_other _ g k _ (fun e => hk (by simp [e]))]

theorem row_mid {α : Type} {c v a z : List α} {i m n N : Nat} (hv : v.length = m) (hi : i + m + a.length = n) (hc : N ≤ c.length) (hz : n + z.length = N) (c1 c2 : List α) (h1 : c1 = c.take i ++ v ++ c.drop (i + v.length)) (h2 : c2 = c1.take (i + m) ++ a ++ c1.drop (i + m + a.length)) :
    (c2.take n ++ z ++ c2.drop (n + z.length)).take n = c.take i ++ v ++ a := by
  have e1 : c1.take (i + m) = c.take i ++ v := by
    rw [h1, List.take_append_of_le_length (by simp; omega), List.take_of_length_le (by simp; omega)]
  have e2 : c2.take n = c.take i ++ v ++ a := by
    rw [h2, e1, List.take_append_of_le_length (by simp; omega), List.take_of_length_le (by simp; omega)]
  have l2 : n ≤ c2.length := by rw [h2, h1]; simp; omega
  rw [List.append_assoc, List.take_append_of_le_length (by simp; omega), List.take_take, Nat.min_self, e2]
theorem drop_after {α : Type} {c v : List α} {i m o n : Nat} (hv : v.length = m) (ho : i + m ≤ o) (hc : i + m ≤ c.length) : ((c.take i ++ v ++ c.drop (i + v.length)).take n).drop o = (c.take n).drop o := by
  rw [List.drop_take, List.drop_take]
  congr 1
  rw [List.drop_append, List.drop_of_length_le (by simp; omega), List.nil_append, List.drop_drop]
  congr 1
  simp
  omega

set_option maxHeartbeats 4000000 in
set_option maxRecDepth 100000 in
theorem repl_mid1 (w : World) (g n c i vb vc : Nat) (cur vcur : Array Value) (hg : w.heap[g]? = some (.cells cur 31 (0, 0))) (hcs : cur.size = c * 5) (hcm : c ≤ maxLen)
    (hv : w.heap[vb]? = some (.cells vcur 31 (0, 0))) (hvs : vcur.size = vc * 5) (hvb : vb ≠ g) (h1c : ∀ x ∈ cur.toList.take (n * 5), x.oneCell' = true) (h1v : ∀ x ∈ vcur.toList.take 5, x.oneCell' = true) (hm : 1 ≤ vc) (hi : i + 2 < n) (hnc : n ≤ c) :
    Calls Try.prog 17 #[.slice (some ⟨g, 0, none⟩) n c, .int .i64 i, .int .i64 (i + 2 : Nat), .slice (some ⟨vb, 0, none⟩) 1 vc] w fun e w' => ∃ v', e = .returned v' ∧ Owns w' 31 5 v' (n - 1) (cur.toList.take (i * 5) ++ vcur.toList.take 5 ++ (cur.toList.take (n * 5)).drop ((i + 2) * 5)) ∧ w.grownBy w' (some g) ∧ ∀ g', roomOf v' = some g' → some g = some g' ∨ (w.heap.size ≤ g' ∧ g' < w'.heap.size) := by
  have hic : i ≤ c := by omega
  have hi0 : (0 : Int) ≤ (i : Int) := by omega
  have hicI : (i : Int) ≤ (c : Int) := by omega
  have hjc : i + 2 ≤ c := by omega
  have hjcI : (i : Int) + 2 ≤ (c : Int) := by omega
  have hi1 : (0 : Int) ≤ (i : Int) + 2 := by omega
  have hnI : (i : Int) + 2 ≤ (n : Int) := by omega
  have hne0 : ¬ ((i : Int) = (i : Int) + 2) := by omega
  have hne1 : ¬ ((i : Int) + 2 = (n : Int)) := by omega
  have hw1 : IntKind.i64.wrap ((i : Int) + 1) = (i : Int) + 1 := by rw [IntKind.wrap_i64]; simp only [maxLen] at hcm; omega
  have hw2 : IntKind.i64.wrap ((i : Int) + 1 + ((n - (i + 2) : Nat) : Int)) = ((n - 1 : Nat) : Int) := by rw [IntKind.wrap_i64]; simp only [maxLen] at hcm; omega
  have hb1 : ¬ ((c : Int) < ((n - 1 : Nat) : Int)) := by omega
  have hb2 : ((n - 1 : Nat) : Int) ≤ (c : Int) := by omega
  have hb4 : n - 1 ≤ c := by omega
  have hb5 : (0 : Int) ≤ (i : Int) + 1 := by omega
  have hb6 : ((i : Int) + 1).toNat = i + 1 := by omega
  have hb6' : ((i : Int) + 2).toNat = i + 2 := by omega
  have hb7 : (i : Int) + 1 ≤ ((n - 1 : Nat) : Int) := by omega
  have hb8 : (i : Int) + 1 ≤ (i : Int) + 2 := by omega
  have hb9 : ¬ (c = i + 2) := by omega
  have hb10 : ¬ (c = i + 1) := by omega
  have hb11 : ¬ (c = i) := by omega
  have hb12 : ¬ (c = n - 1) := by omega
  have hb13 : (i : Int) ≤ ((n - 1 : Nat) : Int) := by omega
  have hb14 : n - 1 - (i + 1) = n - (i + 2) := by omega
  have hb15 : n - (n - 1) = 1 := by omega
  have hb16 : ((n - 1 : Nat) : Int) ≤ (n : Int) := by omega
  have hsz5 : (Try.prog.info? 31).map (fun i => i.size) = some 5 := by kernel_rfl
  obtain ⟨E, hpos, i0, z0, hi0, hsE, hby, hz0, hzc⟩ := (rows_of 24 rfl : ∃ E, RowInfo Try.prog 31 E)
  have hs0 : i0.size = 5 := by rw [hi0] at hsz5; simpa using hsz5
  obtain rfl : E = 5 := by omega
  clear hsz5 hsE
  obtain ⟨VV, hVV⟩ : ∃ VV, VV = (vcur.toList.take 5).drop 0 := ⟨_, rfl⟩
  have hlen : cur.toList.length = c * 5 := by rw [Array.length_toList, hcs]
  have hvlen : vcur.toList.length = vc * 5 := by rw [Array.length_toList, hvs]
  have hVl : VV.length = 5 := by rw [hVV]; simp; omega
  obtain ⟨A, hA⟩ : ∃ A, A = (cur.toList.take (n * 5)).drop ((i + 2) * 5) := ⟨_, rfl⟩
  have hAl : A.length = (n - (i + 2)) * 5 := by rw [hA]; simp; omega
  obtain ⟨c1, hc1⟩ : ∃ c1, c1 = (cur.toList.take (i * 5) ++ VV ++ cur.toList.drop (i * 5 + VV.length)).toArray := ⟨_, rfl⟩
  have hc1s : c1.size = cur.size := by rw [hc1]; simp; omega
  have hA1 : A = (c1.toList.take (n * 5)).drop ((i + 2) * 5) := by rw [hA, hc1, List.toList_toArray]; exact (drop_after hVl (by omega) (by omega)).symm
  obtain ⟨c2, hc2⟩ : ∃ c2, c2 = (c1.toList.take ((i + 1) * 5) ++ A ++ c1.toList.drop ((i + 1) * 5 + A.length)).toArray := ⟨_, rfl⟩
  have hc2s : c2.size = cur.size := by rw [hc2]; simp; omega
  have hcp1 : ∀ q ty dc, (Builtin.copy_ #[24, 24] ty #[.slice (some ⟨g, i * 5, none⟩) (n - 1 - i) dc, .slice (some ⟨vb, 0, none⟩) 1 vc]).run Try.prog (w.drewN q) = .ok (goInt 1) ((w.drewN q).setRow g c1) := fun q ty dc => by
    rw [hc1]
    exact run_copy_own (w := w.drewN q) 24 24 ty 31 5 Try.underlying24 Try.sizeOf31 g (i * 5) 31 (0, 0) cur hg (.inl rfl) _ dc _ vc ⟨vb, 0, none⟩ VV 1 (Nat.min_eq_left (by omega)) hVl (by rw [hVV]; exact cell_of_row (w := w.drewN q) hv 0 5) (fun u hu => by rw [hVV] at hu; exact h1v u (List.mem_of_mem_drop hu)) (by rw [hVl]; omega)
  have hcp2 : ∀ (W : World), W.heap = (w.setRow g c1).heap → ∀ ty dc sc, (Builtin.copy_ #[24, 24] ty #[.slice (some ⟨g, (i + 1) * 5, none⟩) (n - (i + 2)) dc, .slice (some ⟨g, (i + 2) * 5, none⟩) (n - (i + 2)) sc]).run Try.prog W = .ok (goInt ((n - (i + 2) : Nat) : Int)) (W.setRow g c2) := fun W hW ty dc sc => by
    have hgW : W.heap[g]? = some (.cells c1 31 (0, 0)) := by rw [hW]; exact setRow_heap _ g cur _ _ _ hg
    rw [hc2]
    exact run_copy_own 24 24 ty 31 5 Try.underlying24 Try.sizeOf31 g ((i + 1) * 5) 31 (0, 0) c1 hgW (.inl rfl) _ dc _ sc ⟨g, (i + 2) * 5, none⟩ A _ (Nat.min_self _) hAl (by rw [hA1]; exact cell_of_row hgW _ _) (fun u hu => by rw [hA] at hu; exact h1c u (List.mem_of_mem_drop hu)) (by rw [hAl, hc1s, hcs]; omega)
  have hcl : ∀ (W : World), W.heap = ((w.setRow g c1).setRow g c2).heap → ∃ c3 : Array Value, c3.size = cur.size ∧ c3.toList.take ((n - 1) * 5) = cur.toList.take (i * 5) ++ vcur.toList.take 5 ++ (cur.toList.take (n * 5)).drop ((i + 2) * 5) ∧ ∀ ty, (Builtin.clear_ #[24] ty #[.slice (some ⟨g, (n - 1) * 5, none⟩) 1 (c - (n - 1))]).run Try.prog W = .ok (.tuple #[]) (W.setRow g c3) := fun W hW => by
    obtain ⟨cs, hcsl, hcl⟩ := run_clear_own (w := W) (P := Try.prog) 24 31 _ 5 Try.underlying24 Try.zeroValue31 rfl (by intro u hu; revert u; decide) g ((n - 1) * 5) 1 (c - (n - 1)) (by omega) 31 (0, 0) c2 (by rw [hW]; exact setRow_heap _ g c1 _ _ _ (setRow_heap w g cur _ _ _ hg)) (.inl rfl) (by rw [hc2s]; omega)
    refine ⟨_, ?_, ?_, hcl⟩
    · simp; omega
    · rw [List.toList_toArray]
      have e := row_mid (c := cur.toList) (v := VV) (a := A) (z := cs) (i := i * 5) (m := 5) (n := (n - 1) * 5) (N := n * 5) hVl (by omega) (by omega) (by omega) c1.toList c2.toList (by rw [hc1]) (by rw [hc2, show i * 5 + 5 = (i + 1) * 5 by omega])
      rw [e, hVV, hA, List.drop_zero]
  have HCL : Hid _ := hcl
  have HF : Hid _ := And.intro hcs (And.intro hg (And.intro hi (And.intro hnc hcm)))
  clear hcl hcs hg hcm hc2 hc1 hc1s hc2s hVV hVl hA hAl hA1 hlen hvlen hvs hv h1c h1v hi0 hz0 hs0 hby hzc hpos
  go_enter Try.func17, Try.ntmps17
  go_wp2_with fail
  go_quiet (fail)
  go_wp2_with fail
  have hk2 := hcp2 ((w.drewN nq).setRow g c1).drew rfl
  go_region_law (refine step_copy_runI rfl _ _ 24 24 rfl _ _ (by simp [Act.eval, Act.put]) (by simp [Act.eval, Act.put]) (hk2 _ (c - (i + 1)) (c - (i + 2))) ?_)
  clear hk2
  obtain ⟨c3, hc3s, hfin, hcl⟩ := HCL (((w.drewN nq).setRow g c1).drew.setRow g c2) rfl
  have HE : Hid _ := And.intro hc3s hfin
  clear hc3s hfin
  go_wp2_with fail
  all_goals go_ret
  obtain ⟨hcs, hg, hi, hnc, hcm⟩ := HF
  obtain ⟨hc3s, hfin⟩ := HE
  obtain ⟨C, rfl⟩ : ∃ C, c = C + 1 := ⟨c - 1, by omega⟩
  have hgl : g < w.heap.size := (Array.getElem?_eq_some_iff.1 hg).1
  have hsz : c3.toList.length = (C + 1) * 5 := by rw [Array.length_toList, hc3s, hcs]
  refine ⟨_, rfl, ⟨by rw [← hfin, List.length_take, hsz]; omega, .inr (.inr ⟨g, C, c3, (0, 0), rfl, setRow_heap _ g c2 _ _ _ (setRow_heap _ g c1 _ _ _ (setRow_heap (w.drewN nq) g cur _ _ _ hg)), by omega, hcm, by rw [← Array.length_toList, hsz], hfin, .inl rfl⟩)⟩, ⟨rfl, rfl, rfl, by simp [World.setRow], fun k _ hk => ?_⟩, fun g' hg' => .inl (by simpa [roomOf] using hg')⟩
  rw [setRow_other _ g k _ (fun e => hk (by simp [e])), setRow_other _ g k _ (fun e => hk (by simp [e]))]
  show ((w.drewN nq).setRow g c1).heap[k]? = _
  rw [setRow_other _ g k _ (fun e => hk (by simp [e]))]
  rfl
end Go.Proofs.Ytmlfknmpapbpgaa
