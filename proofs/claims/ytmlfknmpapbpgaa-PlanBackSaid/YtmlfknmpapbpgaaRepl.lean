/-
  slices.Replace of places: part of a list of one's own in the place of another; its walk. No conditions.
-/
import Derived.Test.YtmlfknmpapbpgaaAbsLaw
import Derived.Shelf.Spec.SlicesInsert
import Derived.Lib.AppendZerosOnto
import Derived.Lib.Overlaps
import Derived.Deep.RegionLaw
namespace Go.Proofs.Ytmlfknmpapbpgaa
open Go.RowKit
set_option linter.unusedSimpArgs false
set_option linter.unusedVariables false
open Go.Shelf Go.Lib
section
variable {P : Program} {w : World}
theorem run_copy_own (dT sT ty el : TypeId) (E : Nat) (hu : P.underlying dT = some (.slice el)) (hs : ∀ w, (sizeOf el).run P w = .ok E w) (g o : Nat) (t : TypeId) (fz : Nat × Nat) (cur : Array Value) (hg : w.heap[g]? = some (.cells cur t fz)) (hz : fz = (0, 0) ∨ cur.size ≤ fz.1)
    (dn dc sn sc : Nat) (a : Addr) (cs : List Value) (n : Nat) (hn : Nat.min sn dn = n) (hl : cs.length = n * E) (hcs : ∀ j u, cs[j]? = some u → w.cell? (a.add j) = some u) (h1 : ∀ u ∈ cs, u.oneCell' = true) (hf : o + cs.length ≤ cur.size) :
    (Builtin.copy_ #[dT, sT] ty #[.slice (some ⟨g, o, none⟩) dn dc, .slice (some a) sn sc]).run P w = .ok (goInt n) (w.setRow g (cur.toList.take o ++ cs ++ cur.toList.drop (o + cs.length)).toArray) := by
  have hfc := run_firstCells_some (P := P) w E n a sn sc cs hl hcs
  have hst := run_storeCells_fz (P := P) g o t fz cs 0 cur w hg hz (by simpa using hf) h1
  simp only [Nat.add_zero] at hst
  simp only [Builtin.copy_]
  simp [run_underlying hu, hs, Builtin.lenOf, hn, hfc, hst]
theorem run_clear_own (t e : TypeId) (z : Value) (E : Nat) (hu : P.underlying t = some (.slice e)) (hv : ∀ w, (zeroValue e).run P w = .ok z w) (hzs : z.cells.size = E) (hz1 : ∀ u ∈ z.cells.toList, u.oneCell' = true) (g o n c : Nat) (hn : 0 < n) (tt : TypeId) (fz : Nat × Nat) (cur : Array Value) (hg : w.heap[g]? = some (.cells cur tt fz)) (hz : fz = (0, 0) ∨ cur.size ≤ fz.1) (hf : o + n * E ≤ cur.size) :
    ∃ cs : List Value, cs.length = n * E ∧ ∀ ty, (Builtin.clear_ #[t] ty #[.slice (some ⟨g, o, none⟩) n c]).run P w = .ok (.tuple #[]) (w.setRow g (cur.toList.take o ++ cs ++ cur.toList.drop (o + cs.length)).toArray) := by
  have hzl : (Builtin.zeroCells z.cells n).toList.length = n * E := by simp [Builtin.zeroCells, hzs]
  refine ⟨(Builtin.zeroCells z.cells n).toList, hzl, fun ty => ?_⟩
  have h1 : ∀ u ∈ (Builtin.zeroCells z.cells n).toList, u.oneCell' = true := by
    intro u hu
    simp only [Builtin.zeroCells, Array.toList_map, Array.toList_range, List.mem_map, List.mem_range] at hu
    obtain ⟨j, hj, rfl⟩ := hu
    have hp : j % z.cells.size < z.cells.size := Nat.mod_lt _ (by rcases Nat.eq_zero_or_pos z.cells.size with h0 | h0; (rw [h0] at hj; simp at hj); exact h0)
    rw [getElem!_pos z.cells _ hp]
    exact hz1 _ (by simp)
  have hst := run_storeCells_fz (P := P) g o tt fz _ 0 cur w hg hz (by rw [hzl]; simpa using hf) h1
  simp only [Nat.add_zero] at hst
  obtain ⟨m, rfl⟩ : ∃ m, n = m + 1 := ⟨n - 1, by omega⟩
  simp [Builtin.clear_, run_underlying hu, hv, hst]
theorem cell_of_row {g : Nat} {cur : Array Value} {t : TypeId} {fz : Nat × Nat} (hg : w.heap[g]? = some (.cells cur t fz)) (o m : Nat) : ∀ (j : Nat) (u : Value), ((cur.toList.take m).drop o)[j]? = some u → w.cell? ((⟨g, o, none⟩ : Addr).add j) = some u := by
  intro j u hu
  rw [List.getElem?_drop, List.getElem?_take] at hu
  split at hu
  · rw [add_none]; simp only [World.cell?, hg]; simpa using hu
  · cases hu
end

theorem frozen_no {w : World} {g o : Nat} {cur : Array Value} {t : TypeId} (hg : w.heap[g]? = some (.cells cur t (0, 0))) : w.frozen? ⟨g, o, none⟩ = false := by simp [World.frozen?, hg]
theorem shape_of {w : World} {g : Nat} {cur : Array Value} {t : TypeId} {fz : Nat × Nat} (hg : w.heap[g]? = some (.cells cur t fz)) : w.shape? g = some (t, cur.size) := by simp [World.shape?, hg]
theorem grown_row {w W : World} {g : Nat} (ho : W.os = w.os) (ht : W.tape = w.tape) (hp : W.output = w.output) (hh : W.heap = w.heap) (a : Array Value) : w.grownBy (W.setRow g a) (some g) :=
  ⟨ho, ht, hp, by simp [World.setRow, hh], fun k _ hk => by rw [setRow_other W g k _ (fun e => hk (by simp [e])), hh]⟩
theorem row_two {α : Type} {c v a : List α} {i m n : Nat} (hv : v.length = m) (hi : i + m + a.length = n) (hc : n ≤ c.length) :
    let c1 := c.take (i + m) ++ a ++ c.drop (i + m + a.length)
    (c1.take i ++ v ++ c1.drop (i + v.length)).take n = c.take i ++ v ++ a := by
  intro c1
  have e1 : c1.take i = c.take i := by
    show (c.take (i + m) ++ a ++ c.drop (i + m + a.length)).take i = _
    rw [List.append_assoc, List.take_append_of_le_length (by simp; omega), List.take_take, Nat.min_eq_left (by omega)]
  have e2 : c1.drop (i + v.length) = a ++ c.drop (i + m + a.length) := by
    show (c.take (i + m) ++ a ++ c.drop (i + m + a.length)).drop (i + v.length) = _
    rw [List.append_assoc, hv, List.drop_append_of_le_length (by simp; omega), List.drop_of_length_le (by simp; omega), List.nil_append]
  rw [e1, e2, ← List.append_assoc, List.take_append_of_le_length (by simp; omega), List.take_of_length_le (by simp; omega)]

set_option maxHeartbeats 4000000 in
set_option maxRecDepth 100000 in
theorem repl_shift (w : World) (g n c i vb vc : Nat) (cur vcur : Array Value) (hg : w.heap[g]? = some (.cells cur 31 (0, 0))) (hcs : cur.size = c * 5) (hcm : c ≤ maxLen)
    (hv : w.heap[vb]? = some (.cells vcur 31 (0, 0))) (hvs : vcur.size = vc * 5) (hvb : vb ≠ g) (h1c : ∀ x ∈ cur.toList.take (n * 5), x.oneCell' = true) (h1v : ∀ x ∈ vcur.toList.take 10, x.oneCell' = true) (hm : 2 ≤ vc) (hi : i + 1 < n) (hroom : n + 1 ≤ c) :
    Calls Try.prog 17 #[.slice (some ⟨g, 0, none⟩) n c, .int .i64 i, .int .i64 (i + 1 : Nat), .slice (some ⟨vb, 0, none⟩) 2 vc] w fun e w' => e = .returned (.slice (some ⟨g, 0, none⟩) (n + 1) c) ∧ ∃ (cur' : Array Value), w'.heap[g]? = some (.cells cur' 31 (0, 0)) ∧ cur'.size = cur.size ∧ w.grownBy w' (some g) ∧ cur'.toList.take ((n + 1) * 5) = cur.toList.take (i * 5) ++ vcur.toList.take 10 ++ (cur.toList.take (n * 5)).drop ((i + 1) * 5) := by
  have hic : i ≤ c := by omega
  have hjc : i + 1 ≤ c := by omega
  have hicI : (i : Int) ≤ (c : Int) := by omega
  have hjcI : (i : Int) + 1 ≤ (c : Int) := by omega
  have hi0 : (0 : Int) ≤ (i : Int) := by omega
  have hi1 : (0 : Int) ≤ (i : Int) + 1 := by omega
  have hnI : (i : Int) + 1 ≤ (n : Int) := by omega
  have hw1 : IntKind.i64.wrap ((i : Int) + 2) = (i : Int) + 2 := by rw [IntKind.wrap_i64]; simp only [maxLen] at hcm; omega
  have hw2 : IntKind.i64.wrap ((i : Int) + 2 + ((n - (i + 1) : Nat) : Int)) = (n : Int) + 1 := by rw [IntKind.wrap_i64]; simp only [maxLen] at hcm; omega
  have hb1 : ¬ ((c : Int) < (n : Int) + 1) := by omega
  have hb2 : (0 : Int) ≤ (n : Int) + 1 := by omega
  have hb3 : ((n : Int) + 1).toNat = n + 1 := by omega
  have hb4 : (n : Int) + 1 ≤ (c : Int) := by omega
  have hb5 : (0 : Int) ≤ (i : Int) + 2 := by omega
  have hb6 : ((i : Int) + 2).toNat = i + 2 := by omega
  have hb7 : (i : Int) + 2 ≤ (n : Int) + 1 := by omega
  have hb8 : ¬ ((i : Int) + 2 ≤ (i : Int) + 1) := by omega
  have hb9 : ¬ (c = i + 2) := by omega
  have hb10 : ¬ (c = i + 1) := by omega
  have hb11 : ¬ (c = i) := by omega
  have hb12 : ((i : Int) + 1).toNat = i + 1 := by omega
  have hb13 : (i : Int) ≤ (n : Int) + 1 := by omega
  have hlen : cur.toList.length = c * 5 := by rw [Array.length_toList, hcs]
  have hvlen : vcur.toList.length = vc * 5 := by rw [Array.length_toList, hvs]
  have hov : ∀ q la ca, (callFunc 26 #[.slice (some ⟨g, (i + 2) * 5, none⟩) la ca, .slice (some ⟨vb, 0, none⟩) 2 vc]).run Try.prog (w.drewN q) = .ok (.value (.bool false)) (w.drewN q) := fun q la ca => by
    rw [run_callFunc_extern Try.func26 (by kernel_rfl) (by kernel_rfl) (by kernel_rfl) (e := Extern.SlicesOverlaps.overlaps #[24, 24] #[4]) (by kernel_rfl),
      Lib.run_overlaps_apart (w.drewN q) 24 4 31 Try.underlying24 5 Try.sizeOf31 ⟨g, (i + 2) * 5, none⟩ ⟨vb, 0, none⟩ la ca 2 vc (Ne.symm hvb) 31 31 cur.size vcur.size (shape_of hg) (shape_of hv) (by omega) (frozen_no hg) (frozen_no hg)]
    rfl
  obtain ⟨A, hA⟩ : ∃ A, A = (cur.toList.take (n * 5)).drop ((i + 1) * 5) := ⟨_, rfl⟩
  have hAl : A.length = (n - (i + 1)) * 5 := by rw [hA]; simp; omega
  obtain ⟨c1, hc1⟩ : ∃ c1, c1 = (cur.toList.take ((i + 2) * 5) ++ A ++ cur.toList.drop ((i + 2) * 5 + A.length)).toArray := ⟨_, rfl⟩
  have hc1s : c1.size = cur.size := by rw [hc1]; simp; omega
  obtain ⟨VV, hVV⟩ : ∃ VV, VV = (vcur.toList.take 10).drop 0 := ⟨_, rfl⟩
  have hVl : VV.length = 10 := by rw [hVV]; simp; omega
  obtain ⟨c2, hc2⟩ : ∃ c2, c2 = (c1.toList.take (i * 5) ++ VV ++ c1.toList.drop (i * 5 + VV.length)).toArray := ⟨_, rfl⟩
  have hcp1 : ∀ (W : World), W.heap = w.heap → ∀ ty dc sc, (Builtin.copy_ #[24, 24] ty #[.slice (some ⟨g, (i + 2) * 5, none⟩) (n - (i + 1)) dc, .slice (some ⟨g, (i + 1) * 5, none⟩) (n - (i + 1)) sc]).run Try.prog W = .ok (goInt ((n - (i + 1) : Nat) : Int)) (W.setRow g c1) := fun W hW ty dc sc => by
    have hgW : W.heap[g]? = some (.cells cur 31 (0, 0)) := by rw [hW]; exact hg
    rw [hc1]
    exact run_copy_own 24 24 ty 31 5 Try.underlying24 Try.sizeOf31 g ((i + 2) * 5) 31 (0, 0) cur hgW (.inl rfl) _ dc _ sc ⟨g, (i + 1) * 5, none⟩ A _ (Nat.min_self _) hAl (by rw [hA]; exact cell_of_row hgW _ _) (fun u hu => by rw [hA] at hu; exact h1c u (List.mem_of_mem_drop hu)) (by rw [hAl, hcs]; omega)
  have hcp2 : ∀ (W : World), W.heap = w.heap → ∀ ty dc, (Builtin.copy_ #[24, 24] ty #[.slice (some ⟨g, i * 5, none⟩) (n + 1 - i) dc, .slice (some ⟨vb, 0, none⟩) 2 vc]).run Try.prog (W.setRow g c1) = .ok (goInt 2) ((W.setRow g c1).setRow g c2) := fun W hW ty dc => by
    have hgW : W.heap[g]? = some (.cells cur 31 (0, 0)) := by rw [hW]; exact hg
    have hvW : (W.setRow g c1).heap[vb]? = some (.cells vcur 31 (0, 0)) := by rw [setRow_other W g vb _ hvb, hW]; exact hv
    rw [hc2]
    exact run_copy_own 24 24 ty 31 5 Try.underlying24 Try.sizeOf31 g (i * 5) 31 (0, 0) c1 (setRow_heap W g cur _ _ _ hgW) (.inl rfl) _ dc _ vc ⟨vb, 0, none⟩ VV 2 (Nat.min_eq_left (by omega)) hVl (by rw [hVV]; exact cell_of_row hvW _ _) (fun u hu => by rw [hVV] at hu; exact h1v u (List.mem_of_mem_drop hu)) (by rw [hVl, hc1s, hcs]; omega)
  have hfin : c2.size = cur.size ∧ c2.toList.take ((n + 1) * 5) = cur.toList.take (i * 5) ++ vcur.toList.take 10 ++ (cur.toList.take (n * 5)).drop ((i + 1) * 5) := by
    refine ⟨by rw [hc2]; simp; omega, ?_⟩
    have e := row_two (c := cur.toList) (v := VV) (a := A) (i := i * 5) (m := 10) (n := (n + 1) * 5) hVl (by omega) (by omega)
    rw [hc2, hc1, List.toList_toArray, List.toList_toArray, show (i + 2) * 5 = i * 5 + 10 by omega, e, hVV, hA, List.drop_zero]
  have HF : Hid _ := hfin
  clear hfin hc2 hc1 hA hVV hc1s hAl hVl hlen hvlen hcs hvs h1c h1v
  go_enter Try.func17, Try.ntmps17
  go_wp2_with fail
  go_quiet (fail)
  go_wp2_with fail
  have hk1 := hcp1 (w.drewN nq).drew rfl
  go_region_law (refine step_copy_runI rfl _ _ 24 24 rfl _ _ (by simp [Act.eval, Act.put]) (by simp [Act.eval, Act.put]) (hk1 _ (c - (i + 2)) (c - (i + 1))) ?_)
  clear hk1
  go_wp2_with fail
  rw [hcp2 (w.drewN (nq + 1)) rfl]
  go_wp2_with fail
  all_goals go_ret
  all_goals refine ⟨by first | rfl | simp, c2, ?_, HF.1, ?_, HF.2⟩
  · exact setRow_heap _ g c1 _ _ _ (setRow_heap _ g cur _ _ _ hg)
  · exact ⟨rfl, rfl, rfl, by simp [World.setRow], fun k _ hk => by rw [setRow_other _ g k _ (fun e => hk (by simp [e])), setRow_other _ g k _ (fun e => hk (by simp [e]))]; rfl⟩

set_option maxHeartbeats 4000000 in
set_option maxRecDepth 100000 in
theorem repl_end2 (w : World) (g c i vb vc : Nat) (cur vcur : Array Value) (hg : w.heap[g]? = some (.cells cur 31 (0, 0))) (hcs : cur.size = c * 5) (hcm : c ≤ maxLen)
    (hv : w.heap[vb]? = some (.cells vcur 31 (0, 0))) (hvs : vcur.size = vc * 5) (hvb : vb ≠ g) (h1c : ∀ x ∈ cur.toList.take ((i + 1) * 5), x.oneCell' = true) (h1v : ∀ x ∈ vcur.toList.take 10, x.oneCell' = true) (hm : 2 ≤ vc) (hn : i + 1 ≤ c) (hbig : (i + 2) * 1024 ≤ 140737488355328) :
    Calls Try.prog 17 #[.slice (some ⟨g, 0, none⟩) (i + 1) c, .int .i64 i, .int .i64 (i + 1 : Nat), .slice (some ⟨vb, 0, none⟩) 2 vc] w fun e w' => ∃ v', e = .returned v' ∧ Owns w' 31 5 v' (i + 2) (cur.toList.take (i * 5) ++ vcur.toList.take 10) ∧ w.grownBy w' (some g) ∧ ∀ g', roomOf v' = some g' → some g = some g' ∨ (w.heap.size ≤ g' ∧ g' < w'.heap.size) := by
  have hic : i ≤ c := by omega
  have hi0 : (0 : Int) ≤ (i : Int) := by omega
  have hicI : (i : Int) ≤ (c : Int) := by omega
  have hi1 : (0 : Int) ≤ (i : Int) + 1 := by omega
  have hjcI : (i : Int) + 1 ≤ (c : Int) := by omega
  have hsz5 : (Try.prog.info? 31).map (fun i => i.size) = some 5 := by kernel_rfl
  obtain ⟨E, hpos, i0, z0, hi0, hsE, hby, hz0, hzc⟩ := (rows_of 24 rfl : ∃ E, RowInfo Try.prog 31 E)
  have hs0 : i0.size = 5 := by rw [hi0] at hsz5; simpa using hsz5
  obtain rfl : E = 5 := by omega
  clear hsz5 hsE
  obtain ⟨C, rfl⟩ : ∃ C, c = C + 1 := ⟨c - 1, by omega⟩
  have hown : Owns w 31 i0.size (.slice (some ⟨g, 0, none⟩) i (C + 1)) i (cur.toList.take (i * 5)) := by
    rw [hs0]
    exact ⟨by simp; omega, .inr (.inr ⟨g, C, cur, (0, 0), rfl, hg, by omega, hcm, hcs, rfl, .inl rfl⟩)⟩
  obtain ⟨v', w1, hrun, ho, hgr, hroom⟩ := run_append_own (P := Try.prog) 24 24 31 i0 z0 Try.underlying24 hi0 hz0 (by rw [hzc, hs0]) (by rw [hs0]; omega) _ i _ hown (some ⟨vb, 0, none⟩) 2 vc ((vcur.toList.take 10).drop 0) (by rw [hs0]; simp; omega) (fun _ => ⟨_, rfl, cell_of_row hv 0 10⟩) (fun u hu => h1v u (List.mem_of_mem_drop hu)) (by simp only [maxLen] at *; omega) (by have := Nat.mul_le_mul_left (i + 2) hby; omega)
  rw [hs0, List.drop_zero] at ho
  have ho2 := ho
  rcases ho.2 with ⟨_, h0⟩ | ⟨_, _, h0⟩ | ⟨g', cap', cur', fz', rfl, _⟩
  · omega
  · omega
  have HO : Hid _ := And.intro ho2 (And.intro hgr hroom)
  have hne : ¬ ((i : Int) + 2 < (i : Int) + 1) := by omega
  clear ho ho2 hgr hroom hown hbig hcs hvs hv hg h1c h1v hi0 hz0 hs0 hby hzc hpos
  go_enter Try.func17, Try.ntmps17
  go_wp2_with (at_builtin; refine Lib.wpList_append_run _ rfl _ _ _ _ rfl _ _ rfl rfl _ _ hrun ?_)
  all_goals go_ret
  all_goals exact ⟨_, rfl, HO.1, HO.2.1, fun g' hg' => (HO.2.2 g' hg').imp (fun h => by simpa [roomOf] using h) id⟩
end Go.Proofs.Ytmlfknmpapbpgaa
