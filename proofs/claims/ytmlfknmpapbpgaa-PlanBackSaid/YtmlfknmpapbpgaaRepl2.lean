/-
  slices.Replace of places, where there is no room. No conditions.
-/
import Derived.Test.YtmlfknmpapbpgaaRepl
namespace Go.Proofs.Ytmlfknmpapbpgaa
open Go.RowKit
set_option linter.unusedSimpArgs false
set_option linter.unusedVariables false
open Go.Shelf Go.Lib

set_option maxHeartbeats 4000000 in
set_option maxRecDepth 100000 in
theorem repl_grow (w : World) (g n c i vb vc : Nat) (cur vcur : Array Value) (hg : w.heap[g]? = some (.cells cur 31 (0, 0))) (hcs : cur.size = c * 5) (hcm : c ≤ maxLen)
    (hv : w.heap[vb]? = some (.cells vcur 31 (0, 0))) (hvs : vcur.size = vc * 5) (hvb : vb ≠ g) (h1c : ∀ x ∈ cur.toList.take (n * 5), x.oneCell' = true) (h1v : ∀ x ∈ vcur.toList.take 10, x.oneCell' = true) (hm : 2 ≤ vc) (hi : i + 1 < n) (hnc : n ≤ c) (hroom : c < n + 1) (hbig : (n + 1) * 1024 ≤ 140737488355328) :
    Calls Try.prog 17 #[.slice (some ⟨g, 0, none⟩) n c, .int .i64 i, .int .i64 (i + 1 : Nat), .slice (some ⟨vb, 0, none⟩) 2 vc] w fun e w' => ∃ v', e = .returned v' ∧ Owns w' 31 5 v' (n + 1) (cur.toList.take (i * 5) ++ vcur.toList.take 10 ++ (cur.toList.take (n * 5)).drop ((i + 1) * 5)) ∧ w.grownBy w' (some g) ∧ ∀ g', roomOf v' = some g' → some g = some g' ∨ (w.heap.size ≤ g' ∧ g' < w'.heap.size) := by
  have hic : i ≤ c := by omega
  have hi0 : (0 : Int) ≤ (i : Int) := by omega
  have hicI : (i : Int) ≤ (c : Int) := by omega
  have hjc : i + 1 ≤ c := by omega
  have hjcI : (i : Int) + 1 ≤ (c : Int) := by omega
  have hi1 : (0 : Int) ≤ (i : Int) + 1 := by omega
  have hnI : (i : Int) + 1 ≤ (n : Int) := by omega
  have hw1 : IntKind.i64.wrap ((i : Int) + 2) = (i : Int) + 2 := by rw [IntKind.wrap_i64]; simp only [maxLen] at hcm; omega
  have hw2 : IntKind.i64.wrap ((i : Int) + 2 + ((n - (i + 1) : Nat) : Int)) = (n : Int) + 1 := by rw [IntKind.wrap_i64]; simp only [maxLen] at hcm; omega
  have hw3 : IntKind.i64.wrap ((n : Int) + 1 - (i : Int)) = ((n + 1 - i : Nat) : Int) := by rw [IntKind.wrap_i64]; simp only [maxLen] at hcm; omega
  have hb1 : (c : Int) < (n : Int) + 1 := by omega
  have hb5 : (0 : Int) ≤ (i : Int) + 2 := by omega
  have hb6 : ((i : Int) + 2).toNat = i + 2 := by omega
  have hb7 : (i : Int) + 2 ≤ (n : Int) + 1 := by omega
  have hb12 : ((i : Int) + 1).toNat = i + 1 := by omega
  have hb13 : (i : Int) ≤ (n : Int) + 1 := by omega
  have hsz5 : (Try.prog.info? 31).map (fun i => i.size) = some 5 := by kernel_rfl
  obtain ⟨E, hpos, i0, z0, hi0, hsE, hby, hz0, hzc⟩ := (rows_of 24 rfl : ∃ E, RowInfo Try.prog 31 E)
  have hs0 : i0.size = 5 := by rw [hi0] at hsz5; simpa using hsz5
  obtain rfl : E = 5 := by omega
  clear hsz5 hsE
  have hlen : cur.toList.length = c * 5 := by rw [Array.length_toList, hcs]
  have hvlen : vcur.toList.length = vc * 5 := by rw [Array.length_toList, hvs]
  have hgl : g < w.heap.size := (Array.getElem?_eq_some_iff.1 hg).1
  have hvl : vb < w.heap.size := (Array.getElem?_eq_some_iff.1 hv).1
  obtain ⟨A, hA⟩ : ∃ A, A = (cur.toList.take (n * 5)).drop ((i + 1) * 5) := ⟨_, rfl⟩
  have hAl : A.length = (n - (i + 1)) * 5 := by rw [hA]; simp; omega
  obtain ⟨VV, hVV⟩ : ∃ VV, VV = (vcur.toList.take 10).drop 0 := ⟨_, rfl⟩
  have hVl : VV.length = 10 := by rw [hVV]; simp; omega
  obtain ⟨O, hO⟩ : ∃ O, O = (cur.toList.take (i * 5)).drop 0 := ⟨_, rfl⟩
  have hOl : O.length = i * 5 := by rw [hO]; simp; omega
  have hap : ∀ q, ∃ (cap' : Nat) (r0 : Array Value), n + 1 ≤ cap' ∧ cap' ≤ maxLen ∧ r0.size = cap' * 5 ∧ r0.toList.take (i * 5) = O ∧ ∀ ty, (Builtin.append_ #[24, 3] ty #[.slice (some ⟨g, 0, none⟩) i c, .int .i64 ((n + 1 - i : Nat) : Int)]).run Try.prog (w.drewN q) = .ok (.slice (some ⟨w.heap.size, 0, none⟩) (n + 1) cap') ((w.drewN q).drew.alloc (.cells r0 31)) := fun q => by
    have hold : (Builtin.firstCells i0.size i (.slice (some ⟨g, 0, none⟩) i c)).run Try.prog (w.drewN q).drew = .ok O.toArray (w.drewN q).drew := by
      rw [hs0]
      exact run_firstCells_some (P := Try.prog) (w.drewN q).drew 5 i ⟨g, 0, none⟩ i c O hOl (by rw [hO]; exact cell_of_row (w := (w.drewN q).drew) hg 0 (i * 5))
    have hr := fun ty => run_append_grow_zeros (P := Try.prog) (w.drewN q) 24 3 ty 31 i0 z0 .i64 .i64 Try.underlying24 Try.underlying3 hi0 hz0 (some ⟨g, 0, none⟩) i c O hold (n + 1 - i) (by omega) (by rw [hs0]; omega) (by omega) (by simp only [maxLen] at *; omega) (by have := Nat.mul_le_mul_left (n + 1 - i) hby; omega) (growslice_fits (by omega) (by have := Nat.mul_le_mul_left (n + 1) hby; rw [show i + (n + 1 - i) = n + 1 by omega]; omega))
    rw [show i + (n + 1 - i) = n + 1 by omega] at hr
    refine ⟨_, _, grownCap_ge _ _ _ _, grownCap_le_maxLen _ _ _ _ (by simp only [maxLen] at *; omega), ?_, ?_, hr⟩
    · have := grownCap_ge (w.drewN q) (n + 1) c 31
      simp only [Array.size_append, size_zeroCells, hzc, List.size_toArray, hOl]
      omega
    · simp only [Array.toList_append, List.append_assoc]
      rw [List.take_append_of_le_length (by first | omega | (simp; omega)), List.take_of_length_le (by first | omega | (simp; omega))]
  obtain ⟨cap', hcapD⟩ : ∃ cap' : Nat → Nat, ∀ q, ∃ r0 : Array Value, n + 1 ≤ cap' q ∧ cap' q ≤ maxLen ∧ r0.size = cap' q * 5 ∧ r0.toList.take (i * 5) = O ∧ ∀ ty, (Builtin.append_ #[24, 3] ty #[.slice (some ⟨g, 0, none⟩) i c, .int .i64 ((n + 1 - i : Nat) : Int)]).run Try.prog (w.drewN q) = .ok (.slice (some ⟨w.heap.size, 0, none⟩) (n + 1) (cap' q)) ((w.drewN q).drew.alloc (.cells r0 31)) := ⟨fun q => (hap q).choose, fun q => (hap q).choose_spec⟩
  have HC : Hid _ := hcapD
  have HFacts : Hid _ := And.intro hA (And.intro hAl (And.intro hVV (And.intro hVl (And.intro hO (And.intro hOl (And.intro hcs (And.intro hvs (And.intro hv (And.intro hg (And.intro h1c (And.intro h1v (And.intro hgl hvl))))))))))))
  clear hcapD hap hbig hcs hvs hv hg h1c h1v hi0 hz0 hs0 hby hzc hpos hlen hvlen hA hAl hVV hVl hO hOl hgl hvl
  go_enter Try.func17, Try.ntmps17
  go_wp2_with fail
  go_quiet (fail)
  obtain ⟨r0, hc1, hc2, hr0, hrO, hrun⟩ := HC nq
  obtain ⟨hA, hAl, hVV, hVl, hO, hOl, hcs, hvs, hv, hg, h1c, h1v, hgl, hvl⟩ := HFacts
  obtain ⟨K, hK⟩ : ∃ K, K = cap' nq := ⟨_, rfl⟩
  rw [← hK] at hc1 hc2 hr0 hrun
  obtain ⟨gg, hgg⟩ : ∃ gg, gg = w.heap.size := ⟨_, rfl⟩
  rw [← hgg] at hrun
  obtain ⟨W1, hW1⟩ : ∃ W1, W1 = (w.drewN nq).drew.alloc (.cells r0 31) := ⟨_, rfl⟩
  rw [← hW1] at hrun
  have hW1g : W1.heap[gg]? = some (.cells r0 31 (0, 0)) := by rw [hW1, hgg]; exact heap_alloc_new (w.drewN nq).drew _
  have hW1o : ∀ k, k < w.heap.size → W1.heap[k]? = w.heap[k]? := fun k hk => by rw [hW1]; exact Below.heap_alloc (w.drewN nq).drew _ k hk
  have hW1s : W1.heap.size = w.heap.size + 1 := by rw [hW1]; simp [World.alloc]
  have hW1e : W1.os = w.os ∧ W1.tape = w.tape ∧ W1.output = w.output := by rw [hW1]; exact ⟨rfl, rfl, rfl⟩
  obtain ⟨r1, hr1⟩ : ∃ r1, r1 = (r0.toList.take (i * 5) ++ VV ++ r0.toList.drop (i * 5 + VV.length)).toArray := ⟨_, rfl⟩
  have hr1s : r1.size = r0.size := by rw [hr1]; simp; omega
  obtain ⟨r2, hr2⟩ : ∃ r2, r2 = (r1.toList.take ((i + 2) * 5) ++ A ++ r1.toList.drop ((i + 2) * 5 + A.length)).toArray := ⟨_, rfl⟩
  have hr2s : r2.size = r0.size := by rw [hr2]; simp; omega
  have hcp1 : ∀ ty dc, (Builtin.copy_ #[24, 24] ty #[.slice (some ⟨gg, i * 5, none⟩) (n + 1 - i) dc, .slice (some ⟨vb, 0, none⟩) 2 vc]).run Try.prog W1 = .ok (goInt 2) (W1.setRow gg r1) := fun ty dc => by
    rw [hr1]
    exact run_copy_own 24 24 ty 31 5 Try.underlying24 Try.sizeOf31 gg (i * 5) 31 (0, 0) r0 hW1g (.inl rfl) _ dc _ vc ⟨vb, 0, none⟩ VV 2 (Nat.min_eq_left (by omega)) hVl (by rw [hVV]; exact cell_of_row (by rw [hW1o vb hvl]; exact hv) 0 10) (fun u hu => by rw [hVV] at hu; exact h1v u (List.mem_of_mem_drop hu)) (by rw [hVl, hr0]; omega)
  have hcp2 : ∀ (W : World), W.heap = (W1.setRow gg r1).heap → ∀ ty dc sc, (Builtin.copy_ #[24, 24] ty #[.slice (some ⟨gg, (i + 2) * 5, none⟩) (n - (i + 1)) dc, .slice (some ⟨g, (i + 1) * 5, none⟩) (n - (i + 1)) sc]).run Try.prog W = .ok (goInt ((n - (i + 1) : Nat) : Int)) (W.setRow gg r2) := fun W hW ty dc sc => by
    have hgW : W.heap[gg]? = some (.cells r1 31 (0, 0)) := by rw [hW]; exact setRow_heap _ gg r0 _ _ _ hW1g
    have hsW : W.heap[g]? = some (.cells cur 31 (0, 0)) := by rw [hW, setRow_other _ gg g _ (by omega), hW1o g hgl]; exact hg
    rw [hr2]
    exact run_copy_own 24 24 ty 31 5 Try.underlying24 Try.sizeOf31 gg ((i + 2) * 5) 31 (0, 0) r1 hgW (.inl rfl) _ dc _ sc ⟨g, (i + 1) * 5, none⟩ A _ (Nat.min_self _) hAl (by rw [hA]; exact cell_of_row hsW _ _) (fun u hu => by rw [hA] at hu; exact h1c u (List.mem_of_mem_drop hu)) (by rw [hAl, hr1s, hr0]; omega)
  have hfin : r2.toList.take ((n + 1) * 5) = cur.toList.take (i * 5) ++ vcur.toList.take 10 ++ (cur.toList.take (n * 5)).drop ((i + 1) * 5) := by
    have e1 : r1.toList.take ((i + 2) * 5) = O ++ VV := by
      rw [hr1, List.toList_toArray, List.take_append_of_le_length (by simp; omega), List.take_of_length_le (by simp; omega), hrO]
    rw [hr2, List.toList_toArray, List.take_append_of_le_length (by rw [e1]; simp; omega), e1, List.take_of_length_le (by simp; omega), hO, hVV, hA, List.drop_zero, List.drop_zero]
  have HF : Hid _ := And.intro hfin (And.intro hr2s (And.intro hr0 (And.intro hW1g (And.intro hW1o (And.intro hW1s (And.intro hW1e (And.intro hgl (And.intro hgg (And.intro hc2 hc1)))))))))
  have hk1 : ¬ (K = i) := by omega
  have hk2 : ¬ (K = i + 2) := by omega
  have hk3 : i ≤ K := by omega
  have hk4 : i + 2 ≤ K := by omega
  clear hfin hr2s hr0 hW1g hW1o hW1s hW1e hgl hvl hgg hc2 hr2 hr1 hr1s hA hAl hVV hVl hO hOl hcs hvs hv hg h1c h1v hrO hW1 hK
  go_wp2_with (at_builtin; refine Lib.wpList_append_run _ rfl _ _ _ _ rfl _ _ rfl rfl _ _ (hrun _) ?_)
  go_region_law (refine step_copy_runI rfl _ _ 24 24 rfl _ _ (by simp [Act.eval, Act.put]) (by simp [Act.eval, Act.put]) (hcp2 (W1.setRow gg r1).drew rfl _ (K - (i + 2)) (c - (i + 1))) ?_)
  go_wp2_with fail
  all_goals go_ret
  obtain ⟨hfin, hr2s, hr0, hW1g, hW1o, hW1s, hW1e, hgl, hgg, hc2, hc1⟩ := HF
  obtain ⟨C, rfl⟩ : ∃ C, K = C + 1 := ⟨K - 1, by omega⟩
  have hsz : r2.toList.length = (C + 1) * 5 := by rw [Array.length_toList, hr2s, hr0]
  refine ⟨_, rfl, ⟨by rw [← hfin, List.length_take, hsz]; omega, .inr (.inr ⟨gg, C, r2, (0, 0), rfl, setRow_heap _ gg r1 _ _ _ (setRow_heap W1 gg r0 _ _ _ hW1g), hc1, hc2, by rw [← Array.length_toList, hsz], hfin, .inl rfl⟩)⟩, ⟨hW1e.1, hW1e.2.1, hW1e.2.2, ?_, fun k hk _ => ?_⟩, fun g' hg' => .inr ?_⟩
  · show w.heap.size ≤ ((W1.setRow gg r1).drew.setRow gg r2).heap.size
    simp [World.setRow, hW1s]
  · rw [setRow_other _ gg k _ (by omega)]
    show (W1.setRow gg r1).heap[k]? = _
    rw [setRow_other _ gg k _ (by omega), hW1o k hk]
  · obtain rfl : gg = g' := by simpa [roomOf] using hg'
    refine ⟨by omega, ?_⟩
    show gg < ((W1.setRow gg r1).drew.setRow gg r2).heap.size
    simp [World.setRow, hW1s, hgg]
end Go.Proofs.Ytmlfknmpapbpgaa
