/-
  slices.Replace of places: the contracts. No conditions.
-/
import Derived.Test.YtmlfknmpapbpgaaRepl3
namespace Go.Proofs.Ytmlfknmpapbpgaa
open Go.RowKit
set_option linter.unusedSimpArgs false
set_option linter.unusedVariables false

theorem places_five {E : Nat} (h : RowInfo Try.prog 31 E) : E = 5 := by
  obtain ⟨_, i0, z0, hi0, hs0, _⟩ := h
  have hsz5 : (Try.prog.info? 31).map (fun i => i.size) = some 5 := by kernel_rfl
  rw [hi0] at hsz5
  have : i0.size = 5 := by simpa using hsz5
  omega
section
variable {w : World} {R : Nat → Prop} {E : Nat} {xs ys : List (List V)} {fl fl1 : List Value}
theorem Reps.mono0 {w' : World} {row : List V} {vs : List Value} (h : Reps w R rho0 row vs) (hR : ∀ b, R b → w'.heap[b]? = w.heap[b]?) : Reps w' R rho0 row vs := h.ext ⟨fun _ h => h, hR, fun _ _ h => h⟩
theorem rr_take (n : Nat) (hl : fl.length = xs.length * E) (h : ∀ (i : Nat) (row : List V), xs[i]? = some row → Reps w R rho0 row ((fl.drop (i * E)).take E)) : ∀ (i : Nat) (row : List V), (xs.take n)[i]? = some row → Reps w R rho0 row (((fl.take (n * E)).drop (i * E)).take E) := by
  intro i row hi
  rw [List.getElem?_take] at hi
  split at hi
  · rename_i hin
    have hle : (i + 1) * E ≤ n * E := Nat.mul_le_mul_right _ hin
    rw [Nat.add_mul, Nat.one_mul] at hle
    rw [List.drop_take, List.take_take, Nat.min_eq_left (by omega)]
    exact h i row hi
  · cases hi
theorem rr_drop (n : Nat) (hl : fl.length = xs.length * E) (h : ∀ (i : Nat) (row : List V), xs[i]? = some row → Reps w R rho0 row ((fl.drop (i * E)).take E)) : ∀ (i : Nat) (row : List V), (xs.drop n)[i]? = some row → Reps w R rho0 row (((fl.drop (n * E)).drop (i * E)).take E) := by
  intro i row hi
  rw [List.getElem?_drop] at hi
  rw [List.drop_drop, ← Nat.add_mul]
  exact h _ row hi
theorem rr_app (h : ∀ (i : Nat) (row : List V), xs[i]? = some row → Reps w R rho0 row ((fl.drop (i * E)).take E)) (hl : fl.length = xs.length * E) (h1 : ∀ (i : Nat) (row : List V), ys[i]? = some row → Reps w R rho0 row ((fl1.drop (i * E)).take E)) : ∀ (i : Nat) (row : List V), (xs ++ ys)[i]? = some row → Reps w R rho0 row (((fl ++ fl1).drop (i * E)).take E) := by
  intro i row hi
  by_cases hin : i < xs.length
  · rw [List.getElem?_append_left hin] at hi
    have hle : (i + 1) * E ≤ xs.length * E := Nat.mul_le_mul_right _ hin
    rw [Nat.add_mul, Nat.one_mul] at hle
    rw [List.drop_append_of_le_length (by omega), List.take_append_of_le_length (by simp; omega)]
    exact h i row hi
  · rw [List.getElem?_append_right (by omega)] at hi
    have e : i * E = fl.length + (i - xs.length) * E := by rw [hl, ← Nat.add_mul]; congr 1; omega
    rw [e, List.drop_append, List.drop_of_length_le (by omega), List.nil_append, show fl.length + (i - xs.length) * E - fl.length = (i - xs.length) * E by omega]
    exact h1 _ row hi
end

set_option maxHeartbeats 1000000 in
set_option maxRecDepth 100000 in
theorem replace2_fn (xs ys : List (List V)) (i : Nat) (hi : i + 1 ≤ xs.length) (hy : ys.length = 2) (hbig : (xs.length + 1) * 1024 ≤ 140737488355328) : FnM Try.prog 17 [.own 0, .int .i64 (i : Int), .int .i64 ((i : Int) + 1), .own 1] [.rows 31 xs, .rows 31 ys] (.own 2) [.dead, .dead, .rows 31 (xs.take i ++ ys ++ xs.drop (i + 1))] := ⟨fun cx w R ρ vs hs ht hr => by
  have hl : vs.length = 4 := hr.1.symm
  obtain ⟨x, r, rfl, h1, h2⟩ := hr.uncons
  obtain ⟨y, r, rfl, h3, h4⟩ := h2.uncons
  obtain ⟨z, r, rfl, h5, h6⟩ := h4.uncons
  obtain ⟨u, r, rfl, h7, h8⟩ := h6.uncons
  obtain rfl : r = [] := List.eq_nil_of_length_eq_zero (by simpa using hl)
  obtain rfl := h3.of_int
  obtain rfl := h5.of_int
  cases h1 with
  | own hq hone =>
  cases h7 with
  | own hq1 hone1 =>
  have hb0 : hpL [Blk.rows 31 xs, Blk.rows 31 ys] 0 = some (.rows 31 xs) := rfl
  have hb1 : hpL [Blk.rows 31 xs, Blk.rows 31 ys] 1 = some (.rows 31 ys) := rfl
  obtain ⟨E, fl, ho⟩ := hs.brep 0 _ _ hq hb0
  obtain ⟨E1, fl1, ho1⟩ := hs.brep 1 _ _ hq1 hb1
  obtain rfl := places_five ho.info
  obtain rfl := places_five ho1.info
  obtain ⟨hfl, hv⟩ := ho.owns
  obtain ⟨hfl1, hv1⟩ := ho1.owns
  rcases hv with ⟨rfl, h0⟩ | ⟨a, rfl, h0⟩ | ⟨g, cap, cur, fz, rfl, hg, hnc, hcm, hcs, htk, hfz⟩
  · omega
  · omega
  rcases hv1 with ⟨rfl, h0⟩ | ⟨a, rfl, h0⟩ | ⟨vb, vcap, vcur, vfz, rfl, hvg, hvnc, hvcm, hvcs, hvtk, hvfz⟩
  · omega
  · omega
  obtain rfl : fz = (0, 0) := hfz.elim id (fun h => absurd h.2 (by decide))
  obtain rfl : vfz = (0, 0) := hvfz.elim id (fun h => absurd h.2 (by decide))
  have hne : vb ≠ g := fun e => hs.apart 0 1 _ _ g (by decide) ⟨_, hb0, by rintro (h | ⟨v, h⟩) <;> cases h⟩ ⟨_, hb1, by rintro (h | ⟨v, h⟩) <;> cases h⟩ hq hq1 rfl (by rw [← e]; rfl)
  have hone0 : ∀ x ∈ cur.toList.take (xs.length * 5), Value.oneCell' x = true := by rw [htk]; exact ho.one
  have hone1 : ∀ x ∈ vcur.toList.take 10, Value.oneCell' x = true := by
    have := ho1.one; rw [← hvtk, hy] at this; exact this
  have hvl : vcur.toList.take 10 = fl1 := by rw [← hvtk, hy]
  rw [run_enter Try.func17 rfl rfl]
  have hcall : Calls Try.prog 17 #[.slice (some ⟨g, 0, none⟩) xs.length (cap + 1), .int .i64 i, .int .i64 (i + 1 : Nat), .slice (some ⟨vb, 0, none⟩) 2 (vcap + 1)] w fun e w' => ∃ v', e = .returned v' ∧ Owns w' 31 5 v' (xs.length + 1) (fl.take (i * 5) ++ fl1 ++ fl.drop ((i + 1) * 5)) ∧ w.grownBy w' (some g) ∧ ∀ g', roomOf v' = some g' → some g = some g' ∨ (w.heap.size ≤ g' ∧ g' < w'.heap.size) := by
    have hd0 : fl.take (i * 5) = cur.toList.take (i * 5) := by rw [← htk, List.take_take, Nat.min_eq_left (by omega)]
    rw [hd0, ← htk, ← hvl]
    rcases Nat.lt_or_ge (i + 1) xs.length with hin | hin
    · rcases Nat.lt_or_ge (cap + 1) (xs.length + 1) with hroom | hroom
      · exact repl_grow w g xs.length (cap + 1) i vb (vcap + 1) cur vcur hg hcs hcm hvg hvcs hne hone0 hone1 (by omega) hin hnc hroom hbig
      · refine (repl_shift w g xs.length (cap + 1) i vb (vcap + 1) cur vcur hg hcs hcm hvg hvcs hne hone0 hone1 (by omega) hin hroom).mono ?_
        rintro e w' ⟨rfl, cur', hg', hs', hgr, hfin⟩
        have hlc : cur'.toList.length = (cap + 1) * 5 := by rw [Array.length_toList, hs', hcs]
        refine ⟨_, rfl, ⟨by rw [← hfin, List.length_take, hlc]; omega, .inr (.inr ⟨g, cap, cur', (0, 0), rfl, hg', by omega, hcm, by rw [hs', hcs], hfin, .inl rfl⟩)⟩, hgr, fun g' hg' => .inl (by simpa [roomOf] using hg')⟩
    · have hn : xs.length = i + 1 := by omega
      rw [hn] at hone0 hbig ⊢
      have := repl_end2 w g (cap + 1) i vb (vcap + 1) cur vcur hg hcs hcm hvg hvcs hne hone0 hone1 (by omega) (by omega) (by omega)
      rw [List.drop_of_length_le (by simp; omega), List.append_nil]
      exact this
  rw [hy] at hvnc ⊢
  refine hcall.mono ?_
  rintro e w' ⟨v', rfl, hown, hgr, hroom⟩
  have hm := hs.mine 0 _ g ⟨_, hb0, by rintro (h | ⟨v, h⟩) <;> cases h⟩ hq rfl
  have hdead : ∀ k', ¬ Live (((hpL [Blk.rows 31 xs, Blk.rows 31 ys]).set 0 (some .dead)).set 1 (some .dead)) k' := fun k' hlv => by
    obtain ⟨e1, l1⟩ := live_kill hlv
    obtain ⟨e0, l0⟩ := live_kill l1
    obtain ⟨b, hb, _⟩ := l0
    rw [hpL_get] at hb
    match k' with
    | 0 => exact e0 rfl
    | 1 => exact e1 rfl
    | n + 2 => simp at hb
  have hlen : (xs.take i ++ ys ++ xs.drop (i + 1)).length = (xs.length + 1) := by simp; omega
  have hz2 : ρ 2 = none := There.free ht rfl
  obtain ⟨s3, e3⟩ := ((hs.kill 0).kill 1).regrow (c := 2) (v' := v') (b' := .rows 31 (xs.take i ++ ys ++ xs.drop (i + 1))) (row := some g) hz2 hgr (fun n hn => by cases hn; exact ⟨hm.1, hm.2.1, hm.2.2, fun k o l => absurd l (hdead k)⟩) hroom (fun ex => ⟨5, fl.take (i * 5) ++ fl1 ++ fl.drop ((i + 1) * 5), by rw [hlen]; exact hown, ho.info, by
      intro row hrow
      simp only [List.mem_append] at hrow
      rcases hrow with (h | h) | h
      · exact ho.len _ (List.mem_of_mem_take h)
      · exact ho1.len _ h
      · exact ho.len _ (List.mem_of_mem_drop h), by
      intro x hx
      simp only [List.mem_append] at hx
      rcases hx with (h | h) | h
      · exact ho.one _ (List.mem_of_mem_take h)
      · exact ho1.one _ h
      · exact ho.one _ (List.mem_of_mem_drop h), fun k row hk => Reps.mono0 ((rr_app (rr_app (rr_take i hfl ho.rep) (by rw [List.length_take, List.length_take]; omega) ho1.rep) (by rw [List.length_append, List.length_append, Nat.add_mul]; simp; omega) (rr_drop (i + 1) hfl ho.rep)) k row hk) (fun b hb => ex.heap b hb)⟩)
  have hh : (((hpL [Blk.rows 31 xs, Blk.rows 31 ys]).set 0 (some .dead)).set 1 (some .dead)).set 2 (some (.rows 31 (xs.take i ++ ys ++ xs.drop (i + 1)))) = hpL [.dead, .dead, .rows 31 (xs.take i ++ ys ++ xs.drop (i + 1))] := by
    funext k
    match k with
    | 0 => rfl
    | 1 => rfl
    | 2 => rfl
    | n + 3 => rw [Hp.set_other _ _ (by omega), Hp.set_other _ _ (by omega), Hp.set_other _ _ (by omega), hpL_get, hpL_get]; rfl
  rw [hh] at s3
  refine ⟨_, rfl, R, _, s3, ?_, e3, .own (by simp [Rho.set]) (hown.one)⟩
  intro j o hj
  rw [hpL_get]
  match j with
  | 0 => simp
  | 1 => simp
  | 2 => simp
  | n + 3 => rw [Rho.set, if_neg (by omega)] at hj; exact absurd rfl (ht _ o hj)⟩

set_option maxHeartbeats 1000000 in
set_option maxRecDepth 100000 in
theorem replace1_fn (xs ys : List (List V)) (i : Nat) (hi : i + 2 ≤ xs.length) (hy : ys.length = 1) (hbig : (xs.length + 1) * 1024 ≤ 140737488355328) : FnM Try.prog 17 [.own 0, .int .i64 (i : Int), .int .i64 ((i : Int) + 2), .own 1] [.rows 31 xs, .rows 31 ys] (.own 2) [.dead, .dead, .rows 31 (xs.take i ++ ys ++ xs.drop (i + 2))] := ⟨fun cx w R ρ vs hs ht hr => by
  have hl : vs.length = 4 := hr.1.symm
  obtain ⟨x, r, rfl, h1, h2⟩ := hr.uncons
  obtain ⟨y, r, rfl, h3, h4⟩ := h2.uncons
  obtain ⟨z, r, rfl, h5, h6⟩ := h4.uncons
  obtain ⟨u, r, rfl, h7, h8⟩ := h6.uncons
  obtain rfl : r = [] := List.eq_nil_of_length_eq_zero (by simpa using hl)
  obtain rfl := h3.of_int
  obtain rfl := h5.of_int
  cases h1 with
  | own hq hone =>
  cases h7 with
  | own hq1 hone1 =>
  have hb0 : hpL [Blk.rows 31 xs, Blk.rows 31 ys] 0 = some (.rows 31 xs) := rfl
  have hb1 : hpL [Blk.rows 31 xs, Blk.rows 31 ys] 1 = some (.rows 31 ys) := rfl
  obtain ⟨E, fl, ho⟩ := hs.brep 0 _ _ hq hb0
  obtain ⟨E1, fl1, ho1⟩ := hs.brep 1 _ _ hq1 hb1
  obtain rfl := places_five ho.info
  obtain rfl := places_five ho1.info
  obtain ⟨hfl, hv⟩ := ho.owns
  obtain ⟨hfl1, hv1⟩ := ho1.owns
  rcases hv with ⟨rfl, h0⟩ | ⟨a, rfl, h0⟩ | ⟨g, cap, cur, fz, rfl, hg, hnc, hcm, hcs, htk, hfz⟩
  · omega
  · omega
  rcases hv1 with ⟨rfl, h0⟩ | ⟨a, rfl, h0⟩ | ⟨vb, vcap, vcur, vfz, rfl, hvg, hvnc, hvcm, hvcs, hvtk, hvfz⟩
  · omega
  · omega
  obtain rfl : fz = (0, 0) := hfz.elim id (fun h => absurd h.2 (by decide))
  obtain rfl : vfz = (0, 0) := hvfz.elim id (fun h => absurd h.2 (by decide))
  have hne : vb ≠ g := fun e => hs.apart 0 1 _ _ g (by decide) ⟨_, hb0, by rintro (h | ⟨v, h⟩) <;> cases h⟩ ⟨_, hb1, by rintro (h | ⟨v, h⟩) <;> cases h⟩ hq hq1 rfl (by rw [← e]; rfl)
  have hone0 : ∀ x ∈ cur.toList.take (xs.length * 5), Value.oneCell' x = true := by rw [htk]; exact ho.one
  have hone1 : ∀ x ∈ vcur.toList.take 5, Value.oneCell' x = true := by
    have := ho1.one; rw [← hvtk, hy] at this; exact this
  have hvl : vcur.toList.take 5 = fl1 := by rw [← hvtk, hy]
  rw [run_enter Try.func17 rfl rfl]
  have hcall : Calls Try.prog 17 #[.slice (some ⟨g, 0, none⟩) xs.length (cap + 1), .int .i64 i, .int .i64 (i + 2 : Nat), .slice (some ⟨vb, 0, none⟩) 1 (vcap + 1)] w fun e w' => ∃ v', e = .returned v' ∧ Owns w' 31 5 v' (xs.length - 1) (fl.take (i * 5) ++ fl1 ++ fl.drop ((i + 2) * 5)) ∧ w.grownBy w' (some g) ∧ ∀ g', roomOf v' = some g' → some g = some g' ∨ (w.heap.size ≤ g' ∧ g' < w'.heap.size) := by
    have hd0 : fl.take (i * 5) = cur.toList.take (i * 5) := by rw [← htk, List.take_take, Nat.min_eq_left (by omega)]
    rw [hd0, ← htk, ← hvl]
    rcases Nat.lt_or_ge (i + 2) xs.length with hin | hin
    · exact repl_mid1 w g xs.length (cap + 1) i vb (vcap + 1) cur vcur hg hcs hcm hvg hvcs hne hone0 hone1 (by omega) hin hnc
    · have hn : xs.length = i + 2 := by omega
      rw [hn] at hone0 ⊢
      have := repl_end1 w g (cap + 1) i vb (vcap + 1) cur vcur hg hcs hcm hvg hvcs hne hone0 hone1 (by omega) (by omega)
      rw [List.drop_of_length_le (by simp; omega), List.append_nil]
      exact this
  rw [hy] at hvnc ⊢
  refine hcall.mono ?_
  rintro e w' ⟨v', rfl, hown, hgr, hroom⟩
  have hm := hs.mine 0 _ g ⟨_, hb0, by rintro (h | ⟨v, h⟩) <;> cases h⟩ hq rfl
  have hdead : ∀ k', ¬ Live (((hpL [Blk.rows 31 xs, Blk.rows 31 ys]).set 0 (some .dead)).set 1 (some .dead)) k' := fun k' hlv => by
    obtain ⟨e1, l1⟩ := live_kill hlv
    obtain ⟨e0, l0⟩ := live_kill l1
    obtain ⟨b, hb, _⟩ := l0
    rw [hpL_get] at hb
    match k' with
    | 0 => exact e0 rfl
    | 1 => exact e1 rfl
    | n + 2 => simp at hb
  have hlen : (xs.take i ++ ys ++ xs.drop (i + 2)).length = (xs.length - 1) := by simp; omega
  have hz2 : ρ 2 = none := There.free ht rfl
  obtain ⟨s3, e3⟩ := ((hs.kill 0).kill 1).regrow (c := 2) (v' := v') (b' := .rows 31 (xs.take i ++ ys ++ xs.drop (i + 2))) (row := some g) hz2 hgr (fun n hn => by cases hn; exact ⟨hm.1, hm.2.1, hm.2.2, fun k o l => absurd l (hdead k)⟩) hroom (fun ex => ⟨5, fl.take (i * 5) ++ fl1 ++ fl.drop ((i + 2) * 5), by rw [hlen]; exact hown, ho.info, by
      intro row hrow
      simp only [List.mem_append] at hrow
      rcases hrow with (h | h) | h
      · exact ho.len _ (List.mem_of_mem_take h)
      · exact ho1.len _ h
      · exact ho.len _ (List.mem_of_mem_drop h), by
      intro x hx
      simp only [List.mem_append] at hx
      rcases hx with (h | h) | h
      · exact ho.one _ (List.mem_of_mem_take h)
      · exact ho1.one _ h
      · exact ho.one _ (List.mem_of_mem_drop h), fun k row hk => Reps.mono0 ((rr_app (rr_app (rr_take i hfl ho.rep) (by rw [List.length_take, List.length_take]; omega) ho1.rep) (by rw [List.length_append, List.length_append, Nat.add_mul]; simp; omega) (rr_drop (i + 2) hfl ho.rep)) k row hk) (fun b hb => ex.heap b hb)⟩)
  have hh : (((hpL [Blk.rows 31 xs, Blk.rows 31 ys]).set 0 (some .dead)).set 1 (some .dead)).set 2 (some (.rows 31 (xs.take i ++ ys ++ xs.drop (i + 2)))) = hpL [.dead, .dead, .rows 31 (xs.take i ++ ys ++ xs.drop (i + 2))] := by
    funext k
    match k with
    | 0 => rfl
    | 1 => rfl
    | 2 => rfl
    | n + 3 => rw [Hp.set_other _ _ (by omega), Hp.set_other _ _ (by omega), Hp.set_other _ _ (by omega), hpL_get, hpL_get]; rfl
  rw [hh] at s3
  refine ⟨_, rfl, R, _, s3, ?_, e3, .own (by simp [Rho.set]) (hown.one)⟩
  intro j o hj
  rw [hpL_get]
  match j with
  | 0 => simp
  | 1 => simp
  | 2 => simp
  | n + 3 => rw [Rho.set, if_neg (by omega)] at hj; exact absurd rfl (ht _ o hj)⟩
end Go.Proofs.Ytmlfknmpapbpgaa
