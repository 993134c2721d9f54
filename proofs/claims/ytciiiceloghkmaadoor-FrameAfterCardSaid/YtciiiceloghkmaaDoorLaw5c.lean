/-
  A law of frames: frames cut off anywhere: its walk. No conditions.
-/
import Derived.Test.YtciiiceloghkmaaDoorLaw5k
namespace Go.Proofs.YtciiiceloghkmaaDoor
open Go.RowKit
set_option linter.unusedSimpArgs false
set_option linter.unusedVariables false
/-- where frame number j ends -/
def endOf (l : List Bs) (j : Nat) : Nat := (wraps (l.take (j + 1))).length
def endsOf (l : List Bs) (n : Nat) : List Nat := (List.range n).map (endOf l)
abbrev encN (n : Nat) : List V := [.int .i64 (n : Int)]
theorem ends_len (l : List Bs) (n : Nat) : (endsOf l n).length = n := by simp [endsOf]
theorem ends_get {l : List Bs} {n j p : Nat} (h : (endsOf l n)[j]? = some p) : p = endOf l j := by
  rw [endsOf, List.getElem?_map] at h
  rcases hq : (List.range n)[j]? with _ | q
  · rw [hq] at h; cases h
  · rw [hq] at h
    have := (List.getElem?_eq_some_iff.1 hq).2
    simp at this
    subst this
    exact (Option.some.inj h).symm
theorem ends_succ (l : List Bs) (n : Nat) : endsOf l (n + 1) = endsOf l n ++ [endOf l n] := by simp [endsOf, List.range_succ]
theorem endOf_zero (t : Bs) (l : List Bs) : endOf (t :: l) 0 = (wrap t).length := by simp [endOf, wraps]
theorem endOf_succ (t : Bs) (l : List Bs) (j : Nat) : endOf (t :: l) (j + 1) = (wrap t).length + endOf l j := by simp [endOf, wraps]
theorem wraps_take {l : List Bs} {i : Nat} {t : Bs} (h : l[i]? = some t) : wraps (l.take (i + 1)) = wraps (l.take i) ++ wrap t := by
  rw [List.take_add_one, h, wraps_app]; simp [wraps]
theorem cut_split : ∀ (l : List Bs), (∀ t ∈ l, t.length ≤ 200000) → ∀ c, c ≤ (wraps l).length → ∃ K x, K ≤ l.length ∧ Bad x ∧ (wraps l).take c = wraps (l.take K) ++ x ∧ (∀ j, j < K → endOf l j ≤ c) ∧ (K < l.length → c < endOf l K)
  | [], _, c, _ => ⟨0, [], Nat.le_refl _, bad_short (by decide), by simp [wraps], fun j h => absurd h (by omega), fun h => absurd h (by simp)⟩
  | t :: l, hl, c, hc => by
    rw [wraps_cons] at hc ⊢
    rcases Nat.lt_or_ge c (wrap t).length with h | h
    · refine ⟨0, (wrap t).take c, by omega, bad_cut (hl t (by simp)) h, ?_, fun j h => absurd h (by omega), fun _ => by rw [endOf_zero]; exact h⟩
      rw [List.take_append_of_le_length (by omega)]; simp [wraps]
    · obtain ⟨K, x, h1, h2, h3, h4, h5⟩ := cut_split l (fun t ht => hl t (by simp [ht])) (c - (wrap t).length) (by rw [List.length_append] at hc; omega)
      refine ⟨K + 1, x, by simp; omega, h2, ?_, fun j hj => ?_, fun hK => ?_⟩
      · rw [List.take_append, List.take_of_length_le h, h3, List.take_succ_cons, wraps_cons, List.append_assoc]
      · cases j with
        | zero => rw [endOf_zero]; exact h
        | succ j => rw [endOf_succ]; have := h4 j (by omega); omega
      · rw [endOf_succ]; have := h5 (by simpa using hK); omega
theorem frame_len (t : Bs) (h : t.length ≤ 200000) : (wrap t).length ≤ 12 + t.length ∧ 5 ≤ (wrap t).length := by
  rw [wrap_len]; have := text_len8 t (by omega); have := text_pos t; omega

set_option maxRecDepth 100000 in
set_option maxHeartbeats 1000000 in
theorem frameCuts_fn (l : List Bs) (cut : Int) (hc0 : 0 ≤ cut ∧ cut ≤ 65535) : Fn Tryd.prog 5 [.sl (l.map encT), .int .u16 cut] (.bool true) := by
  refine Fn.mk' base Tryd.func5 rfl rfl rfl ?_
  refine AW.len 0 rfl (fun hlen => ?_)
  simp only [List.length_map, maxLen] at hlen
  repeat' (first
      | (with_reducible refine AW.seq ?_) | (with_reducible refine AW.region base (by kernel_rfl) ?_) | (with_reducible refine AW.cond ?_) | (with_reducible refine AW.block ?_) | (with_reducible refine AW.ret ?_) | (with_reducible refine AW.exit ?_) | (with_reducible refine AW.skip ?_)
      | ((conv => whnf); (first
         | (with_reducible refine Br.t ?_)
         | (with_reducible refine Br.f ?_)
         | (refine Br.t ?_)
         | (refine Br.f ?_)
         | (with_reducible refine Or.inl ⟨_, known5_fn, ?_⟩)
         | ((with_reducible refine Or.inl ?_); (conv => whnf); (with_reducible refine ⟨_, known5_fn, ?_⟩))
         | (with_reducible refine Br.mk (fun hb => ?_) (fun hb => ?_) <;> (try rw [hb]) <;> (try simp only [List.length_map, decide_eq_true_eq, decide_eq_false_iff_not, Bool.not_eq_true', Bool.not_eq_false', Int.ofNat_lt, Int.ofNat_le, Int.not_lt, Int.not_le, Int.toNat_natCast] at hb))
         | (with_reducible refine ⟨_, (by first | exact ByteRows.map _ | (repeat (first | exact ByteRows.nil | exact ByteRows.map _ | refine ByteRows.cons ?_ | refine ByteRows.app ?_ ?_))), ?_⟩)
         | (refine Exists.intro _ (And.intro (ByteRows.rep _) ?_))
         | (refine Exists.intro _ (And.intro (ByteRows.app (ByteRows.map _) (ByteRows.cons ByteRows.nil)) ?_))
         | ((with_reducible refine And.intro ?_ ?_); (focus (first | with_reducible rfl | exact trivial | (exact ⟨rfl, trivial⟩) | (exact ⟨rfl, rfl, trivial⟩) | omega | (intro r hr; simp only [List.mem_singleton] at hr; subst hr; rfl)  | ((simp only [List.length_map, ends_len] at *; omega)) | ((simp only [in64, maxLen, List.length_append] at *; omega)) | ((simp only [List.length_map, List.length_append, ends_len, List.length_cons, List.length_nil] at *; omega)) | ((have := (frame_len p (by omega)).1; simp only [maxLen, List.length_append] at *; omega)) | (simp only [in64]; omega) | assumption | (simp; done) | (simp [V.cells]; done) | (simp [in64, maxLen, limK] at *; omega) | ((show confB _ _ = true); kernel_rfl) | rfl)))
         | (intro row hrow; (try simp only [Int.toNat_natCast, List.length_map, toNat_pred, toNat_succ', toNat_zero', toNat_one'] at hrow); (first | (have hsm := same_map (by assumption) hrow; subst hsm; clear hrow) | (obtain ⟨p, hp, rfl⟩ := of_map hrow; clear hrow)))
         | (with_reducible refine AW.seq ?_) | (with_reducible refine AW.region base (by kernel_rfl) ?_) | (with_reducible refine AW.cond ?_) | (with_reducible refine AW.block ?_) | (with_reducible refine AW.ret ?_) | (with_reducible refine AW.exit ?_) | (with_reducible refine AW.skip ?_))))
  all_goals try ((conv => whnf); first | rfl | done)
  all_goals refine AW.adopt 6 999999999 (el := 3) rfl rfl (rows_of 41 rfl) ?_
  refine AW.loop (fun (⟨i, s⟩ : Nat × Bs) => i ≤ l.length ∧ l.length ≤ 10 ∧ (∀ (j : Nat) (q : Bs), j < i → l[j]? = some q → q.length ≤ 80) ∧ s = wraps (l.take i) ∧ s.length ≤ 100 * i) (fun (⟨i, s⟩ : Nat × Bs) => ⟨[(0, .sl (l.map encT)), (1, .int .u16 cut), (5, .str s), (6, .own 0), (7, .int .i64 (i : Int))], [.rows 3 ((endsOf l i).map encN)]⟩) (fun (⟨i, s⟩ : Nat × Bs) => l.length - i) (0, []) ?_ ?_ ?_
  · (exact ⟨by omega, by first | omega | (simp only [List.length_map] at *; omega), fun j q h => by omega, by simp [wraps], by simp⟩)
  · (refine ⟨⟨[999999999], ?_⟩⟩; repeat' (first | (with_reducible rfl) | exact trivial | ((conv => whnf); (first | (with_reducible refine And.intro ?_ ?_) | (first | with_reducible rfl | (refine congrArg V.str ?_; (first | with_reducible rfl | omega | (rw [ends_succ, List.map_append, endOf, hstep, ← hs]; rfl) | rfl | (simp; done))) | (refine congrArg (V.int _) ?_; (first | with_reducible rfl | omega | (rw [ends_succ, List.map_append, endOf, hstep, ← hs]; rfl) | rfl | (simp; done))) | (refine congrArg V.bool ?_; (first | with_reducible rfl | omega | (rw [ends_succ, List.map_append, endOf, hstep, ← hs]; rfl) | rfl | (simp; done))) | (refine congrArg V.sl ?_; (first | with_reducible rfl | omega | (rw [ends_succ, List.map_append, endOf, hstep, ← hs]; rfl) | rfl | (simp; done))) | (first | with_reducible rfl | omega | (rw [ends_succ, List.map_append, endOf, hstep, ← hs]; rfl) | rfl | (simp; done)) | rfl)))))
  · rintro ⟨i, s⟩ hk
    obtain ⟨hk1, hk2, h80, hs, hsl⟩ := hk
    rcases (by omega : i = l.length ∨ i < l.length) with hi | hi
    · subst hi
      rw [List.take_length] at hs
      have h80' : ∀ t ∈ l, t.length ≤ 80 := fun t ht => by
        obtain ⟨j, hj, rfl⟩ := List.mem_iff_getElem.1 ht
        exact h80 j _ hj (List.getElem?_eq_getElem hj)
      rcases Nat.eq_zero_or_pos s.length with hz | hz
      · have hwl : (wraps l).length = 0 := by rw [← hs]; exact hz
        obtain ⟨K, x, hKl, hbad, hcut0, h4, h5⟩ := cut_split l (fun t ht => by have := h80' t ht; omega) ((0 : Int)).toNat (by have := hs; subst this; omega)
        have hcut : List.drop 0 (List.take ((0 : Int)).toNat s) = wraps (l.take K) ++ x := by rw [List.drop_zero, ← hcut0, ← hs]
        have hlk : ∀ t ∈ l.take K, t.length ≤ 200000 := fun t ht => by have := h80' t (List.mem_of_mem_take ht); omega
        have hsame : List.drop 0 (List.take (K : Int).toNat (l.map encT)) = (l.take K).map encT := by rw [List.drop_zero, Int.toNat_natCast, List.map_take]
        have hw0 : K = 0 → (wraps (l.take K)).length = 0 := fun h => by subst h; rfl
        have hwK : 0 < K → (wraps (l.take K)).length = endOf l (K - 1) := fun h => by rw [endOf, Nat.sub_add_cancel h]
        repeat' (first
            | (with_reducible refine AW.seq ?_) | (with_reducible refine AW.region base (by kernel_rfl) ?_) | (with_reducible refine AW.cond ?_) | (with_reducible refine AW.block ?_) | (with_reducible refine AW.ret ?_) | (with_reducible refine AW.exit ?_) | (with_reducible refine AW.skip ?_)
            | ((conv => whnf); (first
               | (with_reducible refine Br.t ?_)
               | (with_reducible refine Br.f ?_)
               | (refine Br.t ?_)
               | (refine Br.f ?_)
               | (with_reducible refine Br.mk (fun hb => ?_) (fun hb => (by exfalso; (first | (simp at hb; done) | omega | (simp only [decide_eq_false_iff_not, decide_eq_true_eq] at hb; omega) | (simp only [List.length_map, ends_len] at hb; omega) | (simp at hb; omega) | (simp only [List.length_map, ends_len] at hb; simp at hb; omega) | (have hpe := ends_get (by assumption); subst hpe; simp at hb; omega) | (have hpe := ends_get (by assumption); subst hpe; omega)))))
               | (with_reducible refine Br.mk (fun hb => (by exfalso; (first | (simp at hb; done) | omega | (simp only [decide_eq_false_iff_not, decide_eq_true_eq] at hb; omega) | (simp only [List.length_map, ends_len] at hb; omega) | (simp at hb; omega) | (simp only [List.length_map, ends_len] at hb; simp at hb; omega) | (have hpe := ends_get (by assumption); subst hpe; simp at hb; omega) | (have hpe := ends_get (by assumption); subst hpe; omega)))) (fun hb => ?_))
               | (with_reducible refine Br.mk (fun hb => ?_) (fun hb => ?_) <;> (try rw [hb]) <;> (try simp only [List.length_map, decide_eq_true_eq, decide_eq_false_iff_not, Bool.not_eq_true', Bool.not_eq_false', Int.ofNat_lt, Int.ofNat_le, Int.not_lt, Int.not_le, Int.toNat_natCast] at hb))
               | (with_reducible refine ⟨_, (by first | exact ByteRows.map _ | (repeat (first | exact ByteRows.nil | exact ByteRows.map _ | refine ByteRows.cons ?_ | refine ByteRows.app ?_ ?_))), ?_⟩)
               | (refine Exists.intro _ (And.intro (ByteRows.rep _) ?_))
               | (refine Exists.intro _ (And.intro (ByteRows.app (ByteRows.map _) (ByteRows.cons ByteRows.nil)) ?_))
               | ((with_reducible refine And.intro ?_ ?_); (focus (first | with_reducible rfl | exact trivial | (exact ⟨rfl, trivial⟩) | (exact ⟨rfl, rfl, trivial⟩) | omega | (intro r hr; simp only [List.mem_singleton] at hr; subst hr; rfl)  | ((simp only [List.length_map, ends_len] at *; omega)) | ((simp only [in64, maxLen, List.length_append] at *; omega)) | ((simp only [List.length_map, List.length_append, ends_len, List.length_cons, List.length_nil] at *; omega)) | ((have := (frame_len p (by omega)).1; simp only [maxLen, List.length_append] at *; omega)) | (simp only [in64]; omega) | assumption | (simp; done) | (simp [V.cells]; done) | (simp [in64, maxLen, limK] at *; omega) | ((show confB _ _ = true); kernel_rfl) | rfl)))
               | (intro row hrow; (try simp only [Int.toNat_natCast, List.length_map, toNat_pred, toNat_succ', toNat_zero', toNat_one'] at hrow); (first | (have hsm := same_map (by assumption) hrow; subst hsm; clear hrow) | (obtain ⟨p, hp, rfl⟩ := of_map hrow; clear hrow)))
               | (with_reducible refine AW.seq ?_) | (with_reducible refine AW.region base (by kernel_rfl) ?_) | (with_reducible refine AW.cond ?_) | (with_reducible refine AW.block ?_) | (with_reducible refine AW.ret ?_) | (with_reducible refine AW.exit ?_) | (with_reducible refine AW.skip ?_))))
        refine AW.loop (fun (k : Nat) => k ≤ K) (fun (k : Nat) => ⟨[(0, .sl (l.map encT)), (5, .str s), (6, .own 0), (8, .int .i64 ((0 : Int))), (9, .int .i64 (k : Int))], [.rows 3 ((endsOf l l.length).map encN)]⟩) (fun (k : Nat) => K - k) 0 ?_ ?_ ?_
        · omega
        · (refine ⟨⟨[0], ?_⟩⟩; repeat' (first | (with_reducible rfl) | exact trivial | ((conv => whnf); (first | (with_reducible refine And.intro ?_ ?_) | (first | with_reducible rfl | (refine congrArg V.str ?_; (first | with_reducible rfl | omega | rfl | (simp; done))) | (refine congrArg (V.int _) ?_; (first | with_reducible rfl | omega | rfl | (simp; done))) | (refine congrArg V.bool ?_; (first | with_reducible rfl | omega | rfl | (simp; done))) | (refine congrArg V.sl ?_; (first | with_reducible rfl | omega | rfl | (simp; done))) | (first | with_reducible rfl | omega | rfl | (simp; done)) | rfl)))))
        · rintro k hk
          rcases (by omega : k = K ∨ k < K) with hkK | hkK
          · obtain rfl : K = k := hkK.symm
            rcases Nat.eq_zero_or_pos K with hk0 | hk0
            all_goals rcases (by omega : K = l.length ∨ K < l.length) with hkl | hkl
            all_goals (first | (have h5' := h5 hkl) | skip)
            all_goals (
              repeat' (first
                  | (with_reducible refine AW.seq ?_) | (with_reducible refine AW.region base (by kernel_rfl) ?_) | (with_reducible refine AW.cond ?_) | (with_reducible refine AW.block ?_) | (with_reducible refine AW.ret ?_) | (with_reducible refine AW.exit ?_) | (with_reducible refine AW.skip ?_)
                  | ((conv => whnf); (first
                     | (with_reducible refine Br.t ?_)
                     | (with_reducible refine Br.f ?_)
                     | (refine Br.t ?_)
                     | (refine Br.f ?_)
                     | (with_reducible refine Br.mk (fun hb => ?_) (fun hb => (by exfalso; (first | (simp at hb; done) | omega | (simp only [decide_eq_false_iff_not, decide_eq_true_eq] at hb; omega) | (simp only [List.length_map, ends_len] at hb; omega) | (simp at hb; omega) | (simp only [List.length_map, ends_len] at hb; simp at hb; omega) | (have hpe := ends_get (by assumption); subst hpe; simp at hb; omega) | (have hpe := ends_get (by assumption); subst hpe; omega)))))
                     | (with_reducible refine Br.mk (fun hb => (by exfalso; (first | (simp at hb; done) | omega | (simp only [decide_eq_false_iff_not, decide_eq_true_eq] at hb; omega) | (simp only [List.length_map, ends_len] at hb; omega) | (simp at hb; omega) | (simp only [List.length_map, ends_len] at hb; simp at hb; omega) | (have hpe := ends_get (by assumption); subst hpe; simp at hb; omega) | (have hpe := ends_get (by assumption); subst hpe; omega)))) (fun hb => ?_))
                     | (with_reducible refine Or.inl ⟨_, all_of _ (l.take K) x hcut hbad hlk (by simp only [List.length_drop, List.length_take]; omega) (by simp only [List.length_take]; omega), ?_⟩)
                     | ((with_reducible refine Or.inl ?_); (conv => whnf); (with_reducible refine ⟨_, all_of _ (l.take K) x hcut hbad hlk (by simp only [List.length_drop, List.length_take]; omega) (by simp only [List.length_take]; omega), ?_⟩))
                     | (with_reducible refine Or.inl ⟨_, same_of _ _ (l.take K) rfl hsame, ?_⟩)
                     | ((with_reducible refine Or.inl ?_); (conv => whnf); (with_reducible refine ⟨_, same_of _ _ (l.take K) rfl hsame, ?_⟩))
                     | (with_reducible refine Br.mk (fun hb => ?_) (fun hb => ?_) <;> (try rw [hb]) <;> (try simp only [List.length_map, decide_eq_true_eq, decide_eq_false_iff_not, Bool.not_eq_true', Bool.not_eq_false', Int.ofNat_lt, Int.ofNat_le, Int.not_lt, Int.not_le, Int.toNat_natCast] at hb))
                     | (with_reducible refine ⟨_, (by first | exact ByteRows.map _ | (repeat (first | exact ByteRows.nil | exact ByteRows.map _ | refine ByteRows.cons ?_ | refine ByteRows.app ?_ ?_))), ?_⟩)
                     | (refine Exists.intro _ (And.intro (ByteRows.rep _) ?_))
                     | (refine Exists.intro _ (And.intro (ByteRows.app (ByteRows.map _) (ByteRows.cons ByteRows.nil)) ?_))
                     | ((with_reducible refine And.intro ?_ ?_); (focus (first | with_reducible rfl | exact trivial | (exact ⟨rfl, trivial⟩) | (exact ⟨rfl, rfl, trivial⟩) | omega | (intro r hr; simp only [List.mem_singleton] at hr; subst hr; rfl)  | ((simp only [List.length_map, ends_len] at *; omega)) | ((simp only [in64, maxLen, List.length_append] at *; omega)) | ((simp only [List.length_map, List.length_append, ends_len, List.length_cons, List.length_nil] at *; omega)) | ((have := (frame_len p (by omega)).1; simp only [maxLen, List.length_append] at *; omega)) | (simp only [in64]; omega) | assumption | (simp; done) | (simp [V.cells]; done) | (simp [in64, maxLen, limK] at *; omega) | ((show confB _ _ = true); kernel_rfl) | rfl)))
                     | (intro row hrow; (try simp only [Int.toNat_natCast, List.length_map, toNat_pred, toNat_succ', toNat_zero', toNat_one'] at hrow); (first | (have hsm := same_map (by assumption) hrow; subst hsm; clear hrow) | (obtain ⟨p, hp, rfl⟩ := of_map hrow; clear hrow)))
                     | (with_reducible refine AW.seq ?_) | (with_reducible refine AW.region base (by kernel_rfl) ?_) | (with_reducible refine AW.cond ?_) | (with_reducible refine AW.block ?_) | (with_reducible refine AW.ret ?_) | (with_reducible refine AW.exit ?_) | (with_reducible refine AW.skip ?_))))
              all_goals (conv => whnf)
              all_goals (first | rfl | (exfalso; (first | (simp at hb; done) | omega | (simp only [decide_eq_false_iff_not, decide_eq_true_eq] at hb; omega) | (simp only [List.length_map, ends_len] at hb; omega) | (simp at hb; omega) | (simp only [List.length_map, ends_len] at hb; simp at hb; omega) | (have hpe := ends_get (by assumption); subst hpe; simp at hb; omega) | (have hpe := ends_get (by assumption); subst hpe; omega))) | (exfalso; simp at *; omega) | (exact congrArg V.bool (decide_eq_true (by first | omega | (rw [hw0 hk0]; rfl) | (rw [hwK hk0]; (have hpe := ends_get (by assumption)); subst hpe; (have e1 : ((K : Int) - 1).toNat = K - 1 := by omega); first | rfl | rw [e1]) | fail)))))
          have h4' := h4 k hkK
          repeat' (first
              | (with_reducible refine AW.seq ?_) | (with_reducible refine AW.region base (by kernel_rfl) ?_) | (with_reducible refine AW.cond ?_) | (with_reducible refine AW.block ?_) | (with_reducible refine AW.ret ?_) | (with_reducible refine AW.exit ?_) | (with_reducible refine AW.skip ?_)
              | ((conv => whnf); (first
                 | (with_reducible refine Br.t ?_)
                 | (with_reducible refine Br.f ?_)
                 | (refine Br.t ?_)
                 | (refine Br.f ?_)
                 | (with_reducible refine Br.mk (fun hb => ?_) (fun hb => (by exfalso; (first | (simp at hb; done) | omega | (simp only [decide_eq_false_iff_not, decide_eq_true_eq] at hb; omega) | (simp only [List.length_map, ends_len] at hb; omega) | (simp at hb; omega) | (simp only [List.length_map, ends_len] at hb; simp at hb; omega) | (have hpe := ends_get (by assumption); subst hpe; simp at hb; omega) | (have hpe := ends_get (by assumption); subst hpe; omega)))))
                 | (with_reducible refine Br.mk (fun hb => (by exfalso; (first | (simp at hb; done) | omega | (simp only [decide_eq_false_iff_not, decide_eq_true_eq] at hb; omega) | (simp only [List.length_map, ends_len] at hb; omega) | (simp at hb; omega) | (simp only [List.length_map, ends_len] at hb; simp at hb; omega) | (have hpe := ends_get (by assumption); subst hpe; simp at hb; omega) | (have hpe := ends_get (by assumption); subst hpe; omega)))) (fun hb => ?_))
                 | (with_reducible refine Or.inl ⟨_, all_of _ (l.take K) x hcut hbad hlk (by simp only [List.length_drop, List.length_take]; omega) (by simp only [List.length_take]; omega), ?_⟩)
                 | ((with_reducible refine Or.inl ?_); (conv => whnf); (with_reducible refine ⟨_, all_of _ (l.take K) x hcut hbad hlk (by simp only [List.length_drop, List.length_take]; omega) (by simp only [List.length_take]; omega), ?_⟩))
                 | (with_reducible refine Or.inl ⟨_, same_of _ _ (l.take K) rfl hsame, ?_⟩)
                 | ((with_reducible refine Or.inl ?_); (conv => whnf); (with_reducible refine ⟨_, same_of _ _ (l.take K) rfl hsame, ?_⟩))
                 | (with_reducible refine Br.mk (fun hb => ?_) (fun hb => ?_) <;> (try rw [hb]) <;> (try simp only [List.length_map, decide_eq_true_eq, decide_eq_false_iff_not, Bool.not_eq_true', Bool.not_eq_false', Int.ofNat_lt, Int.ofNat_le, Int.not_lt, Int.not_le, Int.toNat_natCast] at hb))
                 | (with_reducible refine ⟨_, (by first | exact ByteRows.map _ | (repeat (first | exact ByteRows.nil | exact ByteRows.map _ | refine ByteRows.cons ?_ | refine ByteRows.app ?_ ?_))), ?_⟩)
                 | (refine Exists.intro _ (And.intro (ByteRows.rep _) ?_))
                 | (refine Exists.intro _ (And.intro (ByteRows.app (ByteRows.map _) (ByteRows.cons ByteRows.nil)) ?_))
                 | ((with_reducible refine And.intro ?_ ?_); (focus (first | with_reducible rfl | exact trivial | (exact ⟨rfl, trivial⟩) | (exact ⟨rfl, rfl, trivial⟩) | omega | (intro r hr; simp only [List.mem_singleton] at hr; subst hr; rfl)  | ((simp only [List.length_map, ends_len] at *; omega)) | ((simp only [in64, maxLen, List.length_append] at *; omega)) | ((simp only [List.length_map, List.length_append, ends_len, List.length_cons, List.length_nil] at *; omega)) | ((have := (frame_len p (by omega)).1; simp only [maxLen, List.length_append] at *; omega)) | (simp only [in64]; omega) | assumption | (simp; done) | (simp [V.cells]; done) | (simp [in64, maxLen, limK] at *; omega) | ((show confB _ _ = true); kernel_rfl) | rfl)))
                 | (intro row hrow; (try simp only [Int.toNat_natCast, List.length_map, toNat_pred, toNat_succ', toNat_zero', toNat_one'] at hrow); (first | (have hsm := same_map (by assumption) hrow; subst hsm; clear hrow) | (obtain ⟨p, hp, rfl⟩ := of_map hrow; clear hrow)))
                 | (with_reducible refine AW.seq ?_) | (with_reducible refine AW.region base (by kernel_rfl) ?_) | (with_reducible refine AW.cond ?_) | (with_reducible refine AW.block ?_) | (with_reducible refine AW.ret ?_) | (with_reducible refine AW.exit ?_) | (with_reducible refine AW.skip ?_))))
          all_goals (try first | with_reducible assumption | ((show (_ : Int) ≤ _); (first | omega | (simp at *; omega))) | ((show (_ : Nat) ≤ _); (first | omega | (simp at *; omega))) | ((show in64 _); (simp only [in64] at *; (first | omega | (simp at *; omega)))) | ((show (_ : Int) < _); (first | omega | (simp at *; omega))) | ((show ¬ (_ : Int) = _); (first | omega | (simp at *; omega))) | ((with_reducible refine And.intro ?_ ?_) <;> (first | omega | (simp at *; omega))))
          all_goals (first
            | (with_reducible exact absurd rfl (by assumption))
            | ((conv => whnf); (refine ⟨(k + 1), ?_⟩); (refine And.intro ?_ (And.intro ?_ ?_)); (focus (refine ⟨⟨[0], ?_⟩⟩; repeat' (first | (with_reducible rfl) | exact trivial | ((conv => whnf); (first | (with_reducible refine And.intro ?_ ?_) | (first | with_reducible rfl | (refine congrArg V.str ?_; (first | with_reducible rfl | omega | rfl | (simp; done))) | (refine congrArg (V.int _) ?_; (first | with_reducible rfl | omega | rfl | (simp; done))) | (refine congrArg V.bool ?_; (first | with_reducible rfl | omega | rfl | (simp; done))) | (refine congrArg V.sl ?_; (first | with_reducible rfl | omega | rfl | (simp; done))) | (first | with_reducible rfl | omega | rfl | (simp; done)) | rfl)))))); (focus omega); (focus (first | omega | (dsimp only; omega) | (simp; done) | (simp; omega) | (simp at *; omega))))
            | ((conv => whnf); (try (first | rfl | (exfalso; simp_all; done) | (exfalso; simp at *; omega))); done))

      · have hc : 0 ≤ cut % ((s.length : Int) + 1) ∧ cut % ((s.length : Int) + 1) ≤ s.length := by
          have e1 := Int.emod_nonneg cut (b := (s.length : Int) + 1) (by omega)
          have e2 := Int.emod_lt_of_pos cut (b := (s.length : Int) + 1) (by omega)
          omega
        obtain ⟨K, x, hKl, hbad, hcut0, h4, h5⟩ := cut_split l (fun t ht => by have := h80' t ht; omega) (cut % ((s.length : Int) + 1)).toNat (by have := hs; subst this; omega)
        have hcut : List.drop 0 (List.take (cut % ((s.length : Int) + 1)).toNat s) = wraps (l.take K) ++ x := by rw [List.drop_zero, ← hcut0, ← hs]
        have hlk : ∀ t ∈ l.take K, t.length ≤ 200000 := fun t ht => by have := h80' t (List.mem_of_mem_take ht); omega
        have hsame : List.drop 0 (List.take (K : Int).toNat (l.map encT)) = (l.take K).map encT := by rw [List.drop_zero, Int.toNat_natCast, List.map_take]
        have hw0 : K = 0 → (wraps (l.take K)).length = 0 := fun h => by subst h; rfl
        have hwK : 0 < K → (wraps (l.take K)).length = endOf l (K - 1) := fun h => by rw [endOf, Nat.sub_add_cancel h]
        repeat' (first
            | (with_reducible refine AW.seq ?_) | (with_reducible refine AW.region base (by kernel_rfl) ?_) | (with_reducible refine AW.cond ?_) | (with_reducible refine AW.block ?_) | (with_reducible refine AW.ret ?_) | (with_reducible refine AW.exit ?_) | (with_reducible refine AW.skip ?_)
            | ((conv => whnf); (first
               | (with_reducible refine Br.t ?_)
               | (with_reducible refine Br.f ?_)
               | (refine Br.t ?_)
               | (refine Br.f ?_)
               | (with_reducible refine Br.mk (fun hb => ?_) (fun hb => (by exfalso; (first | (simp at hb; done) | omega | (simp only [decide_eq_false_iff_not, decide_eq_true_eq] at hb; omega) | (simp only [List.length_map, ends_len] at hb; omega) | (simp at hb; omega) | (simp only [List.length_map, ends_len] at hb; simp at hb; omega) | (have hpe := ends_get (by assumption); subst hpe; simp at hb; omega) | (have hpe := ends_get (by assumption); subst hpe; omega)))))
               | (with_reducible refine Br.mk (fun hb => (by exfalso; (first | (simp at hb; done) | omega | (simp only [decide_eq_false_iff_not, decide_eq_true_eq] at hb; omega) | (simp only [List.length_map, ends_len] at hb; omega) | (simp at hb; omega) | (simp only [List.length_map, ends_len] at hb; simp at hb; omega) | (have hpe := ends_get (by assumption); subst hpe; simp at hb; omega) | (have hpe := ends_get (by assumption); subst hpe; omega)))) (fun hb => ?_))
               | (with_reducible refine Br.mk (fun hb => ?_) (fun hb => ?_) <;> (try rw [hb]) <;> (try simp only [List.length_map, decide_eq_true_eq, decide_eq_false_iff_not, Bool.not_eq_true', Bool.not_eq_false', Int.ofNat_lt, Int.ofNat_le, Int.not_lt, Int.not_le, Int.toNat_natCast] at hb))
               | (with_reducible refine ⟨_, (by first | exact ByteRows.map _ | (repeat (first | exact ByteRows.nil | exact ByteRows.map _ | refine ByteRows.cons ?_ | refine ByteRows.app ?_ ?_))), ?_⟩)
               | (refine Exists.intro _ (And.intro (ByteRows.rep _) ?_))
               | (refine Exists.intro _ (And.intro (ByteRows.app (ByteRows.map _) (ByteRows.cons ByteRows.nil)) ?_))
               | ((with_reducible refine And.intro ?_ ?_); (focus (first | with_reducible rfl | exact trivial | (exact ⟨rfl, trivial⟩) | (exact ⟨rfl, rfl, trivial⟩) | omega | (intro r hr; simp only [List.mem_singleton] at hr; subst hr; rfl)  | ((simp only [List.length_map, ends_len] at *; omega)) | ((simp only [in64, maxLen, List.length_append] at *; omega)) | ((simp only [List.length_map, List.length_append, ends_len, List.length_cons, List.length_nil] at *; omega)) | ((have := (frame_len p (by omega)).1; simp only [maxLen, List.length_append] at *; omega)) | (simp only [in64]; omega) | assumption | (simp; done) | (simp [V.cells]; done) | (simp [in64, maxLen, limK] at *; omega) | ((show confB _ _ = true); kernel_rfl) | rfl)))
               | (intro row hrow; (try simp only [Int.toNat_natCast, List.length_map, toNat_pred, toNat_succ', toNat_zero', toNat_one'] at hrow); (first | (have hsm := same_map (by assumption) hrow; subst hsm; clear hrow) | (obtain ⟨p, hp, rfl⟩ := of_map hrow; clear hrow)))
               | (with_reducible refine AW.seq ?_) | (with_reducible refine AW.region base (by kernel_rfl) ?_) | (with_reducible refine AW.cond ?_) | (with_reducible refine AW.block ?_) | (with_reducible refine AW.ret ?_) | (with_reducible refine AW.exit ?_) | (with_reducible refine AW.skip ?_))))
        refine AW.loop (fun (k : Nat) => k ≤ K) (fun (k : Nat) => ⟨[(0, .sl (l.map encT)), (5, .str s), (6, .own 0), (8, .int .i64 (cut % ((s.length : Int) + 1))), (9, .int .i64 (k : Int))], [.rows 3 ((endsOf l l.length).map encN)]⟩) (fun (k : Nat) => K - k) 0 ?_ ?_ ?_
        · omega
        · (refine ⟨⟨[0], ?_⟩⟩; repeat' (first | (with_reducible rfl) | exact trivial | ((conv => whnf); (first | (with_reducible refine And.intro ?_ ?_) | (first | with_reducible rfl | (refine congrArg V.str ?_; (first | with_reducible rfl | omega | rfl | (simp; done))) | (refine congrArg (V.int _) ?_; (first | with_reducible rfl | omega | rfl | (simp; done))) | (refine congrArg V.bool ?_; (first | with_reducible rfl | omega | rfl | (simp; done))) | (refine congrArg V.sl ?_; (first | with_reducible rfl | omega | rfl | (simp; done))) | (first | with_reducible rfl | omega | rfl | (simp; done)) | rfl)))))
        · rintro k hk
          rcases (by omega : k = K ∨ k < K) with hkK | hkK
          · obtain rfl : K = k := hkK.symm
            rcases Nat.eq_zero_or_pos K with hk0 | hk0
            all_goals rcases (by omega : K = l.length ∨ K < l.length) with hkl | hkl
            all_goals (first | (have h5' := h5 hkl) | skip)
            all_goals (
              repeat' (first
                  | (with_reducible refine AW.seq ?_) | (with_reducible refine AW.region base (by kernel_rfl) ?_) | (with_reducible refine AW.cond ?_) | (with_reducible refine AW.block ?_) | (with_reducible refine AW.ret ?_) | (with_reducible refine AW.exit ?_) | (with_reducible refine AW.skip ?_)
                  | ((conv => whnf); (first
                     | (with_reducible refine Br.t ?_)
                     | (with_reducible refine Br.f ?_)
                     | (refine Br.t ?_)
                     | (refine Br.f ?_)
                     | (with_reducible refine Br.mk (fun hb => ?_) (fun hb => (by exfalso; (first | (simp at hb; done) | omega | (simp only [decide_eq_false_iff_not, decide_eq_true_eq] at hb; omega) | (simp only [List.length_map, ends_len] at hb; omega) | (simp at hb; omega) | (simp only [List.length_map, ends_len] at hb; simp at hb; omega) | (have hpe := ends_get (by assumption); subst hpe; simp at hb; omega) | (have hpe := ends_get (by assumption); subst hpe; omega)))))
                     | (with_reducible refine Br.mk (fun hb => (by exfalso; (first | (simp at hb; done) | omega | (simp only [decide_eq_false_iff_not, decide_eq_true_eq] at hb; omega) | (simp only [List.length_map, ends_len] at hb; omega) | (simp at hb; omega) | (simp only [List.length_map, ends_len] at hb; simp at hb; omega) | (have hpe := ends_get (by assumption); subst hpe; simp at hb; omega) | (have hpe := ends_get (by assumption); subst hpe; omega)))) (fun hb => ?_))
                     | (with_reducible refine Or.inl ⟨_, all_of _ (l.take K) x hcut hbad hlk (by simp only [List.length_drop, List.length_take]; omega) (by simp only [List.length_take]; omega), ?_⟩)
                     | ((with_reducible refine Or.inl ?_); (conv => whnf); (with_reducible refine ⟨_, all_of _ (l.take K) x hcut hbad hlk (by simp only [List.length_drop, List.length_take]; omega) (by simp only [List.length_take]; omega), ?_⟩))
                     | (with_reducible refine Or.inl ⟨_, same_of _ _ (l.take K) rfl hsame, ?_⟩)
                     | ((with_reducible refine Or.inl ?_); (conv => whnf); (with_reducible refine ⟨_, same_of _ _ (l.take K) rfl hsame, ?_⟩))
                     | (with_reducible refine Br.mk (fun hb => ?_) (fun hb => ?_) <;> (try rw [hb]) <;> (try simp only [List.length_map, decide_eq_true_eq, decide_eq_false_iff_not, Bool.not_eq_true', Bool.not_eq_false', Int.ofNat_lt, Int.ofNat_le, Int.not_lt, Int.not_le, Int.toNat_natCast] at hb))
                     | (with_reducible refine ⟨_, (by first | exact ByteRows.map _ | (repeat (first | exact ByteRows.nil | exact ByteRows.map _ | refine ByteRows.cons ?_ | refine ByteRows.app ?_ ?_))), ?_⟩)
                     | (refine Exists.intro _ (And.intro (ByteRows.rep _) ?_))
                     | (refine Exists.intro _ (And.intro (ByteRows.app (ByteRows.map _) (ByteRows.cons ByteRows.nil)) ?_))
                     | ((with_reducible refine And.intro ?_ ?_); (focus (first | with_reducible rfl | exact trivial | (exact ⟨rfl, trivial⟩) | (exact ⟨rfl, rfl, trivial⟩) | omega | (intro r hr; simp only [List.mem_singleton] at hr; subst hr; rfl)  | ((simp only [List.length_map, ends_len] at *; omega)) | ((simp only [in64, maxLen, List.length_append] at *; omega)) | ((simp only [List.length_map, List.length_append, ends_len, List.length_cons, List.length_nil] at *; omega)) | ((have := (frame_len p (by omega)).1; simp only [maxLen, List.length_append] at *; omega)) | (simp only [in64]; omega) | assumption | (simp; done) | (simp [V.cells]; done) | (simp [in64, maxLen, limK] at *; omega) | ((show confB _ _ = true); kernel_rfl) | rfl)))
                     | (intro row hrow; (try simp only [Int.toNat_natCast, List.length_map, toNat_pred, toNat_succ', toNat_zero', toNat_one'] at hrow); (first | (have hsm := same_map (by assumption) hrow; subst hsm; clear hrow) | (obtain ⟨p, hp, rfl⟩ := of_map hrow; clear hrow)))
                     | (with_reducible refine AW.seq ?_) | (with_reducible refine AW.region base (by kernel_rfl) ?_) | (with_reducible refine AW.cond ?_) | (with_reducible refine AW.block ?_) | (with_reducible refine AW.ret ?_) | (with_reducible refine AW.exit ?_) | (with_reducible refine AW.skip ?_))))
              all_goals (conv => whnf)
              all_goals (first | rfl | (exfalso; (first | (simp at hb; done) | omega | (simp only [decide_eq_false_iff_not, decide_eq_true_eq] at hb; omega) | (simp only [List.length_map, ends_len] at hb; omega) | (simp at hb; omega) | (simp only [List.length_map, ends_len] at hb; simp at hb; omega) | (have hpe := ends_get (by assumption); subst hpe; simp at hb; omega) | (have hpe := ends_get (by assumption); subst hpe; omega))) | (exfalso; simp at *; omega) | (exact congrArg V.bool (decide_eq_true (by first | omega | (rw [hw0 hk0]; rfl) | (rw [hwK hk0]; (have hpe := ends_get (by assumption)); subst hpe; (have e1 : ((K : Int) - 1).toNat = K - 1 := by omega); first | rfl | rw [e1]) | fail)))))
          have h4' := h4 k hkK
          repeat' (first
              | (with_reducible refine AW.seq ?_) | (with_reducible refine AW.region base (by kernel_rfl) ?_) | (with_reducible refine AW.cond ?_) | (with_reducible refine AW.block ?_) | (with_reducible refine AW.ret ?_) | (with_reducible refine AW.exit ?_) | (with_reducible refine AW.skip ?_)
              | ((conv => whnf); (first
                 | (with_reducible refine Br.t ?_)
                 | (with_reducible refine Br.f ?_)
                 | (refine Br.t ?_)
                 | (refine Br.f ?_)
                 | (with_reducible refine Br.mk (fun hb => ?_) (fun hb => (by exfalso; (first | (simp at hb; done) | omega | (simp only [decide_eq_false_iff_not, decide_eq_true_eq] at hb; omega) | (simp only [List.length_map, ends_len] at hb; omega) | (simp at hb; omega) | (simp only [List.length_map, ends_len] at hb; simp at hb; omega) | (have hpe := ends_get (by assumption); subst hpe; simp at hb; omega) | (have hpe := ends_get (by assumption); subst hpe; omega)))))
                 | (with_reducible refine Br.mk (fun hb => (by exfalso; (first | (simp at hb; done) | omega | (simp only [decide_eq_false_iff_not, decide_eq_true_eq] at hb; omega) | (simp only [List.length_map, ends_len] at hb; omega) | (simp at hb; omega) | (simp only [List.length_map, ends_len] at hb; simp at hb; omega) | (have hpe := ends_get (by assumption); subst hpe; simp at hb; omega) | (have hpe := ends_get (by assumption); subst hpe; omega)))) (fun hb => ?_))
                 | (with_reducible refine Or.inl ⟨_, all_of _ (l.take K) x hcut hbad hlk (by simp only [List.length_drop, List.length_take]; omega) (by simp only [List.length_take]; omega), ?_⟩)
                 | ((with_reducible refine Or.inl ?_); (conv => whnf); (with_reducible refine ⟨_, all_of _ (l.take K) x hcut hbad hlk (by simp only [List.length_drop, List.length_take]; omega) (by simp only [List.length_take]; omega), ?_⟩))
                 | (with_reducible refine Or.inl ⟨_, same_of _ _ (l.take K) rfl hsame, ?_⟩)
                 | ((with_reducible refine Or.inl ?_); (conv => whnf); (with_reducible refine ⟨_, same_of _ _ (l.take K) rfl hsame, ?_⟩))
                 | (with_reducible refine Br.mk (fun hb => ?_) (fun hb => ?_) <;> (try rw [hb]) <;> (try simp only [List.length_map, decide_eq_true_eq, decide_eq_false_iff_not, Bool.not_eq_true', Bool.not_eq_false', Int.ofNat_lt, Int.ofNat_le, Int.not_lt, Int.not_le, Int.toNat_natCast] at hb))
                 | (with_reducible refine ⟨_, (by first | exact ByteRows.map _ | (repeat (first | exact ByteRows.nil | exact ByteRows.map _ | refine ByteRows.cons ?_ | refine ByteRows.app ?_ ?_))), ?_⟩)
                 | (refine Exists.intro _ (And.intro (ByteRows.rep _) ?_))
                 | (refine Exists.intro _ (And.intro (ByteRows.app (ByteRows.map _) (ByteRows.cons ByteRows.nil)) ?_))
                 | ((with_reducible refine And.intro ?_ ?_); (focus (first | with_reducible rfl | exact trivial | (exact ⟨rfl, trivial⟩) | (exact ⟨rfl, rfl, trivial⟩) | omega | (intro r hr; simp only [List.mem_singleton] at hr; subst hr; rfl)  | ((simp only [List.length_map, ends_len] at *; omega)) | ((simp only [in64, maxLen, List.length_append] at *; omega)) | ((simp only [List.length_map, List.length_append, ends_len, List.length_cons, List.length_nil] at *; omega)) | ((have := (frame_len p (by omega)).1; simp only [maxLen, List.length_append] at *; omega)) | (simp only [in64]; omega) | assumption | (simp; done) | (simp [V.cells]; done) | (simp [in64, maxLen, limK] at *; omega) | ((show confB _ _ = true); kernel_rfl) | rfl)))
                 | (intro row hrow; (try simp only [Int.toNat_natCast, List.length_map, toNat_pred, toNat_succ', toNat_zero', toNat_one'] at hrow); (first | (have hsm := same_map (by assumption) hrow; subst hsm; clear hrow) | (obtain ⟨p, hp, rfl⟩ := of_map hrow; clear hrow)))
                 | (with_reducible refine AW.seq ?_) | (with_reducible refine AW.region base (by kernel_rfl) ?_) | (with_reducible refine AW.cond ?_) | (with_reducible refine AW.block ?_) | (with_reducible refine AW.ret ?_) | (with_reducible refine AW.exit ?_) | (with_reducible refine AW.skip ?_))))
          all_goals (try first | with_reducible assumption | ((show (_ : Int) ≤ _); (first | omega | (simp at *; omega))) | ((show (_ : Nat) ≤ _); (first | omega | (simp at *; omega))) | ((show in64 _); (simp only [in64] at *; (first | omega | (simp at *; omega)))) | ((show (_ : Int) < _); (first | omega | (simp at *; omega))) | ((show ¬ (_ : Int) = _); (first | omega | (simp at *; omega))) | ((with_reducible refine And.intro ?_ ?_) <;> (first | omega | (simp at *; omega))))
          all_goals (first
            | (with_reducible exact absurd rfl (by assumption))
            | ((conv => whnf); (refine ⟨(k + 1), ?_⟩); (refine And.intro ?_ (And.intro ?_ ?_)); (focus (refine ⟨⟨[0], ?_⟩⟩; repeat' (first | (with_reducible rfl) | exact trivial | ((conv => whnf); (first | (with_reducible refine And.intro ?_ ?_) | (first | with_reducible rfl | (refine congrArg V.str ?_; (first | with_reducible rfl | omega | rfl | (simp; done))) | (refine congrArg (V.int _) ?_; (first | with_reducible rfl | omega | rfl | (simp; done))) | (refine congrArg V.bool ?_; (first | with_reducible rfl | omega | rfl | (simp; done))) | (refine congrArg V.sl ?_; (first | with_reducible rfl | omega | rfl | (simp; done))) | (first | with_reducible rfl | omega | rfl | (simp; done)) | rfl)))))); (focus omega); (focus (first | omega | (dsimp only; omega) | (simp; done) | (simp; omega) | (simp at *; omega))))
            | ((conv => whnf); (try (first | rfl | (exfalso; simp_all; done) | (exfalso; simp at *; omega))); done))

    obtain ⟨p, hp⟩ : ∃ p, l[i]? = some p := ⟨_, List.getElem?_eq_getElem hi⟩
    have hstep := wraps_take hp
    rcases Nat.lt_or_ge 80 p.length with h8 | h8
    · skip
      repeat' (first
          | (with_reducible refine AW.seq ?_) | (with_reducible refine AW.region base (by kernel_rfl) ?_) | (with_reducible refine AW.cond ?_) | (with_reducible refine AW.block ?_) | (with_reducible refine AW.ret ?_) | (with_reducible refine AW.exit ?_) | (with_reducible refine AW.skip ?_)
          | ((conv => whnf); (first
             | (with_reducible refine Br.t ?_)
             | (with_reducible refine Br.f ?_)
             | (refine Br.t ?_)
             | (refine Br.f ?_)
             | (with_reducible refine Br.mk (fun hb => ?_) (fun hb => (by exfalso; (first | (simp at hb; done) | omega | (simp only [decide_eq_false_iff_not, decide_eq_true_eq] at hb; omega) | (simp only [List.length_map, ends_len] at hb; omega) | (simp at hb; omega) | (simp only [List.length_map, ends_len] at hb; simp at hb; omega) | (have hpe := ends_get (by assumption); subst hpe; simp at hb; omega) | (have hpe := ends_get (by assumption); subst hpe; omega)))))
             | (with_reducible refine Br.mk (fun hb => (by exfalso; (first | (simp at hb; done) | omega | (simp only [decide_eq_false_iff_not, decide_eq_true_eq] at hb; omega) | (simp only [List.length_map, ends_len] at hb; omega) | (simp at hb; omega) | (simp only [List.length_map, ends_len] at hb; simp at hb; omega) | (have hpe := ends_get (by assumption); subst hpe; simp at hb; omega) | (have hpe := ends_get (by assumption); subst hpe; omega)))) (fun hb => ?_))
             | (with_reducible refine Or.inl ⟨_, known5_fn, ?_⟩)
             | ((with_reducible refine Or.inl ?_); (conv => whnf); (with_reducible refine ⟨_, known5_fn, ?_⟩))
             | (with_reducible refine Or.inl ⟨_, frameWrap_fn _ (by omega), ?_⟩)
             | ((with_reducible refine Or.inl ?_); (conv => whnf); (with_reducible refine ⟨_, frameWrap_fn _ (by omega), ?_⟩))
             | (with_reducible refine Br.mk (fun hb => ?_) (fun hb => ?_) <;> (try rw [hb]) <;> (try simp only [List.length_map, decide_eq_true_eq, decide_eq_false_iff_not, Bool.not_eq_true', Bool.not_eq_false', Int.ofNat_lt, Int.ofNat_le, Int.not_lt, Int.not_le, Int.toNat_natCast] at hb))
             | (with_reducible refine ⟨_, (by first | exact ByteRows.map _ | (repeat (first | exact ByteRows.nil | exact ByteRows.map _ | refine ByteRows.cons ?_ | refine ByteRows.app ?_ ?_))), ?_⟩)
             | (refine Exists.intro _ (And.intro (ByteRows.rep _) ?_))
             | (refine Exists.intro _ (And.intro (ByteRows.app (ByteRows.map _) (ByteRows.cons ByteRows.nil)) ?_))
             | ((with_reducible refine And.intro ?_ ?_); (focus (first | with_reducible rfl | exact trivial | (exact ⟨rfl, trivial⟩) | (exact ⟨rfl, rfl, trivial⟩) | omega | (intro r hr; simp only [List.mem_singleton] at hr; subst hr; rfl)  | ((simp only [List.length_map, ends_len] at *; omega)) | ((simp only [in64, maxLen, List.length_append] at *; omega)) | ((simp only [List.length_map, List.length_append, ends_len, List.length_cons, List.length_nil] at *; omega)) | ((have := (frame_len p (by omega)).1; simp only [maxLen, List.length_append] at *; omega)) | (simp only [in64]; omega) | assumption | (simp; done) | (simp [V.cells]; done) | (simp [in64, maxLen, limK] at *; omega) | ((show confB _ _ = true); kernel_rfl) | rfl)))
             | (intro row hrow; (try simp only [Int.toNat_natCast, List.length_map, toNat_pred, toNat_succ', toNat_zero', toNat_one'] at hrow); (first | (have hsm := same_map (by assumption) hrow; subst hsm; clear hrow) | (obtain ⟨p, hp, rfl⟩ := of_map hrow; clear hrow)))
             | (with_reducible refine AW.seq ?_) | (with_reducible refine AW.region base (by kernel_rfl) ?_) | (with_reducible refine AW.cond ?_) | (with_reducible refine AW.block ?_) | (with_reducible refine AW.ret ?_) | (with_reducible refine AW.exit ?_) | (with_reducible refine AW.skip ?_))))
      all_goals ((conv => whnf); first | done | rfl | (exfalso; simp at *; omega))
    have hfl := frame_len p (by omega)
    repeat' (first
        | (with_reducible refine AW.seq ?_) | (with_reducible refine AW.region base (by kernel_rfl) ?_) | (with_reducible refine AW.cond ?_) | (with_reducible refine AW.block ?_) | (with_reducible refine AW.ret ?_) | (with_reducible refine AW.exit ?_) | (with_reducible refine AW.skip ?_)
        | ((conv => whnf); (first
           | (with_reducible refine Br.t ?_)
           | (with_reducible refine Br.f ?_)
           | (refine Br.t ?_)
           | (refine Br.f ?_)
           | (with_reducible refine Br.mk (fun hb => ?_) (fun hb => (by exfalso; (first | (simp at hb; done) | omega | (simp only [decide_eq_false_iff_not, decide_eq_true_eq] at hb; omega) | (simp only [List.length_map, ends_len] at hb; omega) | (simp at hb; omega) | (simp only [List.length_map, ends_len] at hb; simp at hb; omega) | (have hpe := ends_get (by assumption); subst hpe; simp at hb; omega) | (have hpe := ends_get (by assumption); subst hpe; omega)))))
           | (with_reducible refine Br.mk (fun hb => (by exfalso; (first | (simp at hb; done) | omega | (simp only [decide_eq_false_iff_not, decide_eq_true_eq] at hb; omega) | (simp only [List.length_map, ends_len] at hb; omega) | (simp at hb; omega) | (simp only [List.length_map, ends_len] at hb; simp at hb; omega) | (have hpe := ends_get (by assumption); subst hpe; simp at hb; omega) | (have hpe := ends_get (by assumption); subst hpe; omega)))) (fun hb => ?_))
           | (with_reducible refine Or.inl ⟨_, known5_fn, ?_⟩)
           | ((with_reducible refine Or.inl ?_); (conv => whnf); (with_reducible refine ⟨_, known5_fn, ?_⟩))
           | (with_reducible refine Or.inl ⟨_, frameWrap_fn _ (by omega), ?_⟩)
           | ((with_reducible refine Or.inl ?_); (conv => whnf); (with_reducible refine ⟨_, frameWrap_fn _ (by omega), ?_⟩))
           | (with_reducible refine Br.mk (fun hb => ?_) (fun hb => ?_) <;> (try rw [hb]) <;> (try simp only [List.length_map, decide_eq_true_eq, decide_eq_false_iff_not, Bool.not_eq_true', Bool.not_eq_false', Int.ofNat_lt, Int.ofNat_le, Int.not_lt, Int.not_le, Int.toNat_natCast] at hb))
           | (with_reducible refine ⟨_, (by first | exact ByteRows.map _ | (repeat (first | exact ByteRows.nil | exact ByteRows.map _ | refine ByteRows.cons ?_ | refine ByteRows.app ?_ ?_))), ?_⟩)
           | (refine Exists.intro _ (And.intro (ByteRows.rep _) ?_))
           | (refine Exists.intro _ (And.intro (ByteRows.app (ByteRows.map _) (ByteRows.cons ByteRows.nil)) ?_))
           | ((with_reducible refine And.intro ?_ ?_); (focus (first | with_reducible rfl | exact trivial | (exact ⟨rfl, trivial⟩) | (exact ⟨rfl, rfl, trivial⟩) | omega | (intro r hr; simp only [List.mem_singleton] at hr; subst hr; rfl)  | ((simp only [List.length_map, ends_len] at *; omega)) | ((simp only [in64, maxLen, List.length_append] at *; omega)) | ((simp only [List.length_map, List.length_append, ends_len, List.length_cons, List.length_nil] at *; omega)) | ((have := (frame_len p (by omega)).1; simp only [maxLen, List.length_append] at *; omega)) | (simp only [in64]; omega) | assumption | (simp; done) | (simp [V.cells]; done) | (simp [in64, maxLen, limK] at *; omega) | ((show confB _ _ = true); kernel_rfl) | rfl)))
           | (intro row hrow; (try simp only [Int.toNat_natCast, List.length_map, toNat_pred, toNat_succ', toNat_zero', toNat_one'] at hrow); (first | (have hsm := same_map (by assumption) hrow; subst hsm; clear hrow) | (obtain ⟨p, hp, rfl⟩ := of_map hrow; clear hrow)))
           | (with_reducible refine AW.seq ?_) | (with_reducible refine AW.region base (by kernel_rfl) ?_) | (with_reducible refine AW.cond ?_) | (with_reducible refine AW.block ?_) | (with_reducible refine AW.ret ?_) | (with_reducible refine AW.exit ?_) | (with_reducible refine AW.skip ?_))))
    all_goals (try first | with_reducible assumption | ((show (_ : Int) ≤ _); (first | omega | (simp at *; omega))) | ((show (_ : Nat) ≤ _); (first | omega | (simp at *; omega))) | ((show in64 _); (simp only [in64] at *; (first | omega | (simp at *; omega)))) | ((show (_ : Int) < _); (first | omega | (simp at *; omega))) | ((show ¬ (_ : Int) = _); (first | omega | (simp at *; omega))) | ((with_reducible refine And.intro ?_ ?_) <;> (first | omega | (simp at *; omega))))
    all_goals (first
      | (with_reducible exact absurd rfl (by assumption))
      | ((conv => whnf); (refine ⟨(i + 1, ?_), ?_⟩); (rotate_left 1); (refine And.intro ?_ (And.intro ?_ ?_)); (focus (refine ⟨⟨[?_], ?_⟩⟩; rotate_left 1; repeat' (first | (with_reducible rfl) | exact trivial | ((conv => whnf); (first | (with_reducible refine And.intro ?_ ?_) | (first | with_reducible rfl | (refine congrArg V.str ?_; (first | with_reducible rfl | omega | (rw [ends_succ, List.map_append, endOf, hstep, ← hs]; rfl) | rfl | (simp; done))) | (refine congrArg (V.int _) ?_; (first | with_reducible rfl | omega | (rw [ends_succ, List.map_append, endOf, hstep, ← hs]; rfl) | rfl | (simp; done))) | (refine congrArg V.bool ?_; (first | with_reducible rfl | omega | (rw [ends_succ, List.map_append, endOf, hstep, ← hs]; rfl) | rfl | (simp; done))) | (refine congrArg V.sl ?_; (first | with_reducible rfl | omega | (rw [ends_succ, List.map_append, endOf, hstep, ← hs]; rfl) | rfl | (simp; done))) | (first | with_reducible rfl | omega | (rw [ends_succ, List.map_append, endOf, hstep, ← hs]; rfl) | rfl | (simp; done)) | rfl)))))); (focus (refine ⟨by omega, hk2, ?_, ?_, ?_⟩; (focus (intro j q hj hq; rcases (by omega : j < i ∨ j = i) with h | h; (focus (exact h80 j q h hq)); (focus (subst h; rw [hp] at hq; cases hq; exact h8)))); (focus (rw [hstep, hs])); (focus (rw [List.length_append]; omega)))); (focus (first | omega | (dsimp only; omega) | (simp; done) | (simp; omega) | (simp at *; omega))))
      | ((conv => whnf); (try (first | rfl | (exfalso; simp_all; done) | (exfalso; simp at *; omega))); done))

end Go.Proofs.YtciiiceloghkmaaDoor
