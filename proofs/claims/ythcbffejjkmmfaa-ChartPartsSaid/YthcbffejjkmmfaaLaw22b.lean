/-
  The walks of the laws on charts, part two: they answer true. No conditions.
-/
import Derived.Test.YthcbffejjkmmfaaLaw22
import Derived.Test.YthcbffejjkmmfaaChart
namespace Go.Proofs.Ythcbffejjkmmfaa
open Go.RowKit
set_option linter.unusedSimpArgs false
set_option linter.unusedVariables false

theorem plan_len {l : List Place} (h : isPlan l = true) : l.length ≤ 1000000 := by
  simp only [isPlan, headB, Bool.and_eq_true, decide_eq_true_eq] at h
  omega
theorem parts_within {l : List Place} {s : Span} {k : Nat} {p : Place} (hl : isPlan l = true) (hs : isB s = true) (hp : (parts l s)[k]? = some p) : withinB p.s s = true := by
  obtain ⟨q, hq, hm, rfl⟩ := mem_parts (List.mem_of_getElem? hp)
  have h1 := ((chn_of hl).all q hq).1
  have h2 := isB_both' q.s s h1 hs
  rw [hm] at h2
  have h3 : blt (both q.s s).f s.f = false := max_r _ _
  simp only [withinB, h2, hs, h3, Bool.true_and, Bool.not_false]
  show (decide (s.t = []) || !decide (lowOf q.s.t s.t = []) && !blt s.t (lowOf q.s.t s.t)) = true
  cases ht : decide (s.t = []) with
  | true => rfl
  | false =>
    have hne : s.t ≠ [] := by simpa using ht
    have h4 := lim_low q.s.t s.t s.t
    have h5 : lim s.t s.t = false := by simp [lim, hne, blt_irrefl]
    rw [h5, Bool.and_false] at h4
    simp only [lim, Bool.or_eq_false_iff, decide_eq_false_iff_not] at h4
    simp [h4.1, h4.2]
theorem parts_touches {l : List Place} {s : Span} {k : Nat} {p q : Place} (hl : isPlan l = true) (hs : isB s = true) (hk : 0 < k) (hp : (parts l s)[k - 1]? = some p) (hq : (parts l s)[k]? = some q) : touchB p.s q.s = true :=
  Tch.get (parts_touch hs (chn_of hl)) hp (by rw [Nat.sub_add_cancel hk]; exact hq)
theorem parts_node {l : List Place} {s : Span} {k : Nat} {p : Place} {key : Bs} (hl : isPlan l = true) (hs : isB s = true) (hp : (parts l s)[k]? = some p) (hk : hasB p.s key = true) : (placeAt l key).isSome = true ∧ nodeAt l key = p.node := by
  obtain ⟨q, hq, hm, rfl⟩ := mem_parts (List.mem_of_getElem? hp)
  have h1 := ((chn_of hl).all q hq).1
  have h2 := meet_has q.s s key h1 hs
  rw [hm, hk] at h2
  obtain ⟨h3, _⟩ := Bool.and_eq_true_iff.1 h2.symm
  have h4 := plan_at hl hq h3
  simp [h4, nodeAt]
def hits (l : List Place) (key : Bs) : Nat := (l.filter fun p => hasB p.s key).length
theorem hits_next {l : List Place} {k : Nat} {p : Place} (key : Bs) (h : l[k]? = some p) : hits (l.take (k + 1)) key = hits (l.take k) key + if hasB p.s key then 1 else 0 := by
  rw [List.take_add_one, h]
  simp only [hits, List.filter_append, List.length_append, Option.toList, List.filter_cons, List.filter_nil]
  split <;> simp
theorem hits_le (l : List Place) (key : Bs) : hits l key ≤ l.length := List.length_filter_le _ _
theorem hits_all {l : List Place} {s : Span} {key : Bs} (hl : isPlan l = true) (hs : isB s = true) : hits (parts l s) key = if hasB s key then 1 else 0 := by
  rw [hits, parts_has hs fun p hp => ((chn_of hl).all p hp).1]
  cases h : hasB s key with
  | false => rfl
  | true =>
    rw [hasB_eq] at h
    simp only [Bool.and_eq_true] at h
    obtain ⟨u, hu⟩ := plan_one hl h.1.1.2
    rw [hu]; rfl
theorem parts_full {l : List Place} (h : ∀ p ∈ l, isB p.s = true) : parts l ⟨[], []⟩ = l := by
  induction l with
  | nil => rfl
  | cons p r ih =>
    have h1 := h p List.mem_cons_self
    have hb : both p.s ⟨[], []⟩ = p.s := by
      have h2 : maxS p.s.f [] = p.s.f := by simp [maxS, blt_nil]
      have h3 : lowOf p.s.t [] = p.s.t := by unfold lowOf; split <;> simp_all
      simp [both, h2, h3]
    have hm : meetB p.s ⟨[], []⟩ = true := by
      rw [meetB_eq p.s _ h1 (by decide)]
      have := isB_lim h1
      have e1 := congrArg Span.t hb
      have e2 := congrArg Span.f hb
      simp only [both] at e1 e2
      rw [e1, e2]; exact this
    rw [parts_cons, hm, hb, ih fun q hq => h q (List.mem_cons_of_mem _ hq)]
    simp

set_option maxRecDepth 100000 in
set_option maxHeartbeats 400000 in
theorem chartParts_fn (l : List Place) (s : Span) (key : Bs) : Fn Try.prog 4 [.sl (l.map encP), .agg [.str s.f, .str s.t], .str key] (.bool true) := by
  refine Fn.mk' base Try.func4 rfl rfl rfl ?_
  refine AW.len 0 rfl (fun hlen => ?_)
  simp only [List.length_map, maxLen] at hlen
  repeat' (first
      | (with_reducible refine AW.seq ?_) | (with_reducible refine AW.region base (by kernel_rfl) ?_) | (with_reducible refine AW.cond ?_) | (with_reducible refine AW.block ?_) | (with_reducible refine AW.ret ?_) | (with_reducible refine AW.exit ?_) | (with_reducible refine AW.skip ?_)
      | ((conv => whnf); (first
         | (with_reducible refine Br.t ?_)
         | (with_reducible refine Br.f ?_)
         | (with_reducible refine ⟨_, known22_fn, ?_⟩)
         | (with_reducible refine ⟨_, isPlan_fn _, ?_⟩)
         | (with_reducible refine ⟨_, isr_fn _, ?_⟩)
         | (with_reducible refine ⟨_, isr_fn ⟨_, _⟩, ?_⟩)
         | (with_reducible refine ⟨_, withinr_fn _ _, ?_⟩)
         | (with_reducible refine ⟨_, withinr_fn ⟨_, _⟩ ⟨_, _⟩, ?_⟩)
         | (with_reducible refine ⟨_, touchr_fn _ _, ?_⟩)
         | (with_reducible refine ⟨_, touchr_fn ⟨_, _⟩ ⟨_, _⟩, ?_⟩)
         | (with_reducible refine ⟨_, hasr_fn _ _, ?_⟩)
         | (with_reducible refine ⟨_, hasr_fn ⟨_, _⟩ _, ?_⟩)
         | (with_reducible refine ⟨_, node_fn _ _, ?_⟩)
         | (with_reducible refine ⟨_, parts_fn _ _ (plan_len (by assumption)), ?_⟩)
         | (with_reducible refine ⟨_, parts_fn _ ⟨_, _⟩ (plan_len (by assumption)), ?_⟩)
         | (with_reducible refine Br.mk (fun hb => ?_) (fun hb => ?_) <;> (try rw [hb]) <;> (try simp only [List.length_map, decide_eq_true_eq, decide_eq_false_iff_not, Bool.not_eq_true', Bool.not_eq_false', Int.ofNat_lt, Int.ofNat_le, Int.not_lt, Int.not_le, Int.toNat_natCast] at hb))
         | ((with_reducible refine And.intro ?_ ?_); (focus (first | omega | (intro r hr; simp only [List.mem_singleton] at hr; subst hr; rfl)  | (simp only [in64]; omega) | assumption | (simp; done) | (simp [V.cells]; done) | (simp [in64, maxLen] at *; omega) | rfl)))
         | (intro row hrow; (try simp only [Int.toNat_natCast, List.length_map, toNat_pred, toNat_succ', toNat_zero', toNat_one'] at hrow); (first | (have hsm := same_map (by assumption) hrow; subst hsm; clear hrow) | (obtain ⟨p, hp, rfl⟩ := of_map hrow; clear hrow)))
         | (with_reducible refine AW.seq ?_) | (with_reducible refine AW.region base (by kernel_rfl) ?_) | (with_reducible refine AW.cond ?_) | (with_reducible refine AW.block ?_) | (with_reducible refine AW.ret ?_) | (with_reducible refine AW.exit ?_) | (with_reducible refine AW.skip ?_))))
  all_goals (try ((conv => whnf); done))
  · exfalso; simp at hb
  rename_i _ hpl his
  refine AW.loop (fun (k : Nat) => k ≤ (parts l s).length) (fun k => { env := [(0, .sl (l.map encP)), (2, .str key), (4, .ptr 0 0), (7, .sl ((parts l s).map encP)), (8, .int .i64 (hits ((parts l s).take k) key)), (9, .int .i64 k)], cells := [(0, [.str s.f, .str s.t])] }) (fun k => (parts l s).length - k) 0 ?_ ?_ ?_
  · exact Nat.zero_le _
  · (refine ⟨rfl, ?_, ?_, ?_⟩ <;> (repeat (first | exact trivial | (refine And.intro (And.intro ?_ rfl) ?_; (focus (first | rfl | (simp; done) | (refine congrArg (V.int .i64) ?_; omega)))) | (refine And.intro ⟨_, rfl, rfl, rfl⟩ ?_) | (refine Or.inl ⟨_, _, rfl, rfl, ?_, rfl, ?_⟩; (focus (first | rfl | (simp; done) | assumption ))) | (refine Or.inr ⟨rfl, ?_, ⟨_, ‹_›⟩, ?_⟩; (focus (first | rfl | (simp; done)))))))
  · intro k hk
    have hpb := Nat.le_trans (parts_len l s) (plan_len hpl)
    have hhit := hits_le ((parts l s).take k) key
    simp only [List.length_take] at hhit
    repeat' (first
        | (with_reducible refine AW.seq ?_) | (with_reducible refine AW.region base (by kernel_rfl) ?_) | (with_reducible refine AW.cond ?_) | (with_reducible refine AW.block ?_) | (with_reducible refine AW.ret ?_) | (with_reducible refine AW.exit ?_) | (with_reducible refine AW.skip ?_)
        | ((conv => whnf); (first
           | (with_reducible refine Br.t ?_)
           | (with_reducible refine Br.f ?_)
           | (with_reducible refine ⟨_, known22_fn, ?_⟩)
           | (with_reducible refine ⟨_, isPlan_fn _, ?_⟩)
           | (with_reducible refine ⟨_, isr_fn _, ?_⟩)
           | (with_reducible refine ⟨_, isr_fn ⟨_, _⟩, ?_⟩)
           | (with_reducible refine ⟨_, withinr_fn _ _, ?_⟩)
           | (with_reducible refine ⟨_, withinr_fn ⟨_, _⟩ ⟨_, _⟩, ?_⟩)
           | (with_reducible refine ⟨_, touchr_fn _ _, ?_⟩)
           | (with_reducible refine ⟨_, touchr_fn ⟨_, _⟩ ⟨_, _⟩, ?_⟩)
           | (with_reducible refine ⟨_, hasr_fn _ _, ?_⟩)
           | (with_reducible refine ⟨_, hasr_fn ⟨_, _⟩ _, ?_⟩)
           | (with_reducible refine ⟨_, node_fn _ _, ?_⟩)
           | (with_reducible refine ⟨_, parts_fn _ _ (plan_len (by assumption)), ?_⟩)
           | (with_reducible refine ⟨_, parts_fn _ ⟨_, _⟩ (plan_len (by assumption)), ?_⟩)
           | (with_reducible refine Br.mk (fun hb => ?_) (fun hb => ?_) <;> (try rw [hb]) <;> (try simp only [List.length_map, decide_eq_true_eq, decide_eq_false_iff_not, Bool.not_eq_true', Bool.not_eq_false', Int.ofNat_lt, Int.ofNat_le, Int.not_lt, Int.not_le, Int.toNat_natCast] at hb))
           | ((with_reducible refine And.intro ?_ ?_); (focus (first | omega | (intro r hr; simp only [List.mem_singleton] at hr; subst hr; rfl)  | (simp only [in64]; omega) | assumption | (simp; done) | (simp [V.cells]; done) | (simp [in64, maxLen] at *; omega) | rfl)))
           | (intro row hrow; (try simp only [Int.toNat_natCast, List.length_map, toNat_pred, toNat_succ', toNat_zero', toNat_one'] at hrow); (first | (have hsm := same_map (by assumption) hrow; subst hsm; clear hrow) | (obtain ⟨p, hp, rfl⟩ := of_map hrow; clear hrow)))
           | (with_reducible refine AW.seq ?_) | (with_reducible refine AW.region base (by kernel_rfl) ?_) | (with_reducible refine AW.cond ?_) | (with_reducible refine AW.block ?_) | (with_reducible refine AW.ret ?_) | (with_reducible refine AW.exit ?_) | (with_reducible refine AW.skip ?_))))

    all_goals (try (conv => whnf))
    all_goals first
      | (exfalso; have := parts_within hpl his (by assumption : (parts l s)[k]? = some _); simp_all; done)
      | (exfalso; have := parts_touches hpl his (by omega) (by assumption : (parts l s)[k - 1]? = some _) (by assumption : (parts l s)[k]? = some _); simp_all; done)
      | (exfalso; have := parts_node hpl his (by assumption : (parts l s)[k]? = some _) (by assumption); simp_all; done)
      | (have hn := hits_next key (by assumption : (parts l s)[k]? = some _); split at hn <;> first | (exfalso; simp_all; done) | (refine ⟨k + 1, by omega, by omega, ?_⟩; (refine ⟨rfl, ?_, ?_, ?_⟩ <;> (repeat (first | exact trivial | (refine And.intro (And.intro ?_ rfl) ?_; (focus (first | rfl | (simp; done) | (refine congrArg (V.int .i64) ?_; omega)))) | (refine And.intro ⟨_, rfl, rfl, rfl⟩ ?_) | (refine Or.inl ⟨_, _, rfl, rfl, ?_, rfl, ?_⟩; (focus (first | rfl | (simp; done) | assumption ))) | (refine Or.inr ⟨rfl, ?_, ⟨_, ‹_›⟩, ?_⟩; (focus (first | rfl | (simp; done)))))))))
      | (have hall : hits ((parts l s).take k) key = if hasB s key then 1 else 0 := (by rw [show k = (parts l s).length by omega, List.take_length]; exact hits_all hpl his)
         rw [hall] at hb; (try rw [hall]); clear hall hhit
         cases hks : hasB s key <;> simp_all)

theorem blt_succ (k x : Bs) : blt x (k ++ [0]) = !blt k x := by
  unfold blt
  induction k generalizing x with
  | nil =>
    cases x with
    | nil => rfl
    | cons y ys => cases ys <;> simp [Op.bytesLess, UInt8.lt_iff_toNat_lt]
  | cons a k ih =>
    cases x with
    | nil => rfl
    | cons y ys =>
      simp only [List.cons_append, Op.bytesLess, ih]
      rcases Nat.lt_trichotomy y.toNat a.toNat with g | g | g
      · have e1 : y < a := UInt8.lt_iff_toNat_lt.2 g
        have e2 : ¬ a < y := fun c => by have := UInt8.lt_iff_toNat_lt.1 c; omega
        have e3 : ¬ a = y := fun c => by subst c; omega
        simp [e1, e2, e3]
      · have e1 : y = a := UInt8.toNat_inj.1 g
        subst e1
        simp
      · have e1 : a < y := UInt8.lt_iff_toNat_lt.2 g
        have e2 : ¬ y < a := fun c => by have := UInt8.lt_iff_toNat_lt.1 c; omega
        have e3 : ¬ y = a := fun c => by subst c; omega
        simp [e1, e2, e3]
theorem max_key {f k : Bs} (h : blt k f = false) : maxS f k = k := by
  unfold maxS
  split
  · rfl
  · rename_i h2
    rcases blt_total f k with g | g | g
    · exact absurd g h2
    · exact g
    · rw [h] at g; cases g
theorem isB_key {k : Bs} (h2 : k.length < 8) : isB ⟨k, k ++ [0]⟩ = true := by
  unfold isB
  simp only [List.length_append, List.length_singleton, lt_snoc, Bool.or_true, Bool.and_true, Bool.and_eq_true, decide_eq_true_eq]
  omega
theorem meet_key {p : Span} {k : Bs} (hp : isB p = true) (h1 : 1 ≤ k.length) (h2 : k.length < 8) : meetB p ⟨k, k ++ [0]⟩ = hasB p k := by
  have hk : isKeyB k = true := by
    unfold isKeyB
    simp only [Bool.and_eq_true, Bool.not_eq_true', decide_eq_false_iff_not, decide_eq_true_eq]
    exact ⟨fun h => by subst h; simp at h1, by omega⟩
  rw [meetB_eq p _ hp (isB_key h2), lim_low, hasB_eq, hp, hk]
  have h3 : lim (k ++ [0]) (maxS p.f k) = !blt k p.f := by
    simp only [lim, blt_succ, lt_max, blt_irrefl, Bool.or_false]
    simp
  rw [h3]
  cases h4 : blt k p.f with
  | true => simp
  | false => rw [max_key h4]; simp
theorem parts_filter {k : Bs} (h1 : 1 ≤ k.length) (h2 : k.length < 8) : ∀ {l : List Place}, (∀ p ∈ l, isB p.s = true) → parts l ⟨k, k ++ [0]⟩ = (l.filter fun p => hasB p.s k).map fun p => { p with s := both p.s ⟨k, k ++ [0]⟩ }
  | [], _ => rfl
  | p :: l, h => by
    have ih := parts_filter h1 h2 (l := l) fun q hq => h q (List.mem_cons_of_mem _ hq)
    rw [parts_cons, meet_key (h p List.mem_cons_self) h1 h2, ih]
    cases hq : hasB p.s k <;> simp [hq]
theorem parts_key {l : List Place} {k : Bs} (hl : isPlan l = true) (h1 : 1 ≤ k.length) (h2 : k.length < 8) : (placeAt l k).isSome = true ∧ parts l ⟨k, k ++ [0]⟩ = [{ ((placeAt l k).getD zeroP) with s := both ((placeAt l k).getD zeroP).s ⟨k, k ++ [0]⟩ }] := by
  have hk : isKeyB k = true := by
    unfold isKeyB
    simp only [Bool.and_eq_true, Bool.not_eq_true', decide_eq_false_iff_not, decide_eq_true_eq]
    exact ⟨fun h => by subst h; simp at h1, by omega⟩
  obtain ⟨u, hu⟩ := plan_one hl hk
  rw [parts_filter h1 h2 fun p hp => ((chn_of hl).all p hp).1, hu, placeAt_of hu]
  exact ⟨rfl, rfl⟩
theorem partsAll_fn (l : List Place) (hl : isPlan l = true) : Fn Try.prog 12 [.sl (l.map encP), .agg [.str [], .str []]] (.sl (l.map encP)) := by
  have := parts_fn l ⟨[], []⟩ (plan_len hl)
  rwa [parts_full fun p hp => ((chn_of hl).all p hp).1] at this
theorem partsKey_fn (l : List Place) (k : Bs) (hl : isPlan l = true) (h1 : 1 ≤ k.length) (h2 : k.length < 8) : Fn Try.prog 12 [.sl (l.map encP), .agg [.str k, .str (k ++ [0])]] (.sl [[.int .i64 ((placeAt l k).getD zeroP).id, .int .i64 ((placeAt l k).getD zeroP).epoch, .int .i64 (nodeAt l k), .str (both ((placeAt l k).getD zeroP).s ⟨k, k ++ [0]⟩).f, .str (both ((placeAt l k).getD zeroP).s ⟨k, k ++ [0]⟩).t]]) := by
  have := parts_fn l ⟨k, k ++ [0]⟩ (plan_len hl)
  rw [(parts_key hl h1 h2).2] at this
  exact this
theorem partsNil_fn : Fn Try.prog 12 [.nils, .agg [.str [], .str []]] (.sl []) := Fn.nil0 (parts_fn [] ⟨[], []⟩ (by decide))

set_option maxRecDepth 100000 in
set_option maxHeartbeats 400000 in
theorem chartAll_fn (l : List Place) (key : Bs) : Fn Try.prog 5 [.sl (l.map encP), .str key] (.bool true) := by
  refine Fn.mk' base Try.func5 rfl rfl rfl ?_
  refine AW.len 0 rfl (fun hlen => ?_)
  simp only [List.length_map, maxLen] at hlen
  repeat' (first
      | (with_reducible refine AW.seq ?_) | (with_reducible refine AW.region base (by kernel_rfl) ?_) | (with_reducible refine AW.cond ?_) | (with_reducible refine AW.block ?_) | (with_reducible refine AW.ret ?_) | (with_reducible refine AW.exit ?_) | (with_reducible refine AW.skip ?_)
      | ((conv => whnf); (first
         | (with_reducible refine Br.t ?_)
         | (with_reducible refine Br.f ?_)
         | (intro row hrow; simp only [toNat_zero', toNat_one', List.getElem?_cons_zero, List.getElem?_cons_succ, Option.some.injEq] at hrow; subst hrow)
         | (with_reducible refine ⟨_, known22_fn, ?_⟩)
         | (with_reducible refine ⟨_, isPlan_fn _, ?_⟩)
         | (with_reducible refine ⟨_, partsAll_fn _ (by assumption), ?_⟩)
         | (with_reducible refine ⟨_, partsKey_fn _ _ (by assumption) (by omega) (by omega), ?_⟩)
         | (with_reducible refine ⟨_, partsNil_fn, ?_⟩)
         | (with_reducible refine ⟨_, node_fn _ _, ?_⟩)
         | (with_reducible refine Br.mk (fun hb => ?_) (fun hb => ?_) <;> (try rw [hb]) <;> (try simp only [List.length_map, decide_eq_true_eq, decide_eq_false_iff_not, Bool.not_eq_true', Bool.not_eq_false', Int.ofNat_lt, Int.ofNat_le, Int.not_lt, Int.not_le, Int.toNat_natCast] at hb))
         | ((with_reducible refine And.intro ?_ ?_); (focus (first | omega | (intro r hr; simp only [List.mem_singleton] at hr; subst hr; rfl)  | (simp only [in64]; omega) | assumption | (simp; done) | (simp [V.cells]; done) | (simp [in64, maxLen] at *; omega) | rfl)))
         | (intro row hrow; (try simp only [Int.toNat_natCast, List.length_map, toNat_pred, toNat_succ', toNat_zero', toNat_one'] at hrow); (first | (have hsm := same_map (by assumption) hrow; subst hsm; clear hrow) | (obtain ⟨p, hp, rfl⟩ := of_map hrow; clear hrow)))
         | (with_reducible refine AW.seq ?_) | (with_reducible refine AW.region base (by kernel_rfl) ?_) | (with_reducible refine AW.cond ?_) | (with_reducible refine AW.block ?_) | (with_reducible refine AW.ret ?_) | (with_reducible refine AW.exit ?_) | (with_reducible refine AW.skip ?_))))
  all_goals (try ((conv => whnf); done))
  all_goals (try (focus (exfalso; simp at hb; done)))
  rename_i _ hpl hk1 hk2
  have hsome := (parts_key hpl (k := key) (by omega) (by omega)).1
  refine AW.loop (fun (k : Nat) => k ≤ l.length) (fun k => { env := [(0, .sl (l.map encP)), (1, .str key), (5, .sl (l.map encP)), (6, .int .i64 k)] }) (fun k => l.length - k) 0 ?_ ?_ ?_
  · exact Nat.zero_le _
  · (refine ⟨rfl, ?_, ?_, ?_⟩ <;> (repeat (first | exact trivial | (refine And.intro (And.intro ?_ rfl) ?_; (focus (first | rfl | (simp; done) | (refine congrArg (V.int .i64) ?_; omega)))) | (refine And.intro ⟨_, rfl, rfl, rfl⟩ ?_) | (refine Or.inl ⟨_, _, rfl, rfl, ?_, rfl, ?_⟩; (focus (first | rfl | (simp; done) | assumption ))) | (refine Or.inr ⟨rfl, ?_, ⟨_, ‹_›⟩, ?_⟩; (focus (first | rfl | (simp; done)))))))
  · intro k hk
    repeat' (first
        | (with_reducible refine AW.seq ?_) | (with_reducible refine AW.region base (by kernel_rfl) ?_) | (with_reducible refine AW.cond ?_) | (with_reducible refine AW.block ?_) | (with_reducible refine AW.ret ?_) | (with_reducible refine AW.exit ?_) | (with_reducible refine AW.skip ?_)
        | ((conv => whnf); (first
           | (with_reducible refine Br.t ?_)
           | (with_reducible refine Br.f ?_)
           | (intro row hrow; simp only [toNat_zero', toNat_one', List.getElem?_cons_zero, List.getElem?_cons_succ, Option.some.injEq] at hrow; subst hrow)
           | (with_reducible refine ⟨_, known22_fn, ?_⟩)
           | (with_reducible refine ⟨_, isPlan_fn _, ?_⟩)
           | (with_reducible refine ⟨_, partsAll_fn _ (by assumption), ?_⟩)
           | (with_reducible refine ⟨_, partsKey_fn _ _ (by assumption) (by omega) (by omega), ?_⟩)
           | (with_reducible refine ⟨_, partsNil_fn, ?_⟩)
           | (with_reducible refine ⟨_, node_fn _ _, ?_⟩)
           | (with_reducible refine Br.mk (fun hb => ?_) (fun hb => ?_) <;> (try rw [hb]) <;> (try simp only [List.length_map, decide_eq_true_eq, decide_eq_false_iff_not, Bool.not_eq_true', Bool.not_eq_false', Int.ofNat_lt, Int.ofNat_le, Int.not_lt, Int.not_le, Int.toNat_natCast] at hb))
           | ((with_reducible refine And.intro ?_ ?_); (focus (first | omega | (intro r hr; simp only [List.mem_singleton] at hr; subst hr; rfl)  | (simp only [in64]; omega) | assumption | (simp; done) | (simp [V.cells]; done) | (simp [in64, maxLen] at *; omega) | rfl)))
           | (intro row hrow; (try simp only [Int.toNat_natCast, List.length_map, toNat_pred, toNat_succ', toNat_zero', toNat_one'] at hrow); (first | (have hsm := same_map (by assumption) hrow; subst hsm; clear hrow) | (obtain ⟨p, hp, rfl⟩ := of_map hrow; clear hrow)))
           | (with_reducible refine AW.seq ?_) | (with_reducible refine AW.region base (by kernel_rfl) ?_) | (with_reducible refine AW.cond ?_) | (with_reducible refine AW.block ?_) | (with_reducible refine AW.ret ?_) | (with_reducible refine AW.exit ?_) | (with_reducible refine AW.skip ?_))))

    all_goals (try (conv => whnf))
    all_goals first
      | rfl
      | (exfalso; simp at hb; done)
      | (exfalso; rw [hsome] at hb; cases hb; done)
      | (refine ⟨k + 1, by omega, by omega, ?_⟩; (refine ⟨rfl, ?_, ?_, ?_⟩ <;> (repeat (first | exact trivial | (refine And.intro (And.intro ?_ rfl) ?_; (focus (first | rfl | (simp; done) | (refine congrArg (V.int .i64) ?_; omega)))) | (refine And.intro ⟨_, rfl, rfl, rfl⟩ ?_) | (refine Or.inl ⟨_, _, rfl, rfl, ?_, rfl, ?_⟩; (focus (first | rfl | (simp; done) | assumption ))) | (refine Or.inr ⟨rfl, ?_, ⟨_, ‹_›⟩, ?_⟩; (focus (first | rfl | (simp; done))))))))
end Go.Proofs.Ythcbffejjkmmfaa
