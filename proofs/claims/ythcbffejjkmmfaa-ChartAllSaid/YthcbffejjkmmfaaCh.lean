/-
  The walks of packages chart and estuaryref20: what their functions answer, in plain words. No conditions.
-/
import Derived.Test.YthcbffejjkmmfaaPl
namespace Go.Proofs.Ythcbffejjkmmfaa
open Go.RowKit
set_option linter.unusedSimpArgs false
set_option linter.unusedVariables false

def partOf (s : Span) (p : Place) : Option Place := if meetB p.s s then some { p with s := both p.s s } else none
def parts (l : List Place) (s : Span) : List Place := l.filterMap (partOf s)
theorem parts_take {l : List Place} {k : Nat} {p : Place} (s : Span) (h : l[k]? = some p) : parts (l.take (k + 1)) s = parts (l.take k) s ++ (if meetB p.s s then [{ p with s := both p.s s }] else []) := by
  obtain ⟨h1, rfl⟩ := List.getElem?_eq_some_iff.1 h
  rw [List.take_add_one, List.getElem?_eq_getElem h1]
  simp only [parts, List.filterMap_append, Option.toList, List.filterMap_cons, List.filterMap_nil, partOf]
  split <;> simp_all
theorem meet_pos {a b : Span} (h : meetB a b = true) : meet a b = both a b := by simp [meet, h]
theorem parts_len (l : List Place) (s : Span) : (parts l s).length ≤ l.length := List.length_filterMap_le _ _

set_option maxRecDepth 100000 in
set_option maxHeartbeats 400000 in
theorem atr_fn (l : List Place) (key : Bs) : Fn Try.prog 30 [.sl (l.map encP), .str key] (.tup [.agg (encP ((placeAt l key).getD zeroP)), .bool (placeAt l key).isSome]) := by
  refine Fn.mk' base Try.func30 rfl rfl rfl ?_
  refine AW.len 0 rfl (fun hlen => ?_)
  simp only [List.length_map, maxLen] at hlen
  repeat' (first
      | (with_reducible refine AW.seq ?_) | (with_reducible refine AW.region base (by kernel_rfl) ?_) | (with_reducible refine AW.cond ?_) | (with_reducible refine AW.block ?_) | (with_reducible refine AW.ret ?_) | (with_reducible refine AW.exit ?_) | (with_reducible refine AW.skip ?_)
      | ((conv => whnf); (first
         | (with_reducible refine Br.t ?_)
         | (with_reducible refine Br.f ?_)
         | (with_reducible refine Br.mk (fun hb => ?_) (fun hb => ?_) <;> (try rw [hb]) <;> (try simp only [List.length_map, decide_eq_true_eq, decide_eq_false_iff_not, Bool.not_eq_true', Bool.not_eq_false', Int.ofNat_lt, Int.ofNat_le, Int.not_lt, Int.not_le, Int.toNat_natCast] at hb))
         | ((with_reducible refine And.intro ?_ ?_); (focus (first | omega | (intro r hr; simp only [List.mem_singleton] at hr; subst hr; rfl)  | (simp only [in64]; omega) | assumption | (simp; done) | (simp [V.cells]; done) | (simp [in64, maxLen] at *; omega) | rfl)))
         | (intro row hrow; (try simp only [Int.toNat_natCast, List.length_map, toNat_pred, toNat_succ', toNat_zero', toNat_one'] at hrow); (first | (have hsm := same_map (by assumption) hrow; subst hsm; clear hrow) | (obtain ⟨p, hp, rfl⟩ := of_map hrow; clear hrow)))
         | (with_reducible refine AW.seq ?_) | (with_reducible refine AW.region base (by kernel_rfl) ?_) | (with_reducible refine AW.cond ?_) | (with_reducible refine AW.block ?_) | (with_reducible refine AW.ret ?_) | (with_reducible refine AW.exit ?_) | (with_reducible refine AW.skip ?_))))
  refine AW.loop (fun (k : Nat) => k ≤ l.length ∧ placeAt l key = (l.drop k).find? fun p => hasB p.s key) (fun k => { env := [(0, .sl (l.map encP)), (1, .str key), (4, .ptr 0 0), (6, .int .i64 k)], cells := [(0, encP zeroP)] }) (fun k => l.length - k) 0 ?_ ?_ ?_
  · exact ⟨Nat.zero_le _, rfl⟩
  · (refine ⟨rfl, ?_, ?_, ?_⟩ <;> (repeat (first | exact trivial | (refine And.intro (And.intro ?_ rfl) ?_; (focus (first | rfl | (simp; done) | (refine congrArg (V.int .i64) ?_; omega)))) | (refine And.intro ⟨_, rfl, rfl, rfl⟩ ?_) | (refine Or.inl ⟨_, _, rfl, rfl, ?_, rfl, ?_⟩; (focus (first | rfl | (simp; done) | assumption ))) | (refine Or.inr ⟨rfl, ?_, ⟨_, ‹_›⟩, ?_⟩; (focus (first | rfl | (simp; done)))))))
  · intro k hk
    repeat' (first
        | (with_reducible refine AW.seq ?_) | (with_reducible refine AW.region base (by kernel_rfl) ?_) | (with_reducible refine AW.cond ?_) | (with_reducible refine AW.block ?_) | (with_reducible refine AW.ret ?_) | (with_reducible refine AW.exit ?_) | (with_reducible refine AW.skip ?_)
        | ((conv => whnf); (first
           | (with_reducible refine Br.t ?_)
           | (with_reducible refine Br.f ?_)
           | (with_reducible refine ⟨_, hasr_fn _ _, ?_⟩)
           | (with_reducible refine ⟨_, hasr_fn ⟨_, _⟩ _, ?_⟩)
           | (with_reducible refine Br.mk (fun hb => ?_) (fun hb => ?_) <;> (try rw [hb]) <;> (try simp only [List.length_map, decide_eq_true_eq, decide_eq_false_iff_not, Bool.not_eq_true', Bool.not_eq_false', Int.ofNat_lt, Int.ofNat_le, Int.not_lt, Int.not_le, Int.toNat_natCast] at hb))
           | ((with_reducible refine And.intro ?_ ?_); (focus (first | omega | (intro r hr; simp only [List.mem_singleton] at hr; subst hr; rfl)  | (simp only [in64]; omega) | assumption | (simp; done) | (simp [V.cells]; done) | (simp [in64, maxLen] at *; omega) | rfl)))
           | (intro row hrow; (try simp only [Int.toNat_natCast, List.length_map, toNat_pred, toNat_succ', toNat_zero', toNat_one'] at hrow); (first | (have hsm := same_map (by assumption) hrow; subst hsm; clear hrow) | (obtain ⟨p, hp, rfl⟩ := of_map hrow; clear hrow)))
           | (with_reducible refine AW.seq ?_) | (with_reducible refine AW.region base (by kernel_rfl) ?_) | (with_reducible refine AW.cond ?_) | (with_reducible refine AW.block ?_) | (with_reducible refine AW.ret ?_) | (with_reducible refine AW.exit ?_) | (with_reducible refine AW.skip ?_))))
    all_goals (conv => whnf)
    · simp [hk.2, drop_get hp, hb]
    · refine ⟨k + 1, ⟨?_, ?_⟩, ?_, ?_⟩
      · omega
      · rw [hk.2, drop_get hp]; simp [hb]
      · omega
      · (refine ⟨rfl, ?_, ?_, ?_⟩ <;> (repeat (first | exact trivial | (refine And.intro (And.intro ?_ rfl) ?_; (focus (first | rfl | (simp; done) | (refine congrArg (V.int .i64) ?_; omega)))) | (refine And.intro ⟨_, rfl, rfl, rfl⟩ ?_) | (refine Or.inl ⟨_, _, rfl, rfl, ?_, rfl, ?_⟩; (focus (first | rfl | (simp; done) | assumption ))) | (refine Or.inr ⟨rfl, ?_, ⟨_, ‹_›⟩, ?_⟩; (focus (first | rfl | (simp; done)))))))
    · have : k = l.length := by omega
      simp [hk.2, this]; trivial

set_option maxRecDepth 100000 in
set_option maxHeartbeats 400000 in
theorem parts_fn (l : List Place) (s : Span) (hl : l.length ≤ 1000000) : Fn Try.prog 12 [.sl (l.map encP), .agg [.str s.f, .str s.t]] (.sl ((parts l s).map encP)) := by
  refine Fn.mk' base Try.func12 rfl rfl rfl ?_
  refine AW.len 0 rfl (fun hlen => ?_)
  simp only [List.length_map, maxLen] at hlen
  repeat' (first
      | (with_reducible refine AW.seq ?_) | (with_reducible refine AW.region base (by kernel_rfl) ?_) | (with_reducible refine AW.cond ?_) | (with_reducible refine AW.block ?_) | (with_reducible refine AW.ret ?_) | (with_reducible refine AW.exit ?_) | (with_reducible refine AW.skip ?_)
      | ((conv => whnf); (first
         | (with_reducible refine Br.t ?_)
         | (with_reducible refine Br.f ?_)
         | (with_reducible refine Br.mk (fun hb => ?_) (fun hb => ?_) <;> (try rw [hb]) <;> (try simp only [List.length_map, decide_eq_true_eq, decide_eq_false_iff_not, Bool.not_eq_true', Bool.not_eq_false', Int.ofNat_lt, Int.ofNat_le, Int.not_lt, Int.not_le, Int.toNat_natCast] at hb))
         | ((with_reducible refine And.intro ?_ ?_); (focus (first | omega | (intro r hr; simp only [List.mem_singleton] at hr; subst hr; rfl)  | (simp only [in64]; omega) | assumption | (simp; done) | (simp [V.cells]; done) | (simp [in64, maxLen] at *; omega) | rfl)))
         | (intro row hrow; (try simp only [Int.toNat_natCast, List.length_map, toNat_pred, toNat_succ', toNat_zero', toNat_one'] at hrow); (first | (have hsm := same_map (by assumption) hrow; subst hsm; clear hrow) | (obtain ⟨p, hp, rfl⟩ := of_map hrow; clear hrow)))
         | (with_reducible refine AW.seq ?_) | (with_reducible refine AW.region base (by kernel_rfl) ?_) | (with_reducible refine AW.cond ?_) | (with_reducible refine AW.block ?_) | (with_reducible refine AW.ret ?_) | (with_reducible refine AW.exit ?_) | (with_reducible refine AW.skip ?_))))
  refine AW.loop (fun (k : Nat) => k ≤ l.length) (fun k => { env := [(0, .sl (l.map encP)), (3, .ptr 0 0), (10, .sl (l.map encP)), (11, .int .i64 (l.map encP).length), (12, .int .i64 k)], own := [(5, 1, 35, (parts (l.take k) s).map encP)], cells := [(0, [.str s.f, .str s.t])] }) (fun k => l.length - k) 0 ?_ ?_ ?_
  · exact Nat.zero_le _
  · (refine ⟨rfl, ?_, ?_, ?_⟩ <;> (repeat (first | exact trivial | (refine And.intro (And.intro ?_ rfl) ?_; (focus (first | rfl | (simp; done) | (refine congrArg (V.int .i64) ?_; omega)))) | (refine And.intro ⟨_, rfl, rfl, rfl⟩ ?_) | (refine Or.inl ⟨_, _, rfl, rfl, ?_, rfl, ?_⟩; (focus (first | rfl | (simp; done) | assumption ))) | (refine Or.inr ⟨rfl, ?_, rows_of 22 rfl, ?_⟩; (focus (first | rfl | (simp; done)))))))
  · intro k hk
    repeat' (first
        | (with_reducible refine AW.seq ?_) | (with_reducible refine AW.region base (by kernel_rfl) ?_) | (with_reducible refine AW.cond ?_) | (with_reducible refine AW.block ?_) | (with_reducible refine AW.ret ?_) | (with_reducible refine AW.exit ?_) | (with_reducible refine AW.skip ?_)
        | ((conv => whnf); (first
           | (with_reducible refine Br.t ?_)
           | (with_reducible refine Br.f ?_)
           | (with_reducible refine ⟨_, meet_fn _ _, ?_⟩)
           | (with_reducible refine ⟨_, meet_fn ⟨_, _⟩ ⟨_, _⟩, ?_⟩)
           | (with_reducible refine Br.mk (fun hb => ?_) (fun hb => ?_) <;> (try rw [hb]) <;> (try simp only [List.length_map, decide_eq_true_eq, decide_eq_false_iff_not, Bool.not_eq_true', Bool.not_eq_false', Int.ofNat_lt, Int.ofNat_le, Int.not_lt, Int.not_le, Int.toNat_natCast] at hb))
           | ((with_reducible refine And.intro ?_ ?_); (focus (first | omega | (intro r hr; simp only [List.mem_singleton] at hr; subst hr; rfl)  | (simp only [List.length_map, List.length_cons, List.length_nil]; have hpl := parts_len (l.take k) s; simp only [List.length_take] at hpl; omega) | (simp only [in64]; omega) | assumption | (simp; done) | (simp [V.cells]; done) | (simp [in64, maxLen] at *; omega) | rfl)))
           | (intro row hrow; (try simp only [Int.toNat_natCast, List.length_map, toNat_pred, toNat_succ', toNat_zero', toNat_one'] at hrow); (first | (have hsm := same_map (by assumption) hrow; subst hsm; clear hrow) | (obtain ⟨p, hp, rfl⟩ := of_map hrow; clear hrow)))
           | (with_reducible refine AW.seq ?_) | (with_reducible refine AW.region base (by kernel_rfl) ?_) | (with_reducible refine AW.cond ?_) | (with_reducible refine AW.block ?_) | (with_reducible refine AW.ret ?_) | (with_reducible refine AW.exit ?_) | (with_reducible refine AW.skip ?_))))
    all_goals (conv => whnf)
    · refine ⟨k + 1, by omega, by omega, ?_⟩
      (refine ⟨rfl, ?_, ?_, ?_⟩ <;> (repeat (first | exact trivial | (refine And.intro (And.intro ?_ rfl) ?_; (focus (first | rfl | (simp; done) | (refine congrArg (V.int .i64) ?_; omega)))) | (refine And.intro ⟨_, rfl, rfl, rfl⟩ ?_) | (refine Or.inl ⟨_, _, rfl, rfl, ?_, rfl, ?_⟩; (focus (first | rfl | (simp; done) | assumption | (simp [parts_take s hp, hb, meet_pos]; try rfl)))) | (refine Or.inr ⟨rfl, ?_, rows_of 22 rfl, ?_⟩; (focus (first | rfl | (simp; done)))))))
    · refine ⟨k + 1, by omega, by omega, ?_⟩
      (refine ⟨rfl, ?_, ?_, ?_⟩ <;> (repeat (first | exact trivial | (refine And.intro (And.intro ?_ rfl) ?_; (focus (first | rfl | (simp; done) | (refine congrArg (V.int .i64) ?_; omega)))) | (refine And.intro ⟨_, rfl, rfl, rfl⟩ ?_) | (refine Or.inl ⟨_, _, rfl, rfl, ?_, rfl, ?_⟩; (focus (first | rfl | (simp; done) | assumption | (simp [parts_take s hp, hb, meet_pos]; try rfl)))) | (refine Or.inr ⟨rfl, ?_, rows_of 22 rfl, ?_⟩; (focus (first | rfl | (simp; done)))))))
    · have : k = l.length := by omega
      simp [this]; try trivial

set_option maxRecDepth 100000 in
set_option maxHeartbeats 400000 in
theorem partsr_fn (l : List Place) (s : Span) (hl : l.length ≤ 1000000) : Fn Try.prog 13 [.sl (l.map encP), .agg [.str s.f, .str s.t]] (.sl ((parts l s).map encP)) := by
  refine Fn.mk' base Try.func13 rfl rfl rfl ?_
  refine AW.len 0 rfl (fun hlen => ?_)
  simp only [List.length_map, maxLen] at hlen
  repeat' (first
      | (with_reducible refine AW.seq ?_) | (with_reducible refine AW.region base (by kernel_rfl) ?_) | (with_reducible refine AW.cond ?_) | (with_reducible refine AW.block ?_) | (with_reducible refine AW.ret ?_) | (with_reducible refine AW.exit ?_) | (with_reducible refine AW.skip ?_)
      | ((conv => whnf); (first
         | (with_reducible refine Br.t ?_)
         | (with_reducible refine Br.f ?_)
         | (with_reducible refine Br.mk (fun hb => ?_) (fun hb => ?_) <;> (try rw [hb]) <;> (try simp only [List.length_map, decide_eq_true_eq, decide_eq_false_iff_not, Bool.not_eq_true', Bool.not_eq_false', Int.ofNat_lt, Int.ofNat_le, Int.not_lt, Int.not_le, Int.toNat_natCast] at hb))
         | ((with_reducible refine And.intro ?_ ?_); (focus (first | omega | (intro r hr; simp only [List.mem_singleton] at hr; subst hr; rfl)  | (simp only [in64]; omega) | assumption | (simp; done) | (simp [V.cells]; done) | (simp [in64, maxLen] at *; omega) | rfl)))
         | (intro row hrow; (try simp only [Int.toNat_natCast, List.length_map, toNat_pred, toNat_succ', toNat_zero', toNat_one'] at hrow); (first | (have hsm := same_map (by assumption) hrow; subst hsm; clear hrow) | (obtain ⟨p, hp, rfl⟩ := of_map hrow; clear hrow)))
         | (with_reducible refine AW.seq ?_) | (with_reducible refine AW.region base (by kernel_rfl) ?_) | (with_reducible refine AW.cond ?_) | (with_reducible refine AW.block ?_) | (with_reducible refine AW.ret ?_) | (with_reducible refine AW.exit ?_) | (with_reducible refine AW.skip ?_))))
  refine AW.loop (fun (k : Nat) => k ≤ l.length) (fun k => { env := [(0, .sl (l.map encP)), (3, .ptr 0 0), (6, .int .i64 k)], own := [(5, 1, 35, (parts (l.take k) s).map encP)], cells := [(0, [.str s.f, .str s.t])] }) (fun k => l.length - k) 0 ?_ ?_ ?_
  · exact Nat.zero_le _
  · (refine ⟨rfl, ?_, ?_, ?_⟩ <;> (repeat (first | exact trivial | (refine And.intro (And.intro ?_ rfl) ?_; (focus (first | rfl | (simp; done) | (refine congrArg (V.int .i64) ?_; omega)))) | (refine And.intro ⟨_, rfl, rfl, rfl⟩ ?_) | (refine Or.inl ⟨_, _, rfl, rfl, ?_, rfl, ?_⟩; (focus (first | rfl | (simp; done) | assumption ))) | (refine Or.inr ⟨rfl, ?_, rows_of 22 rfl, ?_⟩; (focus (first | rfl | (simp; done)))))))
  · intro k hk
    repeat' (first
        | (with_reducible refine AW.seq ?_) | (with_reducible refine AW.region base (by kernel_rfl) ?_) | (with_reducible refine AW.cond ?_) | (with_reducible refine AW.block ?_) | (with_reducible refine AW.ret ?_) | (with_reducible refine AW.exit ?_) | (with_reducible refine AW.skip ?_)
        | ((conv => whnf); (first
           | (with_reducible refine Br.t ?_)
           | (with_reducible refine Br.f ?_)
           | (with_reducible refine ⟨_, meetr_fn _ _, ?_⟩)
           | (with_reducible refine ⟨_, meetr_fn ⟨_, _⟩ ⟨_, _⟩, ?_⟩)
           | (with_reducible refine Br.mk (fun hb => ?_) (fun hb => ?_) <;> (try rw [hb]) <;> (try simp only [List.length_map, decide_eq_true_eq, decide_eq_false_iff_not, Bool.not_eq_true', Bool.not_eq_false', Int.ofNat_lt, Int.ofNat_le, Int.not_lt, Int.not_le, Int.toNat_natCast] at hb))
           | ((with_reducible refine And.intro ?_ ?_); (focus (first | omega | (intro r hr; simp only [List.mem_singleton] at hr; subst hr; rfl)  | (simp only [List.length_map, List.length_cons, List.length_nil]; have hpl := parts_len (l.take k) s; simp only [List.length_take] at hpl; omega) | (simp only [in64]; omega) | assumption | (simp; done) | (simp [V.cells]; done) | (simp [in64, maxLen] at *; omega) | rfl)))
           | (intro row hrow; (try simp only [Int.toNat_natCast, List.length_map, toNat_pred, toNat_succ', toNat_zero', toNat_one'] at hrow); (first | (have hsm := same_map (by assumption) hrow; subst hsm; clear hrow) | (obtain ⟨p, hp, rfl⟩ := of_map hrow; clear hrow)))
           | (with_reducible refine AW.seq ?_) | (with_reducible refine AW.region base (by kernel_rfl) ?_) | (with_reducible refine AW.cond ?_) | (with_reducible refine AW.block ?_) | (with_reducible refine AW.ret ?_) | (with_reducible refine AW.exit ?_) | (with_reducible refine AW.skip ?_))))
    all_goals (conv => whnf)
    · refine ⟨k + 1, by omega, by omega, ?_⟩
      (refine ⟨rfl, ?_, ?_, ?_⟩ <;> (repeat (first | exact trivial | (refine And.intro (And.intro ?_ rfl) ?_; (focus (first | rfl | (simp; done) | (refine congrArg (V.int .i64) ?_; omega)))) | (refine And.intro ⟨_, rfl, rfl, rfl⟩ ?_) | (refine Or.inl ⟨_, _, rfl, rfl, ?_, rfl, ?_⟩; (focus (first | rfl | (simp; done) | assumption | (simp [parts_take s hp, hb, meet_pos]; try rfl)))) | (refine Or.inr ⟨rfl, ?_, rows_of 22 rfl, ?_⟩; (focus (first | rfl | (simp; done)))))))
    · refine ⟨k + 1, by omega, by omega, ?_⟩
      (refine ⟨rfl, ?_, ?_, ?_⟩ <;> (repeat (first | exact trivial | (refine And.intro (And.intro ?_ rfl) ?_; (focus (first | rfl | (simp; done) | (refine congrArg (V.int .i64) ?_; omega)))) | (refine And.intro ⟨_, rfl, rfl, rfl⟩ ?_) | (refine Or.inl ⟨_, _, rfl, rfl, ?_, rfl, ?_⟩; (focus (first | rfl | (simp; done) | assumption | (simp [parts_take s hp, hb, meet_pos]; try rfl)))) | (refine Or.inr ⟨rfl, ?_, rows_of 22 rfl, ?_⟩; (focus (first | rfl | (simp; done)))))))
    · have : k = l.length := by omega
      simp [this]; try trivial

def nodeAt (l : List Place) (key : Bs) : Int := ((placeAt l key).getD zeroP).node
theorem hasB_nil (s : Span) : hasB s [] = false := by simp [hasB, isKeyB]
theorem placeAt_nil (l : List Place) : placeAt l [] = none := by simp [placeAt, hasB_nil]

set_option maxRecDepth 100000 in
set_option maxHeartbeats 400000 in
theorem node_fn (l : List Place) (key : Bs) : Fn Try.prog 9 [.sl (l.map encP), .str key] (.tup [.int .i64 (nodeAt l key), .bool (placeAt l key).isSome]) := by
  refine Fn.mk' base Try.func9 rfl rfl rfl ?_
  refine AW.len 0 rfl (fun hlen => ?_)
  simp only [List.length_map, maxLen] at hlen
  repeat' (first
      | (with_reducible refine AW.seq ?_) | (with_reducible refine AW.region base (by kernel_rfl) ?_) | (with_reducible refine AW.cond ?_) | (with_reducible refine AW.block ?_) | (with_reducible refine AW.ret ?_) | (with_reducible refine AW.exit ?_) | (with_reducible refine AW.skip ?_)
      | ((conv => whnf); (first
         | (with_reducible refine Br.t ?_)
         | (with_reducible refine Br.f ?_)
         | (with_reducible refine ⟨_, at_fn _ _, ?_⟩)
         | (with_reducible refine Br.mk (fun hb => ?_) (fun hb => ?_) <;> (try rw [hb]) <;> (try simp only [List.length_map, decide_eq_true_eq, decide_eq_false_iff_not, Bool.not_eq_true', Bool.not_eq_false', Int.ofNat_lt, Int.ofNat_le, Int.not_lt, Int.not_le, Int.toNat_natCast] at hb))
         | ((with_reducible refine And.intro ?_ ?_); (focus (first | omega | (intro r hr; simp only [List.mem_singleton] at hr; subst hr; rfl)  | (simp only [in64]; omega) | assumption | (simp; done) | (simp [V.cells]; done) | (simp [in64, maxLen] at *; omega) | rfl)))
         | (intro row hrow; (try simp only [Int.toNat_natCast, List.length_map, toNat_pred, toNat_succ', toNat_zero', toNat_one'] at hrow); (first | (have hsm := same_map (by assumption) hrow; subst hsm; clear hrow) | (obtain ⟨p, hp, rfl⟩ := of_map hrow; clear hrow)))
         | (with_reducible refine AW.seq ?_) | (with_reducible refine AW.region base (by kernel_rfl) ?_) | (with_reducible refine AW.cond ?_) | (with_reducible refine AW.block ?_) | (with_reducible refine AW.ret ?_) | (with_reducible refine AW.exit ?_) | (with_reducible refine AW.skip ?_))))
  all_goals (conv => whnf)
  all_goals first
    | rfl
    | ((try simp only [decide_eq_true_eq] at *); subst_vars; first | (simp [nodeAt, placeAt_nil, zeroP]; done) | (simp only [List.length_map] at *; simp_all [nodeAt, placeAt, zeroP]; done))
    | (simp at *; subst_vars; simp [nodeAt, placeAt, zeroP])

set_option maxRecDepth 100000 in
set_option maxHeartbeats 400000 in
theorem noder_fn (l : List Place) (key : Bs) : Fn Try.prog 10 [.sl (l.map encP), .str key] (.tup [.int .i64 (nodeAt l key), .bool (placeAt l key).isSome]) := by
  refine Fn.mk' base Try.func10 rfl rfl rfl ?_
  refine AW.len 0 rfl (fun hlen => ?_)
  simp only [List.length_map, maxLen] at hlen
  repeat' (first
      | (with_reducible refine AW.seq ?_) | (with_reducible refine AW.region base (by kernel_rfl) ?_) | (with_reducible refine AW.cond ?_) | (with_reducible refine AW.block ?_) | (with_reducible refine AW.ret ?_) | (with_reducible refine AW.exit ?_) | (with_reducible refine AW.skip ?_)
      | ((conv => whnf); (first
         | (with_reducible refine Br.t ?_)
         | (with_reducible refine Br.f ?_)
         | (with_reducible refine ⟨_, atr_fn _ _, ?_⟩)
         | (with_reducible refine Br.mk (fun hb => ?_) (fun hb => ?_) <;> (try rw [hb]) <;> (try simp only [List.length_map, decide_eq_true_eq, decide_eq_false_iff_not, Bool.not_eq_true', Bool.not_eq_false', Int.ofNat_lt, Int.ofNat_le, Int.not_lt, Int.not_le, Int.toNat_natCast] at hb))
         | ((with_reducible refine And.intro ?_ ?_); (focus (first | omega | (intro r hr; simp only [List.mem_singleton] at hr; subst hr; rfl)  | (simp only [in64]; omega) | assumption | (simp; done) | (simp [V.cells]; done) | (simp [in64, maxLen] at *; omega) | rfl)))
         | (intro row hrow; (try simp only [Int.toNat_natCast, List.length_map, toNat_pred, toNat_succ', toNat_zero', toNat_one'] at hrow); (first | (have hsm := same_map (by assumption) hrow; subst hsm; clear hrow) | (obtain ⟨p, hp, rfl⟩ := of_map hrow; clear hrow)))
         | (with_reducible refine AW.seq ?_) | (with_reducible refine AW.region base (by kernel_rfl) ?_) | (with_reducible refine AW.cond ?_) | (with_reducible refine AW.block ?_) | (with_reducible refine AW.ret ?_) | (with_reducible refine AW.exit ?_) | (with_reducible refine AW.skip ?_))))
  all_goals (conv => whnf)
  all_goals first
    | rfl
    | ((try simp only [decide_eq_true_eq] at *); subst_vars; first | (simp [nodeAt, placeAt_nil, zeroP]; done) | (simp only [List.length_map] at *; simp_all [nodeAt, placeAt, zeroP]; done))
    | (simp at *; subst_vars; simp [nodeAt, placeAt, zeroP])

theorem eq_take {α : Type} {l m : List α} {k : Nat} {p q : α} (h1 : l[k]? = some p) (h2 : m[k]? = some q) (h : l.take k = m.take k) : l.take (k + 1) = m.take (k + 1) ↔ p = q := by
  rw [List.take_add_one, List.take_add_one, h1, h2, h]
  simp
theorem neq_of {α : Type} {l m : List α} {k : Nat} {p q : α} (h1 : l[k]? = some p) (h2 : m[k]? = some q) (h : ¬ p = q) : ¬ l = m := fun e => h (by subst e; rw [h1] at h2; exact Option.some.inj h2)
theorem place_ext (p q : Place) : p = q ↔ p.id = q.id ∧ p.epoch = q.epoch ∧ p.node = q.node ∧ p.s.f = q.s.f ∧ p.s.t = q.s.t := by
  obtain ⟨a, b, c, d, e⟩ := p
  obtain ⟨a', b', c', d', e'⟩ := q
  simp

set_option maxRecDepth 100000 in
set_option maxHeartbeats 400000 in
theorem samePlaces_fn (l m : List Place) : Fn Try.prog 11 [.sl (l.map encP), .sl (m.map encP)] (.bool (decide (l = m))) := by
  refine Fn.mk' base Try.func11 rfl rfl rfl ?_
  refine AW.len 0 rfl (fun hlen => ?_)
  simp only [List.length_map, maxLen] at hlen
  refine AW.len 1 rfl (fun hlen2 => ?_)
  simp only [List.length_map, maxLen] at hlen2
  repeat' (first
      | (with_reducible refine AW.seq ?_) | (with_reducible refine AW.region base (by kernel_rfl) ?_) | (with_reducible refine AW.cond ?_) | (with_reducible refine AW.block ?_) | (with_reducible refine AW.ret ?_) | (with_reducible refine AW.exit ?_) | (with_reducible refine AW.skip ?_)
      | ((conv => whnf); (first
         | (with_reducible refine Br.t ?_)
         | (with_reducible refine Br.f ?_)
         | (with_reducible refine Br.mk (fun hb => ?_) (fun hb => ?_) <;> (try rw [hb]) <;> (try simp only [List.length_map, decide_eq_true_eq, decide_eq_false_iff_not, Bool.not_eq_true', Bool.not_eq_false', Int.ofNat_lt, Int.ofNat_le, Int.not_lt, Int.not_le, Int.toNat_natCast] at hb))
         | ((with_reducible refine And.intro ?_ ?_); (focus (first | omega | (intro r hr; simp only [List.mem_singleton] at hr; subst hr; rfl)  | (simp only [in64]; omega) | assumption | (simp; done) | (simp [V.cells]; done) | (simp [in64, maxLen] at *; omega) | rfl)))
         | (intro row hrow; (try simp only [Int.toNat_natCast, List.length_map, toNat_pred, toNat_succ', toNat_zero', toNat_one'] at hrow); (first | (have hsm := same_map (by assumption) hrow; subst hsm; clear hrow) | (obtain ⟨p, hp, rfl⟩ := of_map hrow; clear hrow)))
         | (with_reducible refine AW.seq ?_) | (with_reducible refine AW.region base (by kernel_rfl) ?_) | (with_reducible refine AW.cond ?_) | (with_reducible refine AW.block ?_) | (with_reducible refine AW.ret ?_) | (with_reducible refine AW.exit ?_) | (with_reducible refine AW.skip ?_))))

  · have : ¬ l = m := fun e => by simp [e] at hb
    conv => whnf
    simp [this]
  · have hlm : l.length = m.length := by omega
    refine AW.loop (fun (k : Nat) => k ≤ l.length ∧ l.take k = m.take k) (fun k => { env := [(0, .sl (l.map encP)), (1, .sl (m.map encP)), (5, .int .i64 k)] }) (fun k => l.length - k) 0 ?_ ?_ ?_
    · exact ⟨Nat.zero_le _, rfl⟩
    · (refine ⟨rfl, ?_, ?_, ?_⟩ <;> (repeat (first | exact trivial | (refine And.intro (And.intro ?_ rfl) ?_; (focus (first | rfl | (simp; done) | (refine congrArg (V.int .i64) ?_; omega)))) | (refine And.intro ⟨_, rfl, rfl, rfl⟩ ?_) | (refine Or.inl ⟨_, _, rfl, rfl, ?_, rfl, ?_⟩; (focus (first | rfl | (simp; done) | assumption ))) | (refine Or.inr ⟨rfl, ?_, ⟨_, ‹_›⟩, ?_⟩; (focus (first | rfl | (simp; done)))))))
    · intro k hk
      have hk1 := hk.1
      repeat' (first
          | (with_reducible refine AW.seq ?_) | (with_reducible refine AW.region base (by kernel_rfl) ?_) | (with_reducible refine AW.cond ?_) | (with_reducible refine AW.block ?_) | (with_reducible refine AW.ret ?_) | (with_reducible refine AW.exit ?_) | (with_reducible refine AW.skip ?_)
          | ((conv => whnf); (first
             | (with_reducible refine Br.t ?_)
             | (with_reducible refine Br.f ?_)
             | (with_reducible refine Br.mk (fun hb => ?_) (fun hb => ?_) <;> (try rw [hb]) <;> (try simp only [List.length_map, decide_eq_true_eq, decide_eq_false_iff_not, Bool.not_eq_true', Bool.not_eq_false', Int.ofNat_lt, Int.ofNat_le, Int.not_lt, Int.not_le, Int.toNat_natCast] at hb))
             | ((with_reducible refine And.intro ?_ ?_); (focus (first | omega | (intro r hr; simp only [List.mem_singleton] at hr; subst hr; rfl)  | (simp only [in64]; omega) | assumption | (simp; done) | (simp [V.cells]; done) | (simp [in64, maxLen] at *; omega) | rfl)))
             | (intro row hrow; (try simp only [Int.toNat_natCast, List.length_map, toNat_pred, toNat_succ', toNat_zero', toNat_one'] at hrow); (first | (have hsm := same_map (by assumption) hrow; subst hsm; clear hrow) | (obtain ⟨p, hp, rfl⟩ := of_map hrow; clear hrow)))
             | (with_reducible refine AW.seq ?_) | (with_reducible refine AW.region base (by kernel_rfl) ?_) | (with_reducible refine AW.cond ?_) | (with_reducible refine AW.block ?_) | (with_reducible refine AW.ret ?_) | (with_reducible refine AW.exit ?_) | (with_reducible refine AW.skip ?_))))
      all_goals (conv => whnf)
      · rename_i _ _ p1 hp1
        have : ¬ l = m := neq_of hp1 hp (by rw [place_ext]; simpa using hb)
        simp [this]
      · rename_i _ _ p1 hp1
        refine ⟨k + 1, ⟨by omega, (eq_take hp1 hp hk.2).2 (by rw [place_ext]; simpa using hb)⟩, by omega, ?_⟩
        (refine ⟨rfl, ?_, ?_, ?_⟩ <;> (repeat (first | exact trivial | (refine And.intro (And.intro ?_ rfl) ?_; (focus (first | rfl | (simp; done) | (refine congrArg (V.int .i64) ?_; omega)))) | (refine And.intro ⟨_, rfl, rfl, rfl⟩ ?_) | (refine Or.inl ⟨_, _, rfl, rfl, ?_, rfl, ?_⟩; (focus (first | rfl | (simp; done) | assumption ))) | (refine Or.inr ⟨rfl, ?_, ⟨_, ‹_›⟩, ?_⟩; (focus (first | rfl | (simp; done)))))))
      · have : k = l.length := by omega
        have h2 := hk.2
        rw [this, List.take_length, hlm, List.take_length] at h2
        simp [h2]; try trivial

def placeB (p : Place) : Bool := decide (1 ≤ p.id) && decide (p.id ≤ 1000000000000) && decide (1 ≤ p.epoch) && decide (p.epoch ≤ 1000000) && decide (0 ≤ p.node) && decide (p.node < 3) && isB p.s
def roundB (l : List Place) (i : Nat) (p : Place) : Bool := placeB p && (decide (i = 0) || touchB (l.getD (i - 1) zeroP).s p.s) && (List.range i).all fun j => !decide ((l.getD j zeroP).id = p.id)
def headB (l : List Place) : Bool := decide (1 ≤ l.length) && decide (l.length ≤ 8) && decide ((l.getD 0 zeroP).s.f = []) && decide ((l.getD (l.length - 1) zeroP).s.t = [])
def isPlan (l : List Place) : Bool := headB l && (List.range l.length).all fun i => roundB l i (l.getD i zeroP)
theorem getD_of_get {l : List Place} {i : Nat} {p : Place} (h : l[i]? = some p) : l.getD i zeroP = p := by simp [List.getD, h]
theorem isPlan_no {l : List Place} {i : Nat} {p : Place} (h : l[i]? = some p) (hr : roundB l i p = false) : isPlan l = false := by
  have hi := (List.getElem?_eq_some_iff.1 h).1
  rw [isPlan, Bool.and_eq_false_iff]
  right
  rw [← Bool.not_eq_true, List.all_eq_true]
  intro hh
  have := hh i (List.mem_range.2 hi)
  rw [getD_of_get h, hr] at this; cases this
theorem isPlan_yes {l : List Place} (h1 : headB l = true) (h2 : ∀ i p, l[i]? = some p → roundB l i p = true) : isPlan l = true := by
  rw [isPlan, h1, Bool.true_and, List.all_eq_true]
  intro i hi
  have hi := List.mem_range.1 hi
  rw [List.getD_eq_getElem?_getD, List.getElem?_eq_getElem hi]
  exact h2 i _ (List.getElem?_eq_getElem hi)
theorem round_dup {l : List Place} {i j : Nat} {p : Place} (hj : j < i) (h : (l.getD j zeroP).id = p.id) : roundB l i p = false := by
  rw [roundB, Bool.and_eq_false_iff]
  right
  rw [← Bool.not_eq_true, List.all_eq_true]
  intro hh
  have := hh j (List.mem_range.2 hj)
  rw [h] at this; simp at this
theorem round_yes {l : List Place} {i : Nat} {p : Place} (h1 : placeB p = true) (h2 : i = 0 ∨ touchB (l.getD (i - 1) zeroP).s p.s = true) (h3 : ∀ j, j < i → (l.getD j zeroP).id ≠ p.id) : roundB l i p = true := by
  rw [roundB, h1, Bool.true_and, Bool.and_eq_true]
  refine ⟨by simpa using h2, List.all_eq_true.2 fun j hj => ?_⟩
  have := h3 j (List.mem_range.1 hj)
  simpa using this
theorem round_next {l : List Place} {k : Nat} {q : Place} (hq : l[k]? = some q) (h : roundB l k q = true) (hk : ∀ (i : Nat) (p : Place), i < k → l[i]? = some p → roundB l i p = true) : ∀ (i : Nat) (p : Place), i < k + 1 → l[i]? = some p → roundB l i p = true := fun i p hi hp => by
  rcases Nat.lt_or_ge i k with h1 | h1
  · exact hk i p h1 hp
  · have : i = k := by omega
    subst this; rw [hq] at hp; cases hp; exact h
theorem ids_next {l : List Place} {j : Nat} {n : Int} {p : Place} (hp : l[j]? = some p) (h : ¬ p.id = n) (hj : ∀ i, i < j → (l.getD i zeroP).id ≠ n) : ∀ i, i < j + 1 → (l.getD i zeroP).id ≠ n := fun i hi => by
  rcases Nat.lt_or_ge i j with h1 | h1
  · exact hj i h1
  · have : i = j := by omega
    subst this; rw [getD_of_get hp]; exact h

set_option maxRecDepth 100000 in
set_option maxHeartbeats 400000 in
theorem isPlan_fn (l : List Place) : Fn Try.prog 14 [.sl (l.map encP)] (.bool (isPlan l)) := by
  refine Fn.mk' base Try.func14 rfl rfl rfl ?_
  refine AW.len 0 rfl (fun hlen => ?_)
  simp only [List.length_map, maxLen] at hlen
  repeat' (first
      | (with_reducible refine AW.seq ?_) | (with_reducible refine AW.region base (by kernel_rfl) ?_) | (with_reducible refine AW.cond ?_) | (with_reducible refine AW.block ?_) | (with_reducible refine AW.ret ?_) | (with_reducible refine AW.exit ?_) | (with_reducible refine AW.skip ?_)
      | ((conv => whnf); (first
         | (with_reducible refine Br.t ?_)
         | (with_reducible refine Br.f ?_)
         | (with_reducible refine Br.mk (fun hb => ?_) (fun hb => ?_) <;> (try rw [hb]) <;> (try simp only [List.length_map, decide_eq_true_eq, decide_eq_false_iff_not, Bool.not_eq_true', Bool.not_eq_false', Int.ofNat_lt, Int.ofNat_le, Int.not_lt, Int.not_le, Int.toNat_natCast] at hb))
         | ((with_reducible refine And.intro ?_ ?_); (focus (first | omega | (intro r hr; simp only [List.mem_singleton] at hr; subst hr; rfl)  | (simp only [in64]; omega) | assumption | (simp; done) | (simp [V.cells]; done) | (simp [in64, maxLen] at *; omega) | rfl)))
         | (intro row hrow; (try simp only [Int.toNat_natCast, List.length_map, toNat_pred, toNat_succ', toNat_zero', toNat_one'] at hrow); (first | (have hsm := same_map (by assumption) hrow; subst hsm; clear hrow) | (obtain ⟨p, hp, rfl⟩ := of_map hrow; clear hrow)))
         | (with_reducible refine AW.seq ?_) | (with_reducible refine AW.region base (by kernel_rfl) ?_) | (with_reducible refine AW.cond ?_) | (with_reducible refine AW.block ?_) | (with_reducible refine AW.ret ?_) | (with_reducible refine AW.exit ?_) | (with_reducible refine AW.skip ?_))))

  · conv => whnf
    have : headB l = false := by grind [headB]
    simp [isPlan, this]
  · conv => whnf
    have : headB l = false := by grind [headB]
    simp [isPlan, this]
  · conv => whnf
    have : headB l = false := by have := getD_of_get hp; grind [headB]
    simp [isPlan, this]
  · conv => whnf
    have : headB l = false := by have := getD_of_get hp; grind [headB]
    simp [isPlan, this]
  · rename_i h1 h2 p0 h0p h3
    have hh : headB l = true := by have := getD_of_get hp; have := getD_of_get h0p; grind [headB]
    clear h3 hb hp h0p
    refine AW.loop (fun (k : Nat) => k ≤ l.length ∧ ∀ i p, i < k → l[i]? = some p → roundB l i p = true) (fun k => { env := [(0, .sl (l.map encP)), (3, .int .i64 k)] }) (fun k => l.length - k) 0 ?_ ?_ ?_
    · exact ⟨Nat.zero_le _, fun i p hi => by omega⟩
    · (refine ⟨rfl, ?_, ?_, ?_⟩ <;> (repeat (first | exact trivial | (refine And.intro (And.intro ?_ rfl) ?_; (focus (first | rfl | (simp; done) | (refine congrArg (V.int .i64) ?_; omega)))) | (refine And.intro ⟨_, rfl, rfl, rfl⟩ ?_) | (refine Or.inl ⟨_, _, rfl, rfl, ?_, rfl, ?_⟩; (focus (first | rfl | (simp; done) | assumption ))) | (refine Or.inr ⟨rfl, ?_, ⟨_, ‹_›⟩, ?_⟩; (focus (first | rfl | (simp; done)))))))
    · intro k hk
      have hk1 := hk.1
      repeat' (first
          | (with_reducible refine AW.seq ?_) | (with_reducible refine AW.region base (by kernel_rfl) ?_) | (with_reducible refine AW.cond ?_) | (with_reducible refine AW.block ?_) | (with_reducible refine AW.ret ?_) | (with_reducible refine AW.exit ?_) | (with_reducible refine AW.skip ?_)
          | ((conv => whnf); (first
             | (with_reducible refine Br.t ?_)
             | (with_reducible refine Br.f ?_)
             | (with_reducible refine ⟨_, isr_fn _, ?_⟩)
             | (with_reducible refine ⟨_, isr_fn ⟨_, _⟩, ?_⟩)
             | (with_reducible refine ⟨_, touchr_fn _ _, ?_⟩)
             | (with_reducible refine ⟨_, touchr_fn ⟨_, _⟩ ⟨_, _⟩, ?_⟩)
             | (with_reducible refine Br.mk (fun hb => ?_) (fun hb => ?_) <;> (try rw [hb]) <;> (try simp only [List.length_map, decide_eq_true_eq, decide_eq_false_iff_not, Bool.not_eq_true', Bool.not_eq_false', Int.ofNat_lt, Int.ofNat_le, Int.not_lt, Int.not_le, Int.toNat_natCast] at hb))
             | ((with_reducible refine And.intro ?_ ?_); (focus (first | omega | (intro r hr; simp only [List.mem_singleton] at hr; subst hr; rfl)  | (simp only [in64]; omega) | assumption | (simp; done) | (simp [V.cells]; done) | (simp [in64, maxLen] at *; omega) | rfl)))
             | (intro row hrow; (try simp only [Int.toNat_natCast, List.length_map, toNat_pred, toNat_succ', toNat_zero', toNat_one'] at hrow); (first | (have hsm := same_map (by assumption) hrow; subst hsm; clear hrow) | (obtain ⟨p, hp, rfl⟩ := of_map hrow; clear hrow)))
             | (with_reducible refine AW.seq ?_) | (with_reducible refine AW.region base (by kernel_rfl) ?_) | (with_reducible refine AW.cond ?_) | (with_reducible refine AW.block ?_) | (with_reducible refine AW.ret ?_) | (with_reducible refine AW.exit ?_) | (with_reducible refine AW.skip ?_))))

      all_goals try (conv => whnf)
      all_goals first
        | (refine congrArg V.bool (Eq.symm (isPlan_no (i := k) (by assumption) ?_)); grind [roundB, placeB, getD_of_get])
        | skip
      · rename_i q hq _ _ _ _ _ _ _ _
        have hpl : placeB q = true := by grind [placeB]
        have hto : k = 0 ∨ touchB (l.getD (k - 1) zeroP).s q.s = true := by have := getD_of_get hp; grind
        refine AW.loop (fun (j : Nat) => j ≤ k ∧ ∀ i, i < j → (l.getD i zeroP).id ≠ q.id) (fun j => { env := [(0, .sl (l.map encP)), (3, .int .i64 k), (4, .ptr 6004 0), (5, .int .i64 j)], cells := [(6004, encP q)] }) (fun j => k - j) 0 ?_ ?_ ?_
        · exact ⟨Nat.zero_le _, fun i hi => by omega⟩
        · (refine ⟨rfl, ?_, ?_, ?_⟩ <;> (repeat (first | exact trivial | (refine And.intro (And.intro ?_ rfl) ?_; (focus (first | rfl | (simp; done) | (refine congrArg (V.int .i64) ?_; omega)))) | (refine And.intro ⟨_, rfl, rfl, rfl⟩ ?_) | (refine Or.inl ⟨_, _, rfl, rfl, ?_, rfl, ?_⟩; (focus (first | rfl | (simp; done) | assumption ))) | (refine Or.inr ⟨rfl, ?_, ⟨_, ‹_›⟩, ?_⟩; (focus (first | rfl | (simp; done)))))))
        · intro j hj
          repeat' (first
              | (with_reducible refine AW.seq ?_) | (with_reducible refine AW.region base (by kernel_rfl) ?_) | (with_reducible refine AW.cond ?_) | (with_reducible refine AW.block ?_) | (with_reducible refine AW.ret ?_) | (with_reducible refine AW.exit ?_) | (with_reducible refine AW.skip ?_)
              | ((conv => whnf); (first
                 | (with_reducible refine Br.t ?_)
                 | (with_reducible refine Br.f ?_)
                 | (with_reducible refine Br.mk (fun hb => ?_) (fun hb => ?_) <;> (try rw [hb]) <;> (try simp only [List.length_map, decide_eq_true_eq, decide_eq_false_iff_not, Bool.not_eq_true', Bool.not_eq_false', Int.ofNat_lt, Int.ofNat_le, Int.not_lt, Int.not_le, Int.toNat_natCast] at hb))
                 | ((with_reducible refine And.intro ?_ ?_); (focus (first | omega | (intro r hr; simp only [List.mem_singleton] at hr; subst hr; rfl)  | (simp only [in64]; omega) | assumption | (simp; done) | (simp [V.cells]; done) | (simp [in64, maxLen] at *; omega) | rfl)))
                 | (intro row hrow; (try simp only [Int.toNat_natCast, List.length_map, toNat_pred, toNat_succ', toNat_zero', toNat_one'] at hrow); (first | (have hsm := same_map (by assumption) hrow; subst hsm; clear hrow) | (obtain ⟨p, hp, rfl⟩ := of_map hrow; clear hrow)))
                 | (with_reducible refine AW.seq ?_) | (with_reducible refine AW.region base (by kernel_rfl) ?_) | (with_reducible refine AW.cond ?_) | (with_reducible refine AW.block ?_) | (with_reducible refine AW.ret ?_) | (with_reducible refine AW.exit ?_) | (with_reducible refine AW.skip ?_))))

          all_goals (conv => whnf)
          · exact congrArg V.bool (Eq.symm (isPlan_no hq (round_dup (j := j) (by omega) (by rw [getD_of_get hp]; exact hb))))
          · refine ⟨j + 1, ⟨by omega, ids_next hp hb hj.2⟩, by omega, ?_⟩
            (refine ⟨rfl, ?_, ?_, ?_⟩ <;> (repeat (first | exact trivial | (refine And.intro (And.intro ?_ rfl) ?_; (focus (first | rfl | (simp; done) | (refine congrArg (V.int .i64) ?_; omega)))) | (refine And.intro ⟨_, rfl, rfl, rfl⟩ ?_) | (refine Or.inl ⟨_, _, rfl, rfl, ?_, rfl, ?_⟩; (focus (first | rfl | (simp; done) | assumption ))) | (refine Or.inr ⟨rfl, ?_, ⟨_, ‹_›⟩, ?_⟩; (focus (first | rfl | (simp; done)))))))
          · have hjk : j = k := by omega
            subst hjk
            refine ⟨j + 1, ⟨by omega, round_next hq (round_yes hpl hto hj.2) hk.2⟩, by omega, ?_⟩
            (refine ⟨rfl, ?_, ?_, ?_⟩ <;> (repeat (first | exact trivial | (refine And.intro (And.intro ?_ rfl) ?_; (focus (first | rfl | (simp; done) | (refine congrArg (V.int .i64) ?_; omega)))) | (refine And.intro ⟨_, rfl, rfl, rfl⟩ ?_) | (refine Or.inl ⟨_, _, rfl, rfl, ?_, rfl, ?_⟩; (focus (first | rfl | (simp; done) | assumption ))) | (refine Or.inr ⟨rfl, ?_, ⟨_, ‹_›⟩, ?_⟩; (focus (first | rfl | (simp; done)))))))
      · rename Place => q
        rename l[k]? = some q => hq
        have hpl : placeB q = true := by grind [placeB]
        have hto : k = 0 ∨ touchB (l.getD (k - 1) zeroP).s q.s = true := by omega
        refine AW.loop (fun (j : Nat) => j ≤ k ∧ ∀ i, i < j → (l.getD i zeroP).id ≠ q.id) (fun j => { env := [(0, .sl (l.map encP)), (3, .int .i64 k), (4, .ptr 6004 0), (5, .int .i64 j)], cells := [(6004, encP q)] }) (fun j => k - j) 0 ?_ ?_ ?_
        · exact ⟨Nat.zero_le _, fun i hi => by omega⟩
        · (refine ⟨rfl, ?_, ?_, ?_⟩ <;> (repeat (first | exact trivial | (refine And.intro (And.intro ?_ rfl) ?_; (focus (first | rfl | (simp; done) | (refine congrArg (V.int .i64) ?_; omega)))) | (refine And.intro ⟨_, rfl, rfl, rfl⟩ ?_) | (refine Or.inl ⟨_, _, rfl, rfl, ?_, rfl, ?_⟩; (focus (first | rfl | (simp; done) | assumption ))) | (refine Or.inr ⟨rfl, ?_, ⟨_, ‹_›⟩, ?_⟩; (focus (first | rfl | (simp; done)))))))
        · intro j hj
          repeat' (first
              | (with_reducible refine AW.seq ?_) | (with_reducible refine AW.region base (by kernel_rfl) ?_) | (with_reducible refine AW.cond ?_) | (with_reducible refine AW.block ?_) | (with_reducible refine AW.ret ?_) | (with_reducible refine AW.exit ?_) | (with_reducible refine AW.skip ?_)
              | ((conv => whnf); (first
                 | (with_reducible refine Br.t ?_)
                 | (with_reducible refine Br.f ?_)
                 | (with_reducible refine Br.mk (fun hb => ?_) (fun hb => ?_) <;> (try rw [hb]) <;> (try simp only [List.length_map, decide_eq_true_eq, decide_eq_false_iff_not, Bool.not_eq_true', Bool.not_eq_false', Int.ofNat_lt, Int.ofNat_le, Int.not_lt, Int.not_le, Int.toNat_natCast] at hb))
                 | ((with_reducible refine And.intro ?_ ?_); (focus (first | omega | (intro r hr; simp only [List.mem_singleton] at hr; subst hr; rfl)  | (simp only [in64]; omega) | assumption | (simp; done) | (simp [V.cells]; done) | (simp [in64, maxLen] at *; omega) | rfl)))
                 | (intro row hrow; (try simp only [Int.toNat_natCast, List.length_map, toNat_pred, toNat_succ', toNat_zero', toNat_one'] at hrow); (first | (have hsm := same_map (by assumption) hrow; subst hsm; clear hrow) | (obtain ⟨p, hp, rfl⟩ := of_map hrow; clear hrow)))
                 | (with_reducible refine AW.seq ?_) | (with_reducible refine AW.region base (by kernel_rfl) ?_) | (with_reducible refine AW.cond ?_) | (with_reducible refine AW.block ?_) | (with_reducible refine AW.ret ?_) | (with_reducible refine AW.exit ?_) | (with_reducible refine AW.skip ?_))))

          all_goals (conv => whnf)
          · exact congrArg V.bool (Eq.symm (isPlan_no hq (round_dup (j := j) (by omega) (by rw [getD_of_get hp]; exact hb))))
          · refine ⟨j + 1, ⟨by omega, ids_next hp hb hj.2⟩, by omega, ?_⟩
            (refine ⟨rfl, ?_, ?_, ?_⟩ <;> (repeat (first | exact trivial | (refine And.intro (And.intro ?_ rfl) ?_; (focus (first | rfl | (simp; done) | (refine congrArg (V.int .i64) ?_; omega)))) | (refine And.intro ⟨_, rfl, rfl, rfl⟩ ?_) | (refine Or.inl ⟨_, _, rfl, rfl, ?_, rfl, ?_⟩; (focus (first | rfl | (simp; done) | assumption ))) | (refine Or.inr ⟨rfl, ?_, ⟨_, ‹_›⟩, ?_⟩; (focus (first | rfl | (simp; done)))))))
          · have hjk : j = k := by omega
            subst hjk
            refine ⟨j + 1, ⟨by omega, round_next hq (round_yes hpl hto hj.2) hk.2⟩, by omega, ?_⟩
            (refine ⟨rfl, ?_, ?_, ?_⟩ <;> (repeat (first | exact trivial | (refine And.intro (And.intro ?_ rfl) ?_; (focus (first | rfl | (simp; done) | (refine congrArg (V.int .i64) ?_; omega)))) | (refine And.intro ⟨_, rfl, rfl, rfl⟩ ?_) | (refine Or.inl ⟨_, _, rfl, rfl, ?_, rfl, ?_⟩; (focus (first | rfl | (simp; done) | assumption ))) | (refine Or.inr ⟨rfl, ?_, ⟨_, ‹_›⟩, ?_⟩; (focus (first | rfl | (simp; done)))))))
      · have hkl : k = l.length := by omega
        exact congrArg V.bool (Eq.symm (isPlan_yes hh fun i p hp => hk.2 i p (by have := (List.getElem?_eq_some_iff.1 hp).1; omega) hp))

def atP (l : List Place) (n : Int) : Int := match l.findIdx? fun p => decide (p.id = n) with | some i => i | none => -1
theorem findIdx_of {α : Type} {f : α → Bool} : ∀ {l : List α} {k : Nat} {p : α}, l[k]? = some p → f p = true → (∀ i q, i < k → l[i]? = some q → f q = false) → l.findIdx? f = some k := fun {l k p} h1 h2 h3 => by
  obtain ⟨hk, rfl⟩ := List.getElem?_eq_some_iff.1 h1
  rw [List.findIdx?_eq_some_iff_getElem]
  refine ⟨hk, h2, fun j hj => ?_⟩
  have := h3 j l[j] hj (List.getElem?_eq_getElem (by omega))
  simpa using this
theorem findIdx_none {α : Type} {f : α → Bool} {l : List α} (h : ∀ i q, i < l.length → l[i]? = some q → f q = false) : l.findIdx? f = none := by
  rw [List.findIdx?_eq_none_iff]
  intro x hx
  obtain ⟨i, hi⟩ := List.getElem?_of_mem hx
  exact h i x (List.getElem?_eq_some_iff.1 hi).1 hi
theorem upto_next {α : Type} {f : α → Bool} {l : List α} {k : Nat} {p : α} (h1 : l[k]? = some p) (h2 : f p = false) (h3 : ∀ i q, i < k → l[i]? = some q → f q = false) : ∀ i q, i < k + 1 → l[i]? = some q → f q = false := fun i q hi hq => by
  rcases Nat.lt_or_ge i k with h | h
  · exact h3 i q h hq
  · have : i = k := by omega
    subst this; rw [h1] at hq; cases hq; exact h2

set_option maxRecDepth 100000 in
set_option maxHeartbeats 400000 in
theorem atIdx_fn (l : List Place) (n : Int) : Fn Try.prog 47 [.sl (l.map encP), .int .i64 n] (.int .i64 (atP l n)) := by
  refine Fn.mk' base Try.func47 rfl rfl rfl ?_
  refine AW.len 0 rfl (fun hlen => ?_)
  simp only [List.length_map, maxLen] at hlen
  repeat' (first
      | (with_reducible refine AW.seq ?_) | (with_reducible refine AW.region base (by kernel_rfl) ?_) | (with_reducible refine AW.cond ?_) | (with_reducible refine AW.block ?_) | (with_reducible refine AW.ret ?_) | (with_reducible refine AW.exit ?_) | (with_reducible refine AW.skip ?_)
      | ((conv => whnf); (first
         | (with_reducible refine Br.t ?_)
         | (with_reducible refine Br.f ?_)
         | (with_reducible refine Br.mk (fun hb => ?_) (fun hb => ?_) <;> (try rw [hb]) <;> (try simp only [List.length_map, decide_eq_true_eq, decide_eq_false_iff_not, Bool.not_eq_true', Bool.not_eq_false', Int.ofNat_lt, Int.ofNat_le, Int.not_lt, Int.not_le, Int.toNat_natCast] at hb))
         | ((with_reducible refine And.intro ?_ ?_); (focus (first | omega | (intro r hr; simp only [List.mem_singleton] at hr; subst hr; rfl)  | (simp only [in64]; omega) | assumption | (simp; done) | (simp [V.cells]; done) | (simp [in64, maxLen] at *; omega) | rfl)))
         | (intro row hrow; (try simp only [Int.toNat_natCast, List.length_map, toNat_pred, toNat_succ', toNat_zero', toNat_one'] at hrow); (first | (have hsm := same_map (by assumption) hrow; subst hsm; clear hrow) | (obtain ⟨p, hp, rfl⟩ := of_map hrow; clear hrow)))
         | (with_reducible refine AW.seq ?_) | (with_reducible refine AW.region base (by kernel_rfl) ?_) | (with_reducible refine AW.cond ?_) | (with_reducible refine AW.block ?_) | (with_reducible refine AW.ret ?_) | (with_reducible refine AW.exit ?_) | (with_reducible refine AW.skip ?_))))
  refine AW.loop (fun (k : Nat) => k ≤ l.length ∧ ∀ i q, i < k → l[i]? = some q → (fun (p : Place) => decide (p.id = n)) q = false) (fun k => { env := [(0, .sl (l.map encP)), (1, .int .i64 n), (5, .int .i64 k)] }) (fun k => l.length - k) 0 ?_ ?_ ?_
  · exact ⟨Nat.zero_le _, fun i q hi => by omega⟩
  · (refine ⟨rfl, ?_, ?_, ?_⟩ <;> (repeat (first | exact trivial | (refine And.intro (And.intro ?_ rfl) ?_; (focus (first | rfl | (simp; done) | (refine congrArg (V.int .i64) ?_; omega)))) | (refine And.intro ⟨_, rfl, rfl, rfl⟩ ?_) | (refine Or.inl ⟨_, _, rfl, rfl, ?_, rfl, ?_⟩; (focus (first | rfl | (simp; done) | assumption ))) | (refine Or.inr ⟨rfl, ?_, ⟨_, ‹_›⟩, ?_⟩; (focus (first | rfl | (simp; done)))))))
  · intro k hk
    have hk1 := hk.1
    repeat' (first
        | (with_reducible refine AW.seq ?_) | (with_reducible refine AW.region base (by kernel_rfl) ?_) | (with_reducible refine AW.cond ?_) | (with_reducible refine AW.block ?_) | (with_reducible refine AW.ret ?_) | (with_reducible refine AW.exit ?_) | (with_reducible refine AW.skip ?_)
        | ((conv => whnf); (first
           | (with_reducible refine Br.t ?_)
           | (with_reducible refine Br.f ?_)
           | (with_reducible refine Br.mk (fun hb => ?_) (fun hb => ?_) <;> (try rw [hb]) <;> (try simp only [List.length_map, decide_eq_true_eq, decide_eq_false_iff_not, Bool.not_eq_true', Bool.not_eq_false', Int.ofNat_lt, Int.ofNat_le, Int.not_lt, Int.not_le, Int.toNat_natCast] at hb))
           | ((with_reducible refine And.intro ?_ ?_); (focus (first | omega | (intro r hr; simp only [List.mem_singleton] at hr; subst hr; rfl)  | (simp only [in64]; omega) | assumption | (simp; done) | (simp [V.cells]; done) | (simp [in64, maxLen] at *; omega) | rfl)))
           | (intro row hrow; (try simp only [Int.toNat_natCast, List.length_map, toNat_pred, toNat_succ', toNat_zero', toNat_one'] at hrow); (first | (have hsm := same_map (by assumption) hrow; subst hsm; clear hrow) | (obtain ⟨p, hp, rfl⟩ := of_map hrow; clear hrow)))
           | (with_reducible refine AW.seq ?_) | (with_reducible refine AW.region base (by kernel_rfl) ?_) | (with_reducible refine AW.cond ?_) | (with_reducible refine AW.block ?_) | (with_reducible refine AW.ret ?_) | (with_reducible refine AW.exit ?_) | (with_reducible refine AW.skip ?_))))

    all_goals (conv => whnf)
    · simp [atP, findIdx_of hp (by simpa using hb) hk.2]
    · refine ⟨k + 1, ⟨by omega, upto_next hp (by simpa using hb) hk.2⟩, by omega, ?_⟩
      (refine ⟨rfl, ?_, ?_, ?_⟩ <;> (repeat (first | exact trivial | (refine And.intro (And.intro ?_ rfl) ?_; (focus (first | rfl | (simp; done) | (refine congrArg (V.int .i64) ?_; omega)))) | (refine And.intro ⟨_, rfl, rfl, rfl⟩ ?_) | (refine Or.inl ⟨_, _, rfl, rfl, ?_, rfl, ?_⟩; (focus (first | rfl | (simp; done) | assumption ))) | (refine Or.inr ⟨rfl, ?_, ⟨_, ‹_›⟩, ?_⟩; (focus (first | rfl | (simp; done)))))))
    · have hkl : k = l.length := by omega
      have := findIdx_none (fun i q hi hq => hk.2 i q (by omega) hq)
      simp [atP, this]

set_option maxRecDepth 100000 in
set_option maxHeartbeats 400000 in
theorem newr_fn  : Fn Try.prog 28 [ ] (.sl [[.int .i64 1, .int .i64 1, .int .i64 0, .str [], .str []]]) := by
  refine Fn.mk' base Try.func28 rfl rfl rfl ?_
  repeat' (first
      | (with_reducible refine AW.seq ?_) | (with_reducible refine AW.region base (by kernel_rfl) ?_) | (with_reducible refine AW.cond ?_) | (with_reducible refine AW.block ?_) | (with_reducible refine AW.ret ?_) | (with_reducible refine AW.exit ?_) | (with_reducible refine AW.skip ?_)
      | ((conv => whnf); (first
         | (with_reducible refine Br.t ?_)
         | (with_reducible refine Br.f ?_)
         | (with_reducible refine Br.mk (fun hb => ?_) (fun hb => ?_) <;> (try rw [hb]) <;> (try simp only [List.length_map, decide_eq_true_eq, decide_eq_false_iff_not, Bool.not_eq_true', Bool.not_eq_false', Int.ofNat_lt, Int.ofNat_le, Int.not_lt, Int.not_le, Int.toNat_natCast] at hb))
         | ((with_reducible refine And.intro ?_ ?_); (focus (first | omega | (intro r hr; simp only [List.mem_singleton] at hr; subst hr; rfl)  | (simp only [in64]; omega) | assumption | (simp; done) | (simp [V.cells]; done) | (simp [in64, maxLen] at *; omega) | rfl)))
         | (intro row hrow; (try simp only [Int.toNat_natCast, List.length_map, toNat_pred, toNat_succ', toNat_zero', toNat_one'] at hrow); (first | (have hsm := same_map (by assumption) hrow; subst hsm; clear hrow) | (obtain ⟨p, hp, rfl⟩ := of_map hrow; clear hrow)))
         | (with_reducible refine AW.seq ?_) | (with_reducible refine AW.region base (by kernel_rfl) ?_) | (with_reducible refine AW.cond ?_) | (with_reducible refine AW.block ?_) | (with_reducible refine AW.ret ?_) | (with_reducible refine AW.exit ?_) | (with_reducible refine AW.skip ?_))))
  conv => whnf
  rfl

def kL : List Place := [⟨2, 1, 0, ⟨[], [109]⟩⟩, ⟨3, 1, 0, ⟨[109], []⟩⟩]
theorem at1_fn : Fn Try.prog 47 [.sl [[.int .i64 1, .int .i64 1, .int .i64 0, .str [], .str []]], .int .i64 1] (.int .i64 0) := by
  have := atIdx_fn [⟨1, 1, 0, ⟨[], []⟩⟩] 1
  simpa [atP, List.findIdx?, List.findIdx?.go] using this
theorem cut1_fn : Fn Try.prog 48 [.agg [.str [], .str []], .str [109]] (.tup [.agg [.str [], .str [109]], .agg [.str [109], .str []], .bool true]) := by
  have := cutr_fn ⟨[], []⟩ [109]
  rw [if_pos (by decide), if_pos (by decide), show cutB ⟨[], []⟩ [109] = true from by decide] at this
  exact this

set_option maxRecDepth 100000 in
set_option maxHeartbeats 400000 in
theorem splitr_fn  : Fn Try.prog 27 [.sl [[.int .i64 1, .int .i64 1, .int .i64 0, .str [], .str []]], .int .i64 1, .str [109], .int .i64 2, .int .i64 3] (.sl (kL.map encP)) := by
  refine Fn.mk' base Try.func27 rfl rfl rfl ?_
  repeat' (first
      | (with_reducible refine AW.seq ?_) | (with_reducible refine AW.region base (by kernel_rfl) ?_) | (with_reducible refine AW.cond ?_) | (with_reducible refine AW.block ?_) | (with_reducible refine AW.ret ?_) | (with_reducible refine AW.exit ?_) | (with_reducible refine AW.skip ?_)
      | ((conv => whnf); (first
         | (with_reducible refine Br.t ?_)
         | (with_reducible refine Br.f ?_)
         | (intro row hrow; simp only [toNat_zero', toNat_one', List.getElem?_cons_zero, List.getElem?_cons_succ, Option.some.injEq] at hrow; subst hrow)
         | (with_reducible refine ⟨_, at1_fn, ?_⟩)
         | (with_reducible refine ⟨_, cut1_fn, ?_⟩)
         | (with_reducible refine Br.mk (fun hb => ?_) (fun hb => ?_) <;> (try rw [hb]) <;> (try simp only [List.length_map, decide_eq_true_eq, decide_eq_false_iff_not, Bool.not_eq_true', Bool.not_eq_false', Int.ofNat_lt, Int.ofNat_le, Int.not_lt, Int.not_le, Int.toNat_natCast] at hb))
         | ((with_reducible refine And.intro ?_ ?_); (focus (first | omega | (intro r hr; simp only [List.mem_singleton] at hr; subst hr; rfl)  | (simp only [in64]; omega) | assumption | (simp; done) | (simp [V.cells]; done) | (simp [in64, maxLen] at *; omega) | rfl)))
         | (intro row hrow; (try simp only [Int.toNat_natCast, List.length_map, toNat_pred, toNat_succ', toNat_zero', toNat_one'] at hrow); (first | (have hsm := same_map (by assumption) hrow; subst hsm; clear hrow) | (obtain ⟨p, hp, rfl⟩ := of_map hrow; clear hrow)))
         | (with_reducible refine AW.seq ?_) | (with_reducible refine AW.region base (by kernel_rfl) ?_) | (with_reducible refine AW.cond ?_) | (with_reducible refine AW.block ?_) | (with_reducible refine AW.ret ?_) | (with_reducible refine AW.exit ?_) | (with_reducible refine AW.skip ?_))))
  all_goals (conv => whnf)
  all_goals first | rfl | (exfalso; simp at hb; done)
end Go.Proofs.Ythcbffejjkmmfaa
