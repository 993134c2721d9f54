/-
  Walks of package op: the bytes of an op, of an answer. No conditions.
-/
import Derived.Test.YtnblecdpkbempaaGreatDoorOp
namespace Go.Proofs.YtnblecdpkbempaaGreatDoor
open Go.RowKit
set_option linter.unusedSimpArgs false
set_option linter.unusedVariables false

theorem numLe (k : Nat) (h : k < 281474976710656) : (num k).length ≤ 8 := num_len 7 k (by simpa using h)
theorem textLe (s : Bs) (h : s.length ≤ 1000000) : (text s).length ≤ 8 + s.length := by
  rw [text_len]; have := numLe s.length (by omega); omega
def wrBytes (w : Wr) : Bs := (text w.k ++ text w.v) ++ (if w.d then [1] else [0])
def wsBytes (l : List Wr) : Bs := (l.map wrBytes).flatten
def headO (o : OpV) : Bs := ((((num o.kind.toNat ++ text o.key) ++ text o.to) ++ text o.val) ++ num o.ver.toNat) ++ num o.ws.length
def bytesO (o : OpV) : Bs := headO o ++ wsBytes o.ws
def rwB (r : Rw) : Bool := decide (r.k.length ≤ 255) && decide (r.v.length ≤ 255) && decide (0 ≤ r.n) && decide (r.n < 281474976710656)
def anB (a : AnV) : Bool := decide (0 ≤ a.code) && decide (a.code < 281474976710656) && decide (0 ≤ a.ver) && decide (a.ver < 281474976710656) && decide (a.val.length ≤ 255) && decide (a.rows.length ≤ 16) && a.rows.all rwB
def rwBytes (r : Rw) : Bs := (text r.k ++ text r.v) ++ num r.n.toNat
def rsBytes (l : List Rw) : Bs := (l.map rwBytes).flatten
def headA (a : AnV) : Bs := ((num a.code.toNat ++ text a.val) ++ num a.ver.toNat) ++ num a.rows.length
def bytesA (a : AnV) : Bs := headA a ++ rsBytes a.rows
theorem flat_step {α : Type} {l : List α} {i : Nat} {p : α} (f : α → Bs) (hp : l[i]? = some p) : ((l.take (i + 1)).map f).flatten = ((l.take i).map f).flatten ++ f p := by
  rw [take_get hp, List.map_append, List.flatten_append]; simp
theorem key_len {k : Bs} (h : isKeyB k = true) : k.length ≤ 8 := by
  simp only [isKeyB, Bool.and_eq_true, decide_eq_true_eq] at h; exact h.2
theorem an_bounds {a : AnV} (h : anB a = true) : (0 ≤ a.code ∧ a.code < 281474976710656) ∧ (0 ≤ a.ver ∧ a.ver < 281474976710656) ∧ a.val.length ≤ 255 ∧ a.rows.length ≤ 16 ∧ ∀ r ∈ a.rows, r.k.length ≤ 255 ∧ r.v.length ≤ 255 ∧ 0 ≤ r.n ∧ r.n < 281474976710656 := by
  simp only [anB, Bool.and_eq_true, decide_eq_true_eq, List.all_eq_true] at h
  obtain ⟨⟨⟨⟨⟨⟨h1, h2⟩, h3⟩, h4⟩, h5⟩, h6⟩, h7⟩ := h
  refine ⟨⟨h1, h2⟩, ⟨h3, h4⟩, h5, h6, fun r hr => ?_⟩
  have := h7 r hr
  simp only [rwB, Bool.and_eq_true, decide_eq_true_eq] at this
  exact ⟨this.1.1.1, this.1.1.2, this.1.2, this.2⟩

def idxR (p : Rw → Bool) : List Rw → Nat → Int
  | [], _ => -1
  | x :: r, i => if p x then i else idxR p r (i + 1)
theorem idxR_any (p : Rw → Bool) : ∀ (l : List Rw) (i : Nat), decide (0 ≤ idxR p l i) = l.any p
  | [], i => by simp [idxR]
  | x :: r, i => by
    rw [idxR, List.any_cons]
    by_cases h : p x = true
    · simp [h]
    · simp [h, idxR_any p r]
theorem anyR {c : List Rw} : (c.any fun x => !rwB x) = !c.all rwB := by
  induction c with
  | nil => rfl
  | cons x r ih => rw [List.any_cons, List.all_cons, ih]; cases rwB x <;> simp

set_option maxRecDepth 100000 in
set_option maxHeartbeats 400000 in
theorem badRow_fn (r : Rw) : Fn Tryz.prog 122 [.agg [.str r.k, .str r.v, .int .i64 r.n]] (.bool (!rwB r)) := by
  refine Fn.mk' base Tryz.func122 rfl rfl rfl ?_
  repeat' ((conv => whnf); (first
   | (with_reducible first | refine AW.seq ?_ | refine AW.region base (by kernel_rfl) ?_ | refine AW.cond ?_ | refine AW.block ?_ | refine AW.ret ?_ | refine AW.exit ?_ | refine AW.skip ?_ | refine Br.t ?_ | refine Br.f ?_)
   | ((with_reducible refine Or.inl ?_); (conv => whnf); (with_reducible refine And.intro LitSl.mk ?_))
   | refine Br.t ?_
   | refine Br.f ?_
   | (with_reducible refine Br.mk (fun hb => ?_) (fun hb => ?_) <;> (try rw [hb]) <;> (try simp only [List.length_map, decide_eq_true_eq, decide_eq_false_iff_not, Bool.not_eq_true', Bool.not_eq_false', Int.ofNat_lt, Int.ofNat_le, Int.not_lt, Int.not_le, Int.toNat_natCast] at hb))
   | ((with_reducible first | refine Or.inl (And.intro ?_ ?_) | refine And.intro ?_ ?_); (focus (first | with_reducible rfl | exact trivial | (exact ⟨rfl, trivial⟩) | (exact ⟨rfl, rfl, trivial⟩) | omega | (intro r hr; simp only [List.mem_singleton] at hr; subst hr; rfl)  | (simp only [in64]; omega) | assumption | (simp; done) | (simp [V.cells]; done) | (simp [in64, maxLen, limK] at *; omega) | ((show confB _ _ = true); kernel_rfl) | rfl)))
   | (intro row hrow; (try simp only [Int.toNat_natCast, List.length_map, toNat_pred, toNat_succ', toNat_zero', toNat_one'] at hrow); (first | (have hsm := same_map (by assumption) hrow; subst hsm; clear hrow) | (obtain ⟨p, hp, rfl⟩ := of_map hrow; clear hrow)))))
  all_goals ((conv => whnf); (first | rfl | (refine congrArg V.bool ?_; first | (simp_all [rwB]; done) | (simp_all [rwB]; omega) | (rw [rwB, decide_eq_true (show r.k.length ≤ 255 by omega), decide_eq_true (show r.v.length ≤ 255 by omega), decide_eq_true (show 0 ≤ r.n by omega), Bool.true_and, Bool.true_and, Bool.true_and]; by_cases hq : r.n < 281474976710656 <;> simp [hq] <;> omega) | (exfalso; simp_all [rwB]; omega))))

set_option maxRecDepth 100000 in
set_option maxHeartbeats 400000 in
theorem indexRow_fn (c : List Rw) : Fn Tryz.prog 143 [.sl (c.map encRw), .fn 122 []] (.int .i64 (idxR (fun x => !rwB x) c 0)) := by
  refine Fn.mk' base Tryz.func143 rfl rfl rfl ?_
  refine AW.len 0 rfl (fun hlen => ?_)
  simp only [List.length_map, maxLen] at hlen
  repeat' ((conv => whnf); (first
   | (with_reducible first | refine AW.seq ?_ | refine AW.region base (by kernel_rfl) ?_ | refine AW.cond ?_ | refine AW.block ?_ | refine AW.ret ?_ | refine AW.exit ?_ | refine AW.skip ?_ | refine Br.t ?_ | refine Br.f ?_)
   | ((with_reducible refine Or.inl ?_); (conv => whnf); (with_reducible refine And.intro LitSl.mk ?_))
   | refine Br.t ?_
   | refine Br.f ?_
   | (with_reducible refine Br.mk (fun hb => ?_) (fun hb => ?_) <;> (try rw [hb]) <;> (try simp only [List.length_map, decide_eq_true_eq, decide_eq_false_iff_not, Bool.not_eq_true', Bool.not_eq_false', Int.ofNat_lt, Int.ofNat_le, Int.not_lt, Int.not_le, Int.toNat_natCast] at hb))
   | ((with_reducible first | refine Or.inl (And.intro ?_ ?_) | refine And.intro ?_ ?_); (focus (first | with_reducible rfl | exact trivial | (exact ⟨rfl, trivial⟩) | (exact ⟨rfl, rfl, trivial⟩) | omega | (intro r hr; simp only [List.mem_singleton] at hr; subst hr; rfl)  | ((simp only [List.length_map] at *; omega)) | ((simp only [in64, maxLen] at *; omega)) | (simp only [in64]; omega) | assumption | (simp; done) | (simp [V.cells]; done) | (simp [in64, maxLen, limK] at *; omega) | ((show confB _ _ = true); kernel_rfl) | rfl)))
   | (intro row hrow; (try simp only [Int.toNat_natCast, List.length_map, toNat_pred, toNat_succ', toNat_zero', toNat_one'] at hrow); (first | (have hsm := same_map (by assumption) hrow; subst hsm; clear hrow) | (obtain ⟨p, hp, rfl⟩ := of_map hrow; clear hrow)))))
  refine AW.loop (fun (i : Nat) => i ≤ c.length ∧ idxR (fun x => !rwB x) c 0 = idxR (fun x => !rwB x) (c.drop i) i) (fun (i : Nat) => ⟨[(0, .sl (c.map encRw)), (1, .fn 122 []), (6, .sl (c.map encRw)), (7, .int .i64 ((c.map encRw).length : Int)), (8, .int .i64 (i : Int))], []⟩) (fun (i : Nat) => c.length - i) 0 ?_ ?_ ?_
  · (exact ⟨Nat.zero_le _, rfl⟩)
  · (refine ⟨⟨[], ?_⟩⟩; repeat' (first | (with_reducible rfl) | exact trivial | ((conv => whnf); (first | (with_reducible refine And.intro ?_ ?_) | (first | with_reducible rfl | ((first | refine congrArg V.str ?_ | refine congrArg (V.int _) ?_ | refine congrArg V.bool ?_ | refine congrArg V.sl ?_); (first | with_reducible rfl | omega | rfl | (simp; done))) | (first | with_reducible rfl | omega | rfl | (simp; done)) | rfl)))))
  · rintro i hk
    repeat' ((conv => whnf); (first
     | (with_reducible first | refine AW.seq ?_ | refine AW.region base (by kernel_rfl) ?_ | refine AW.cond ?_ | refine AW.block ?_ | refine AW.ret ?_ | refine AW.exit ?_ | refine AW.skip ?_ | refine Br.t ?_ | refine Br.f ?_)
     | ((with_reducible refine Or.inl ?_); (conv => whnf); (with_reducible refine And.intro LitSl.mk ?_))
     | refine Br.t ?_
     | refine Br.f ?_
     | ((with_reducible refine Or.inl ?_); (conv => whnf); (first | (with_reducible first | refine ⟨_, badRow_fn p, ?_⟩)))
     | (with_reducible refine Br.mk (fun hb => ?_) (fun hb => ?_) <;> (try rw [hb]) <;> (try simp only [List.length_map, decide_eq_true_eq, decide_eq_false_iff_not, Bool.not_eq_true', Bool.not_eq_false', Int.ofNat_lt, Int.ofNat_le, Int.not_lt, Int.not_le, Int.toNat_natCast] at hb))
     | ((with_reducible first | refine Or.inl (And.intro ?_ ?_) | refine And.intro ?_ ?_); (focus (first | with_reducible rfl | exact trivial | (exact ⟨rfl, trivial⟩) | (exact ⟨rfl, rfl, trivial⟩) | omega | (intro r hr; simp only [List.mem_singleton] at hr; subst hr; rfl)  | ((simp only [List.length_map] at *; omega)) | ((simp only [in64, maxLen] at *; omega)) | (simp only [in64]; omega) | assumption | (simp; done) | (simp [V.cells]; done) | (simp [in64, maxLen, limK] at *; omega) | ((show confB _ _ = true); kernel_rfl) | rfl)))
     | (intro row hrow; (try simp only [Int.toNat_natCast, List.length_map, toNat_pred, toNat_succ', toNat_zero', toNat_one'] at hrow); (first | (have hsm := same_map (by assumption) hrow; subst hsm; clear hrow) | (obtain ⟨p, hp, rfl⟩ := of_map hrow; clear hrow)))))
    all_goals (try first | with_reducible assumption | ((first | show (_ : Int) ≤ _ | show (_ : Nat) ≤ _ | show (_ : Int) < _ | show ¬ (_ : Int) = _); (first | omega | (simp at *; omega))) | ((show in64 _); (simp only [in64] at *; (first | omega | (simp at *; omega)))) | ((with_reducible refine And.intro ?_ ?_) <;> (first | omega | (simp at *; omega))))
    all_goals (first
      | (with_reducible exact absurd rfl (by assumption))
      | ((conv => whnf); (refine ⟨(i + 1), ?_⟩); (refine And.intro ?_ (And.intro ?_ ?_)); (focus (refine ⟨⟨[], ?_⟩⟩; repeat' (first | (with_reducible rfl) | exact trivial | ((conv => whnf); (first | (with_reducible refine And.intro ?_ ?_) | (first | with_reducible rfl | ((first | refine congrArg V.str ?_ | refine congrArg (V.int _) ?_ | refine congrArg V.bool ?_ | refine congrArg V.sl ?_); (first | with_reducible rfl | omega | rfl | (simp; done))) | (first | with_reducible rfl | omega | rfl | (simp; done)) | rfl)))))); (focus (refine ⟨by omega, ?_⟩; rw [hk.2, drop_get hp, idxR]; simp_all)); (focus (first | omega | (dsimp only; omega) | (simp; done) | (simp; omega) | (simp at *; omega))))
      | ((conv => whnf); (try (first | rfl | (exfalso; simp_all; done) | (exfalso; simp at *; omega) | (refine congrArg (V.int _) ?_; rw [hk.2, drop_get hp, idxR]; simp_all; done) | (refine congrArg (V.int _) ?_; rw [hk.2, List.drop_of_length_le (by simp at *; omega)]; rfl))); done))


set_option maxRecDepth 100000 in
set_option maxHeartbeats 400000 in
theorem containsRow_fn (c : List Rw) : Fn Tryz.prog 123 [.sl (c.map encRw), .fn 122 []] (.bool (c.any (fun x => !rwB x))) := by
  refine Fn.mk' base Tryz.func123 rfl rfl rfl ?_
  repeat' ((conv => whnf); (first
   | (with_reducible first | refine AW.seq ?_ | refine AW.region base (by kernel_rfl) ?_ | refine AW.cond ?_ | refine AW.block ?_ | refine AW.ret ?_ | refine AW.exit ?_ | refine AW.skip ?_ | refine Br.t ?_ | refine Br.f ?_)
   | ((with_reducible refine Or.inl ?_); (conv => whnf); (with_reducible refine And.intro LitSl.mk ?_))
   | refine Br.t ?_
   | refine Br.f ?_
   | ((with_reducible refine Or.inl ?_); (conv => whnf); (first | (with_reducible first | refine ⟨_, indexRow_fn _, ?_⟩)))
   | (with_reducible refine Br.mk (fun hb => ?_) (fun hb => ?_) <;> (try rw [hb]) <;> (try simp only [List.length_map, decide_eq_true_eq, decide_eq_false_iff_not, Bool.not_eq_true', Bool.not_eq_false', Int.ofNat_lt, Int.ofNat_le, Int.not_lt, Int.not_le, Int.toNat_natCast] at hb))
   | ((with_reducible first | refine Or.inl (And.intro ?_ ?_) | refine And.intro ?_ ?_); (focus (first | with_reducible rfl | exact trivial | (exact ⟨rfl, trivial⟩) | (exact ⟨rfl, rfl, trivial⟩) | omega | (intro r hr; simp only [List.mem_singleton] at hr; subst hr; rfl)  | ((simp only [List.length_map] at *; omega)) | ((simp only [in64, maxLen] at *; omega)) | (simp only [in64]; omega) | assumption | (simp; done) | (simp [V.cells]; done) | (simp [in64, maxLen, limK] at *; omega) | ((show confB _ _ = true); kernel_rfl) | rfl)))
   | (intro row hrow; (try simp only [Int.toNat_natCast, List.length_map, toNat_pred, toNat_succ', toNat_zero', toNat_one'] at hrow); (first | (have hsm := same_map (by assumption) hrow; subst hsm; clear hrow) | (obtain ⟨p, hp, rfl⟩ := of_map hrow; clear hrow)))))
  all_goals (conv => whnf)
  all_goals (first | rfl | (simp only [V.bool.injEq, V.tup.injEq, V.agg.injEq, V.str.injEq, V.int.injEq, V.sl.injEq, V.ifc.injEq, List.cons.injEq, and_true, true_and, and_self]; done) | (simp only [V.bool.injEq, V.tup.injEq, V.agg.injEq, V.str.injEq, V.int.injEq, V.sl.injEq, V.ifc.injEq, List.cons.injEq, and_true, true_and, and_self]; grind) | (simp  at *; done) | (simp  at *; grind) | (exact congrArg V.bool (idxR_any _ _ _)))

theorem an_cases (a : AnV) : anB a = (!(decide (a.code < 0) || decide (281474976710656 ≤ a.code) || decide (a.ver < 0) || decide (281474976710656 ≤ a.ver) || decide (255 < a.val.length)) && !(decide (16 < a.rows.length) || a.rows.any fun x => !rwB x)) := by
  rw [anyR, anB]
  have e : ∀ (p q : Prop) [Decidable p] [Decidable q], (p ↔ ¬ q) → decide p = !decide q := fun p q _ _ h => by by_cases hq : q <;> simp [hq, h]
  rw [e (0 ≤ a.code) (a.code < 0) (by omega), e (a.code < 281474976710656) (281474976710656 ≤ a.code) (by omega), e (0 ≤ a.ver) (a.ver < 0) (by omega), e (a.ver < 281474976710656) (281474976710656 ≤ a.ver) (by omega), e (a.val.length ≤ 255) (255 < a.val.length) (by omega), e (a.rows.length ≤ 16) (16 < a.rows.length) (by omega)]
  simp only [Bool.not_or, Bool.not_not, Bool.and_assoc]

set_option maxRecDepth 100000 in
set_option maxHeartbeats 400000 in
theorem isAnswer_fn (a : AnV) : Fn Tryz.prog 84 [.agg [.int .i64 a.code, .str a.val, .int .i64 a.ver, .sl (a.rows.map encRw)]] (.bool (anB a)) := by
  refine Fn.mk' base Tryz.func84 rfl rfl rfl ?_
  repeat' ((conv => whnf); (first
   | (with_reducible first | refine AW.seq ?_ | refine AW.region base (by kernel_rfl) ?_ | refine AW.cond ?_ | refine AW.block ?_ | refine AW.ret ?_ | refine AW.exit ?_ | refine AW.skip ?_ | refine Br.t ?_ | refine Br.f ?_)
   | ((with_reducible refine Or.inl ?_); (conv => whnf); (with_reducible refine And.intro LitSl.mk ?_))
   | refine Br.t ?_
   | refine Br.f ?_
   | ((with_reducible refine Or.inl ?_); (conv => whnf); (first | (with_reducible first | refine ⟨_, containsRow_fn _, ?_⟩)))
   | (with_reducible refine Br.mk (fun hb => ?_) (fun hb => ?_) <;> (try rw [hb]) <;> (try simp only [List.length_map, decide_eq_true_eq, decide_eq_false_iff_not, Bool.not_eq_true', Bool.not_eq_false', Int.ofNat_lt, Int.ofNat_le, Int.not_lt, Int.not_le, Int.toNat_natCast] at hb))
   | ((with_reducible first | refine Or.inl (And.intro ?_ ?_) | refine And.intro ?_ ?_); (focus (first | with_reducible rfl | exact trivial | (exact ⟨rfl, trivial⟩) | (exact ⟨rfl, rfl, trivial⟩) | omega | (intro r hr; simp only [List.mem_singleton] at hr; subst hr; rfl)  | ((simp only [List.length_map] at *; omega)) | ((simp only [in64, maxLen] at *; omega)) | (simp only [in64]; omega) | assumption | (simp; done) | (simp [V.cells]; done) | (simp [in64, maxLen, limK] at *; omega) | ((show confB _ _ = true); kernel_rfl) | rfl)))
   | (intro row hrow; (try simp only [Int.toNat_natCast, List.length_map, toNat_pred, toNat_succ', toNat_zero', toNat_one'] at hrow); (first | (have hsm := same_map (by assumption) hrow; subst hsm; clear hrow) | (obtain ⟨p, hp, rfl⟩ := of_map hrow; clear hrow)))))
  all_goals ((conv => whnf); (refine congrArg V.bool ?_; rw [an_cases]; (try simp only [List.length_map] at *); simp_all <;> omega))

set_option maxRecDepth 100000 in
set_option maxHeartbeats 400000 in
theorem anBytes_not (a : AnV) (h : anB a = false) : Fn Tryz.prog 39 [.agg [.int .i64 a.code, .str a.val, .int .i64 a.ver, .sl (a.rows.map encRw)]] (.str []) := by
  refine Fn.mk' base Tryz.func39 rfl rfl rfl ?_
  repeat' ((conv => whnf); (first
   | (with_reducible first | refine AW.seq ?_ | refine AW.region base (by kernel_rfl) ?_ | refine AW.cond ?_ | refine AW.block ?_ | refine AW.ret ?_ | refine AW.exit ?_ | refine AW.skip ?_ | refine Br.t ?_ | refine Br.f ?_)
   | (with_reducible refine Br.mkT (fun hb => (by (first | (simp at hb; done) | omega | (simp at hb; omega) | (simp only [List.length_map] at hb; omega) | (rw [h] at hb; simp at hb; done) | fail))) (fun hb => ?_))
   | (with_reducible refine Br.mkF (fun hb => (by (first | (simp at hb; done) | omega | (simp at hb; omega) | (simp only [List.length_map] at hb; omega) | (rw [h] at hb; simp at hb; done) | fail))) (fun hb => ?_))
   | ((with_reducible refine Or.inl ?_); (conv => whnf); (with_reducible refine And.intro LitSl.mk ?_))
   | refine Br.t ?_
   | refine Br.f ?_
   | ((with_reducible refine Or.inl ?_); (conv => whnf); (first | (with_reducible first | refine ⟨_, isAnswer_fn a, ?_⟩ | refine ⟨_, num_fn _ (by omega), ?_⟩ | refine ⟨_, num_fn _ (by simp; omega), ?_⟩ | refine ⟨_, text_fn _ (by omega), ?_⟩)))
   | (with_reducible refine Br.mk (fun hb => ?_) (fun hb => ?_) <;> (try rw [hb]) <;> (try simp only [List.length_map, decide_eq_true_eq, decide_eq_false_iff_not, Bool.not_eq_true', Bool.not_eq_false', Int.ofNat_lt, Int.ofNat_le, Int.not_lt, Int.not_le, Int.toNat_natCast] at hb))
   | ((with_reducible first | refine Or.inl (And.intro ?_ ?_) | refine And.intro ?_ ?_); (focus (first | with_reducible rfl | exact trivial | (exact ⟨rfl, trivial⟩) | (exact ⟨rfl, rfl, trivial⟩) | omega | (intro r hr; simp only [List.mem_singleton] at hr; subst hr; rfl)  | (simp only [in64]; omega) | assumption | (simp; done) | (simp [V.cells]; done) | (simp [in64, maxLen, limK] at *; omega) | ((show confB _ _ = true); kernel_rfl) | rfl)))
   | (intro row hrow; (try simp only [Int.toNat_natCast, List.length_map, toNat_pred, toNat_succ', toNat_zero', toNat_one'] at hrow); (first | (have hsm := same_map (by assumption) hrow; subst hsm; clear hrow) | (obtain ⟨p, hp, rfl⟩ := of_map hrow; clear hrow)))))
  all_goals (conv => whnf)
  all_goals (first | rfl | (simp only [V.bool.injEq, V.tup.injEq, V.agg.injEq, V.str.injEq, V.int.injEq, V.sl.injEq, V.ifc.injEq, List.cons.injEq, and_true, true_and, and_self]; done) | (simp only [V.bool.injEq, V.tup.injEq, V.agg.injEq, V.str.injEq, V.int.injEq, V.sl.injEq, V.ifc.injEq, List.cons.injEq, and_true, true_and, and_self]; grind) | (simp  at *; done) | (simp  at *; grind))

set_option maxRecDepth 100000 in
set_option maxHeartbeats 1000000 in
theorem anBytes_ok (a : AnV) (h : anB a = true) : Fn Tryz.prog 39 [.agg [.int .i64 a.code, .str a.val, .int .i64 a.ver, .sl (a.rows.map encRw)]] (.str (bytesA a)) := by
  refine Fn.mk' base Tryz.func39 rfl rfl rfl ?_
  obtain ⟨⟨b1, b2⟩, ⟨b3, b4⟩, b5, b8, b9⟩ := an_bounds h
  have q1 := numLe a.code.toNat (by omega)
  have q2 := textLe a.val (by omega)
  have q5 := numLe a.ver.toNat (by omega)
  have q6 := numLe a.rows.length (by omega)
  have e6 : (((a.rows.map encRw).length : Nat) : Int).toNat = a.rows.length := by simp
  repeat' ((conv => whnf); (first
   | (with_reducible first | refine AW.seq ?_ | refine AW.region base (by kernel_rfl) ?_ | refine AW.cond ?_ | refine AW.block ?_ | refine AW.ret ?_ | refine AW.exit ?_ | refine AW.skip ?_ | refine Br.t ?_ | refine Br.f ?_)
   | (with_reducible refine Br.mkT (fun hb => (by (first | (simp at hb; done) | omega | (simp at hb; omega) | (simp only [List.length_map] at hb; omega) | (rw [h] at hb; simp at hb; done) | fail))) (fun hb => ?_))
   | (with_reducible refine Br.mkF (fun hb => (by (first | (simp at hb; done) | omega | (simp at hb; omega) | (simp only [List.length_map] at hb; omega) | (rw [h] at hb; simp at hb; done) | fail))) (fun hb => ?_))
   | ((with_reducible refine Or.inl ?_); (conv => whnf); (with_reducible refine And.intro LitSl.mk ?_))
   | refine Br.t ?_
   | refine Br.f ?_
   | ((with_reducible refine Or.inl ?_); (conv => whnf); (first | (with_reducible first | refine ⟨_, isAnswer_fn a, ?_⟩ | refine ⟨_, num_fn _ (by omega), ?_⟩ | refine ⟨_, num_fn _ (by simp; omega), ?_⟩ | refine ⟨_, text_fn _ (by omega), ?_⟩)))
   | (with_reducible refine Br.mk (fun hb => ?_) (fun hb => ?_) <;> (try rw [hb]) <;> (try simp only [List.length_map, decide_eq_true_eq, decide_eq_false_iff_not, Bool.not_eq_true', Bool.not_eq_false', Int.ofNat_lt, Int.ofNat_le, Int.not_lt, Int.not_le, Int.toNat_natCast] at hb))
   | ((with_reducible first | refine Or.inl (And.intro ?_ ?_) | refine And.intro ?_ ?_); (focus (first | with_reducible rfl | exact trivial | (exact ⟨rfl, trivial⟩) | (exact ⟨rfl, rfl, trivial⟩) | omega | (intro r hr; simp only [List.mem_singleton] at hr; subst hr; rfl)  | ((simp only [List.length_map] at *; omega)) | ((rw [e6] at *; simp only [List.length_append, maxLen] at *; omega)) | ((simp only [List.length_append, maxLen] at *; omega)) | (simp only [in64]; omega) | assumption | (simp; done) | (simp [V.cells]; done) | (simp [in64, maxLen, limK] at *; omega) | ((show confB _ _ = true); kernel_rfl) | rfl)))
   | (intro row hrow; (try simp only [Int.toNat_natCast, List.length_map, toNat_pred, toNat_succ', toNat_zero', toNat_one'] at hrow); (first | (have hsm := same_map (by assumption) hrow; subst hsm; clear hrow) | (obtain ⟨p, hp, rfl⟩ := of_map hrow; clear hrow)))))
  refine AW.loop (fun (⟨i, s⟩ : Nat × Bs) => i ≤ a.rows.length ∧ s = headA a ++ rsBytes (a.rows.take i) ∧ s.length ≤ 300 + 600 * i) (fun (⟨i, s⟩ : Nat × Bs) => ⟨[(3, .str s), (26, .sl (a.rows.map encRw)), (27, .int .i64 ((a.rows.map encRw).length : Int)), (28, .int .i64 (i : Int))], []⟩) (fun (⟨i, s⟩ : Nat × Bs) => a.rows.length - i) (0, headA a) ?_ ?_ ?_
  · (refine ⟨Nat.zero_le _, by simp [rsBytes], ?_⟩; simp only [headA, List.length_append]; omega)
  · (refine ⟨⟨[], ?_⟩⟩; repeat' (first | (with_reducible rfl) | exact trivial | ((conv => whnf); (first | (with_reducible refine And.intro ?_ ?_) | (first | with_reducible rfl | ((first | refine congrArg V.str ?_ | refine congrArg (V.int _) ?_ | refine congrArg V.bool ?_ | refine congrArg V.sl ?_); (first | with_reducible rfl | omega | (simp [headA, e6]; done) | (simp [headA]; done) | rfl | (simp; done))) | (first | with_reducible rfl | omega | (simp [headA, e6]; done) | (simp [headA]; done) | rfl | (simp; done)) | rfl)))))
  · rintro ⟨i, s⟩ hk
    obtain ⟨hk1, hout, hk3⟩ := hk
    rcases (by omega : i = a.rows.length ∨ i < a.rows.length) with hi | hi
    · subst hi
      rw [List.take_length] at hout
      repeat' ((conv => whnf); (first
       | (with_reducible first | refine AW.seq ?_ | refine AW.region base (by kernel_rfl) ?_ | refine AW.cond ?_ | refine AW.block ?_ | refine AW.ret ?_ | refine AW.exit ?_ | refine AW.skip ?_ | refine Br.t ?_ | refine Br.f ?_)
       | (with_reducible refine Br.mkT (fun hb => (by (first | (simp at hb; done) | omega | (simp at hb; omega) | (simp only [List.length_map] at hb; omega) | (rw [h] at hb; simp at hb; done) | fail))) (fun hb => ?_))
       | (with_reducible refine Br.mkF (fun hb => (by (first | (simp at hb; done) | omega | (simp at hb; omega) | (simp only [List.length_map] at hb; omega) | (rw [h] at hb; simp at hb; done) | fail))) (fun hb => ?_))
       | ((with_reducible refine Or.inl ?_); (conv => whnf); (with_reducible refine And.intro LitSl.mk ?_))
       | refine Br.t ?_
       | refine Br.f ?_
       | ((with_reducible refine Or.inl ?_); (conv => whnf); (first | (with_reducible first | refine ⟨_, isAnswer_fn a, ?_⟩ | refine ⟨_, num_fn _ (by omega), ?_⟩ | refine ⟨_, num_fn _ (by simp; omega), ?_⟩ | refine ⟨_, text_fn _ (by omega), ?_⟩)))
       | (with_reducible refine Br.mk (fun hb => ?_) (fun hb => ?_) <;> (try rw [hb]) <;> (try simp only [List.length_map, decide_eq_true_eq, decide_eq_false_iff_not, Bool.not_eq_true', Bool.not_eq_false', Int.ofNat_lt, Int.ofNat_le, Int.not_lt, Int.not_le, Int.toNat_natCast] at hb))
       | ((with_reducible first | refine Or.inl (And.intro ?_ ?_) | refine And.intro ?_ ?_); (focus (first | with_reducible rfl | exact trivial | (exact ⟨rfl, trivial⟩) | (exact ⟨rfl, rfl, trivial⟩) | omega | (intro r hr; simp only [List.mem_singleton] at hr; subst hr; rfl)  | ((simp only [List.length_map] at *; omega)) | ((rw [e6] at *; simp only [List.length_append, maxLen] at *; omega)) | ((simp only [List.length_append, maxLen] at *; omega)) | (simp only [in64]; omega) | assumption | (simp; done) | (simp [V.cells]; done) | (simp [in64, maxLen, limK] at *; omega) | ((show confB _ _ = true); kernel_rfl) | rfl)))
       | (intro row hrow; (try simp only [Int.toNat_natCast, List.length_map, toNat_pred, toNat_succ', toNat_zero', toNat_one'] at hrow); (first | (have hsm := same_map (by assumption) hrow; subst hsm; clear hrow) | (obtain ⟨p, hp, rfl⟩ := of_map hrow; clear hrow)))))
      all_goals ((conv => whnf); first | (refine congrArg V.str ?_; rw [hout]; rfl) | (exfalso; simp at *; done))
    obtain ⟨p, hp⟩ : ∃ p, a.rows[i]? = some p := ⟨_, List.getElem?_eq_getElem hi⟩
    obtain ⟨w1, w2, w3, w4⟩ := b9 p (List.mem_of_getElem? hp)
    have r1 := textLe p.k (by omega)
    have r2 := textLe p.v (by omega)
    have r3 := numLe p.n.toNat (by omega)
    repeat' ((conv => whnf); (first
     | (with_reducible first | refine AW.seq ?_ | refine AW.region base (by kernel_rfl) ?_ | refine AW.cond ?_ | refine AW.block ?_ | refine AW.ret ?_ | refine AW.exit ?_ | refine AW.skip ?_ | refine Br.t ?_ | refine Br.f ?_)
     | (with_reducible refine Br.mkT (fun hb => (by (first | (simp at hb; done) | omega | (simp at hb; omega) | (simp only [List.length_map] at hb; omega) | (rw [h] at hb; simp at hb; done) | fail))) (fun hb => ?_))
     | (with_reducible refine Br.mkF (fun hb => (by (first | (simp at hb; done) | omega | (simp at hb; omega) | (simp only [List.length_map] at hb; omega) | (rw [h] at hb; simp at hb; done) | fail))) (fun hb => ?_))
     | ((with_reducible refine Or.inl ?_); (conv => whnf); (with_reducible refine And.intro LitSl.mk ?_))
     | refine Br.t ?_
     | refine Br.f ?_
     | ((with_reducible refine Or.inl ?_); (conv => whnf); (first | (with_reducible first | refine ⟨_, isAnswer_fn a, ?_⟩ | refine ⟨_, num_fn _ (by omega), ?_⟩ | refine ⟨_, num_fn _ (by simp; omega), ?_⟩ | refine ⟨_, text_fn _ (by omega), ?_⟩)))
     | (with_reducible refine Br.mk (fun hb => ?_) (fun hb => ?_) <;> (try rw [hb]) <;> (try simp only [List.length_map, decide_eq_true_eq, decide_eq_false_iff_not, Bool.not_eq_true', Bool.not_eq_false', Int.ofNat_lt, Int.ofNat_le, Int.not_lt, Int.not_le, Int.toNat_natCast] at hb))
     | ((with_reducible first | refine Or.inl (And.intro ?_ ?_) | refine And.intro ?_ ?_); (focus (first | with_reducible rfl | exact trivial | (exact ⟨rfl, trivial⟩) | (exact ⟨rfl, rfl, trivial⟩) | omega | (intro r hr; simp only [List.mem_singleton] at hr; subst hr; rfl)  | ((simp only [List.length_map] at *; omega)) | ((rw [e6] at *; simp only [List.length_append, maxLen] at *; omega)) | ((simp only [List.length_append, maxLen] at *; omega)) | (simp only [in64]; omega) | assumption | (simp; done) | (simp [V.cells]; done) | (simp [in64, maxLen, limK] at *; omega) | ((show confB _ _ = true); kernel_rfl) | rfl)))
     | (intro row hrow; (try simp only [Int.toNat_natCast, List.length_map, toNat_pred, toNat_succ', toNat_zero', toNat_one'] at hrow); (first | (have hsm := same_map (by assumption) hrow; subst hsm; clear hrow) | (obtain ⟨p, hp, rfl⟩ := of_map hrow; clear hrow)))))
    all_goals (try first | with_reducible assumption | ((first | show (_ : Int) ≤ _ | show (_ : Nat) ≤ _ | show (_ : Int) < _ | show ¬ (_ : Int) = _); (first | omega | (simp at *; omega))) | ((show in64 _); (simp only [in64] at *; (first | omega | (simp at *; omega)))) | ((with_reducible refine And.intro ?_ ?_) <;> (first | omega | (simp at *; omega))))
    all_goals (first
      | (with_reducible exact absurd rfl (by assumption))
      | ((conv => whnf); (refine ⟨(i + 1, ?_), ?_⟩); (rotate_left 1); (refine And.intro ?_ (And.intro ?_ ?_)); (focus (refine ⟨⟨[], ?_⟩⟩; repeat' (first | (with_reducible rfl) | exact trivial | ((conv => whnf); (first | (with_reducible refine And.intro ?_ ?_) | (first | with_reducible rfl | ((first | refine congrArg V.str ?_ | refine congrArg (V.int _) ?_ | refine congrArg V.bool ?_ | refine congrArg V.sl ?_); (first | with_reducible rfl | omega | (simp [headA, e6]; done) | (simp [headA]; done) | rfl | (simp; done))) | (first | with_reducible rfl | omega | (simp [headA, e6]; done) | (simp [headA]; done) | rfl | (simp; done)) | rfl)))))); (focus (refine ⟨by omega, ?_, ?_⟩; (focus (rw [hout]; simp only [rsBytes]; rw [flat_step _ hp, List.append_assoc]; rfl)); (focus (simp only [List.length_append]; omega)))); (focus (first | omega | (dsimp only; omega) | (simp; done) | (simp; omega) | (simp at *; omega))))
      | ((conv => whnf); (try (first | rfl | (exfalso; simp_all; done) | (exfalso; simp at *; omega))); done))


theorem anBytes_fn (a : AnV) : Fn Tryz.prog 39 [.agg [.int .i64 a.code, .str a.val, .int .i64 a.ver, .sl (a.rows.map encRw)]] (.str (if anB a then bytesA a else [])) := by
  cases h : anB a
  · exact anBytes_not a h
  · exact anBytes_ok a h
end Go.Proofs.YtnblecdpkbempaaGreatDoor
