/-
  Walks of packages plan and estuaryref20: plans of whatever places: where a key is, what a split makes. No conditions.
-/
import Derived.Test.YtmlfknmpapbpgaaSp
import Derived.Test.YtmlfknmpapbpgaaRepl4
namespace Go.Proofs.Ytmlfknmpapbpgaa
open Go.RowKit
set_option linter.unusedSimpArgs false
set_option linter.unusedVariables false

structure Plc where
  id : Int
  ep : Int
  nd : Int
  f : Bs
  t : Bs
  deriving DecidableEq
abbrev encP (p : Plc) : List V := [.int .i64 p.id, .int .i64 p.ep, .int .i64 p.nd, .str p.f, .str p.t]
def idxG {α : Type} (p : α → Bool) : List α → Nat → Int
  | [], _ => -1
  | x :: r, i => if p x then i else idxG p r (i + 1)

theorem dropP_get {α : Type} {l : List α} {k : Nat} {p : α} (h : l[k]? = some p) : l.drop k = p :: l.drop (k + 1) := by
  obtain ⟨h1, rfl⟩ := List.getElem?_eq_some_iff.1 h
  exact List.drop_eq_getElem_cons h1
abbrev zeroPl : Plc := ⟨0, 0, 0, [], []⟩
def placeAt (l : List Plc) (key : Bs) : Option Plc := l.find? fun p => hasB ⟨p.f, p.t⟩ key
def idP (id : Int) : Plc → Bool := fun p => decide (p.id = id)
theorem idxG_lo {α : Type} (p : α → Bool) : ∀ (l : List α) (i : Nat), idxG p l i = -1 ∨ (i : Int) ≤ idxG p l i
  | [], i => .inl rfl
  | x :: r, i => by
    rw [idxG]
    split
    · exact .inr (by omega)
    · rcases idxG_lo p r (i + 1) with h | h
      · exact .inl h
      · exact .inr (by omega)
theorem idxG_get {α : Type} (p : α → Bool) : ∀ (l : List α) (i k : Nat), idxG p l i = ((i + k : Nat) : Int) → ∃ x, l[k]? = some x ∧ p x = true
  | [], i, k, h => by simp only [idxG] at h; omega
  | x :: r, i, k, h => by
    rw [idxG] at h
    split at h
    · rename_i hx
      have : k = 0 := by omega
      subst this
      exact ⟨x, rfl, hx⟩
    · rcases Nat.eq_zero_or_pos k with h0 | h0
      · subst h0
        rcases idxG_lo p r (i + 1) with h2 | h2 <;> omega
      · obtain ⟨y, hy, hp⟩ := idxG_get p r (i + 1) (k - 1) (by rw [h]; congr 1; omega)
        refine ⟨y, ?_, hp⟩
        obtain ⟨j, rfl⟩ : ∃ j, k = j + 1 := ⟨k - 1, by omega⟩
        simpa using hy
/-- what a split makes of a plan; i: where the place is -/
def splitP (l : List Plc) (id : Int) (key : Bs) (a b : Int) : List Plc :=
  match idxG (idP id) l 0 with
  | .ofNat i => match l[i]? with
    | some p => if cutB ⟨p.f, p.t⟩ key then l.take i ++ [⟨a, 1, p.nd, p.f, key⟩, ⟨b, 1, p.nd, key, p.t⟩] ++ l.drop (i + 1) else l
    | none => l
  | .negSucc _ => l
theorem splitP_no {l : List Plc} {id : Int} {key : Bs} {a b : Int} (h : idxG (idP id) l 0 = -1) : splitP l id key a b = l := by
  rw [splitP, h]; rfl
theorem splitP_at {l : List Plc} {id : Int} {key : Bs} {a b : Int} {i : Nat} {p : Plc} (h : idxG (idP id) l 0 = (i : Int)) (hp : l[i]? = some p) : splitP l id key a b = if cutB ⟨p.f, p.t⟩ key then l.take i ++ [⟨a, 1, p.nd, p.f, key⟩, ⟨b, 1, p.nd, key, p.t⟩] ++ l.drop (i + 1) else l := by
  rw [splitP, h]
  show (match l[i]? with | some p => _ | none => l) = _
  rw [hp]
theorem rows5 (l : List Plc) : ∀ r ∈ l.map encP, r.length = 5 := fun r hr => by
  obtain ⟨a, _, rfl⟩ := List.mem_map.1 hr; rfl
theorem rows5t (l : List Plc) (n m : Nat) : ∀ r ∈ ((l.map encP).take n).drop m, r.length = 5 := fun r hr => rows5 l r (List.mem_of_mem_take (List.mem_of_mem_drop hr))
theorem cut_yes {s : Span} {k : Bs} (h : cutB s k = true) : Fn Try.prog 16 [.agg [.str s.f, .str s.t], .str k] (.tup [.agg [.str s.f, .str k], .agg [.str k, .str s.t], .bool true]) := by
  have := cut_fn s k; rw [h] at this; exact this
theorem cut_no {s : Span} {k : Bs} (h : cutB s k = false) : Fn Try.prog 16 [.agg [.str s.f, .str s.t], .str k] (.tup [.agg [.str [], .str []], .agg [.str [], .str []], .bool false]) := by
  have := cut_fn s k; rw [h] at this; exact this

set_option maxRecDepth 100000 in
set_option maxHeartbeats 400000 in
theorem findP_fn (id : Int) (p : Plc) : Fn Try.prog 24 [.agg [.int .i64 p.id, .int .i64 p.ep, .int .i64 p.nd, .str p.f, .str p.t], .elt [.int .i64 id] 0] (.bool (idP id p)) := by
  refine Fn.mk' base Try.func24 rfl rfl rfl ?_
  repeat' ((conv => whnf); (first
   | (with_reducible first | refine AW.seq ?_ | refine AW.region base (by kernel_rfl) ?_ | refine AW.cond ?_ | refine AW.block ?_ | refine AW.ret ?_ | refine AW.exit ?_ | refine AW.skip ?_ | refine Br.t ?_ | refine Br.f ?_)
   | ((with_reducible refine Or.inl ?_); (conv => whnf); (with_reducible refine And.intro LitSl.mk ?_))
   | refine Br.t ?_
   | refine Br.f ?_
   | (with_reducible refine Br.mk (fun hb => ?_) (fun hb => ?_) <;> (try rw [hb]) <;> (try simp only [List.length_map, decide_eq_true_eq, decide_eq_false_iff_not, Bool.not_eq_true', Bool.not_eq_false', Int.ofNat_lt, Int.ofNat_le, Int.not_lt, Int.not_le, Int.toNat_natCast] at hb))
   | ((with_reducible first | refine Or.inl (And.intro ?_ ?_) | refine And.intro ?_ ?_); (focus (first | with_reducible rfl | exact trivial | (exact ⟨rfl, trivial⟩) | (exact ⟨rfl, rfl, trivial⟩) | omega | (intro r hr; simp only [List.mem_singleton] at hr; subst hr; rfl)  | ((simp only [List.length_map] at *; omega)) | ((simp only [in64, maxLen] at *; omega)) | ((exact rows5 _)) | ((exact rows5t _ _ _)) | ((simp only [in64, maxLen, List.length_map] at *; omega)) | ((intro r hr; simp only [List.mem_cons, List.not_mem_nil, or_false] at hr; rcases hr with rfl | rfl <;> rfl)) | ((intro r hr; exact rows5 _ r hr)) | (simp only [in64]; omega) | assumption | (simp; done) | (simp [V.cells]; done) | (simp [in64, maxLen, limK] at *; omega) | ((show confB _ _ = true); kernel_rfl) | rfl)))
   | (intro row hrow; (try simp only [Int.toNat_natCast, List.length_map, toNat_pred, toNat_succ', toNat_zero', toNat_one'] at hrow); (first | (have hsm := same_map (by assumption) hrow; subst hsm; clear hrow) | (obtain ⟨p, hp, rfl⟩ := of_map hrow; clear hrow)))))
  all_goals (conv => whnf)
  all_goals (first | rfl | (simp only [V.bool.injEq, V.tup.injEq, V.agg.injEq, V.str.injEq, V.int.injEq, V.sl.injEq, V.ifc.injEq, List.cons.injEq, and_true, true_and, and_self, idP]; done) | (simp only [V.bool.injEq, V.tup.injEq, V.agg.injEq, V.str.injEq, V.int.injEq, V.sl.injEq, V.ifc.injEq, List.cons.injEq, and_true, true_and, and_self, idP]; grind) | (simp [idP] at *; done) | (simp [idP] at *; grind))

set_option maxRecDepth 100000 in
set_option maxHeartbeats 400000 in
theorem findIxG_fn (id : Int) (c : List Plc) : Fn Try.prog 23 [.sl (c.map encP), .fn 24 [.elt [.int .i64 id] 0]] (.int .i64 (idxG (idP id) c 0)) := by
  refine Fn.mk' base Try.func23 rfl rfl rfl ?_
  refine AW.len 0 rfl (fun hlen => ?_)
  simp only [List.length_map, maxLen] at hlen
  repeat' ((conv => whnf); (first
   | (with_reducible first | refine AW.seq ?_ | refine AW.region base (by kernel_rfl) ?_ | refine AW.cond ?_ | refine AW.block ?_ | refine AW.ret ?_ | refine AW.exit ?_ | refine AW.skip ?_ | refine Br.t ?_ | refine Br.f ?_)
   | ((with_reducible refine Or.inl ?_); (conv => whnf); (with_reducible refine And.intro LitSl.mk ?_))
   | refine Br.t ?_
   | refine Br.f ?_
   | (with_reducible refine Br.mk (fun hb => ?_) (fun hb => ?_) <;> (try rw [hb]) <;> (try simp only [List.length_map, decide_eq_true_eq, decide_eq_false_iff_not, Bool.not_eq_true', Bool.not_eq_false', Int.ofNat_lt, Int.ofNat_le, Int.not_lt, Int.not_le, Int.toNat_natCast] at hb))
   | ((with_reducible first | refine Or.inl (And.intro ?_ ?_) | refine And.intro ?_ ?_); (focus (first | with_reducible rfl | exact trivial | (exact ⟨rfl, trivial⟩) | (exact ⟨rfl, rfl, trivial⟩) | omega | (intro r hr; simp only [List.mem_singleton] at hr; subst hr; rfl)  | ((simp only [List.length_map] at *; omega)) | ((simp only [in64, maxLen] at *; omega)) | ((exact rows5 _)) | ((exact rows5t _ _ _)) | ((simp only [in64, maxLen, List.length_map] at *; omega)) | ((intro r hr; simp only [List.mem_cons, List.not_mem_nil, or_false] at hr; rcases hr with rfl | rfl <;> rfl)) | ((intro r hr; exact rows5 _ r hr)) | (simp only [in64]; omega) | assumption | (simp; done) | (simp [V.cells]; done) | (simp [in64, maxLen, limK] at *; omega) | ((show confB _ _ = true); kernel_rfl) | rfl)))
   | (intro row hrow; (try simp only [Int.toNat_natCast, List.length_map, toNat_pred, toNat_succ', toNat_zero', toNat_one'] at hrow); (first | (have hsm := same_map (by assumption) hrow; subst hsm; clear hrow) | (obtain ⟨p, hp, rfl⟩ := of_map hrow; clear hrow)))))
  refine AW.loop (fun (i : Nat) => i ≤ c.length ∧ idxG (idP id) c 0 = idxG (idP id) (c.drop i) i) (fun (i : Nat) => ⟨[(0, .sl (c.map encP)), (1, .fn 24 [.elt [.int .i64 id] 0]), (6, .sl (c.map encP)), (7, .int .i64 ((c.map encP).length : Int)), (8, .int .i64 (i : Int))], []⟩) (fun (i : Nat) => c.length - i) 0 ?_ ?_ ?_
  · (exact ⟨Nat.zero_le _, rfl⟩)
  · (refine ⟨⟨[], ?_⟩⟩; repeat' (first | (with_reducible rfl) | exact trivial | ((conv => whnf); (first | (with_reducible refine And.intro ?_ ?_) | (first | with_reducible rfl | ((first | refine congrArg V.str ?_ | refine congrArg (V.int _) ?_ | refine congrArg V.bool ?_ | refine congrArg V.sl ?_); (first | with_reducible rfl | omega | rfl | (simp; done))) | (first | with_reducible rfl | omega | rfl | (simp; done)) | rfl)))))
  · rintro i hk
    repeat' ((conv => whnf); (first
     | (with_reducible first | refine AW.seq ?_ | refine AW.region base (by kernel_rfl) ?_ | refine AW.cond ?_ | refine AW.block ?_ | refine AW.ret ?_ | refine AW.exit ?_ | refine AW.skip ?_ | refine Br.t ?_ | refine Br.f ?_)
     | ((with_reducible refine Or.inl ?_); (conv => whnf); (with_reducible refine And.intro LitSl.mk ?_))
     | refine Br.t ?_
     | refine Br.f ?_
     | ((with_reducible refine Or.inl ?_); (conv => whnf); (first | (with_reducible first | refine ⟨_, findP_fn id p, ?_⟩)))
     | (with_reducible refine Br.mk (fun hb => ?_) (fun hb => ?_) <;> (try rw [hb]) <;> (try simp only [List.length_map, decide_eq_true_eq, decide_eq_false_iff_not, Bool.not_eq_true', Bool.not_eq_false', Int.ofNat_lt, Int.ofNat_le, Int.not_lt, Int.not_le, Int.toNat_natCast] at hb))
     | ((with_reducible first | refine Or.inl (And.intro ?_ ?_) | refine And.intro ?_ ?_); (focus (first | with_reducible rfl | exact trivial | (exact ⟨rfl, trivial⟩) | (exact ⟨rfl, rfl, trivial⟩) | omega | (intro r hr; simp only [List.mem_singleton] at hr; subst hr; rfl)  | ((simp only [List.length_map] at *; omega)) | ((simp only [in64, maxLen] at *; omega)) | ((exact rows5 _)) | ((exact rows5t _ _ _)) | ((simp only [in64, maxLen, List.length_map] at *; omega)) | ((intro r hr; simp only [List.mem_cons, List.not_mem_nil, or_false] at hr; rcases hr with rfl | rfl <;> rfl)) | ((intro r hr; exact rows5 _ r hr)) | (simp only [in64]; omega) | assumption | (simp; done) | (simp [V.cells]; done) | (simp [in64, maxLen, limK] at *; omega) | ((show confB _ _ = true); kernel_rfl) | rfl)))
     | (intro row hrow; (try simp only [Int.toNat_natCast, List.length_map, toNat_pred, toNat_succ', toNat_zero', toNat_one'] at hrow); (first | (have hsm := same_map (by assumption) hrow; subst hsm; clear hrow) | (obtain ⟨p, hp, rfl⟩ := of_map hrow; clear hrow)))))
    all_goals (try first | with_reducible assumption | ((first | show (_ : Int) ≤ _ | show (_ : Nat) ≤ _ | show (_ : Int) < _ | show ¬ (_ : Int) = _); (first | omega | (simp at *; omega))) | ((show in64 _); (simp only [in64] at *; (first | omega | (simp at *; omega)))) | ((with_reducible refine And.intro ?_ ?_) <;> (first | omega | (simp at *; omega))))
    all_goals (first
      | (with_reducible exact absurd rfl (by assumption))
      | ((conv => whnf); (refine ⟨(i + 1), ?_⟩); (refine And.intro ?_ (And.intro ?_ ?_)); (focus (refine ⟨⟨[], ?_⟩⟩; repeat' (first | (with_reducible rfl) | exact trivial | ((conv => whnf); (first | (with_reducible refine And.intro ?_ ?_) | (first | with_reducible rfl | ((first | refine congrArg V.str ?_ | refine congrArg (V.int _) ?_ | refine congrArg V.bool ?_ | refine congrArg V.sl ?_); (first | with_reducible rfl | omega | rfl | (simp; done))) | (first | with_reducible rfl | omega | rfl | (simp; done)) | rfl)))))); (focus (refine ⟨by omega, ?_⟩; rw [hk.2, dropP_get hp, idxG]; simp_all)); (focus (first | omega | (dsimp only; omega) | (simp; done) | (simp; omega) | (simp at *; omega))))
      | ((conv => whnf); (try (first | rfl | (exfalso; simp_all; done) | (exfalso; simp at *; omega) | (refine congrArg (V.int _) ?_; rw [hk.2, dropP_get hp, idxG]; simp_all; done) | (refine congrArg (V.int _) ?_; rw [hk.2, List.drop_of_length_le (by simp at *; omega)]; rfl))); done))


set_option maxRecDepth 100000 in
set_option maxHeartbeats 400000 in
theorem findG_fn (id : Int) (c : List Plc) : Fn Try.prog 15 [.sl (c.map encP), .int .i64 id] (.int .i64 (idxG (idP id) c 0)) := by
  refine Fn.mk' base Try.func15 rfl rfl rfl ?_
  repeat' ((conv => whnf); (first
   | (with_reducible first | refine AW.seq ?_ | refine AW.region base (by kernel_rfl) ?_ | refine AW.cond ?_ | refine AW.block ?_ | refine AW.ret ?_ | refine AW.exit ?_ | refine AW.skip ?_ | refine Br.t ?_ | refine Br.f ?_)
   | ((with_reducible refine Or.inl ?_); (conv => whnf); (with_reducible refine And.intro LitSl.mk ?_))
   | refine Br.t ?_
   | refine Br.f ?_
   | ((with_reducible refine Or.inl ?_); (conv => whnf); (first | (with_reducible first | refine ⟨_, findIxG_fn id c, ?_⟩)))
   | (with_reducible refine Br.mk (fun hb => ?_) (fun hb => ?_) <;> (try rw [hb]) <;> (try simp only [List.length_map, decide_eq_true_eq, decide_eq_false_iff_not, Bool.not_eq_true', Bool.not_eq_false', Int.ofNat_lt, Int.ofNat_le, Int.not_lt, Int.not_le, Int.toNat_natCast] at hb))
   | ((with_reducible first | refine Or.inl (And.intro ?_ ?_) | refine And.intro ?_ ?_); (focus (first | with_reducible rfl | exact trivial | (exact ⟨rfl, trivial⟩) | (exact ⟨rfl, rfl, trivial⟩) | omega | (intro r hr; simp only [List.mem_singleton] at hr; subst hr; rfl)  | ((simp only [List.length_map] at *; omega)) | ((simp only [in64, maxLen] at *; omega)) | ((exact rows5 _)) | ((exact rows5t _ _ _)) | ((simp only [in64, maxLen, List.length_map] at *; omega)) | ((intro r hr; simp only [List.mem_cons, List.not_mem_nil, or_false] at hr; rcases hr with rfl | rfl <;> rfl)) | ((intro r hr; exact rows5 _ r hr)) | (simp only [in64]; omega) | assumption | (simp; done) | (simp [V.cells]; done) | (simp [in64, maxLen, limK] at *; omega) | ((show confB _ _ = true); kernel_rfl) | rfl)))
   | (intro row hrow; (try simp only [Int.toNat_natCast, List.length_map, toNat_pred, toNat_succ', toNat_zero', toNat_one'] at hrow); (first | (have hsm := same_map (by assumption) hrow; subst hsm; clear hrow) | (obtain ⟨p, hp, rfl⟩ := of_map hrow; clear hrow)))))
  all_goals (conv => whnf)
  all_goals (first | rfl | (simp only [V.bool.injEq, V.tup.injEq, V.agg.injEq, V.str.injEq, V.int.injEq, V.sl.injEq, V.ifc.injEq, List.cons.injEq, and_true, true_and, and_self]; done) | (simp only [V.bool.injEq, V.tup.injEq, V.agg.injEq, V.str.injEq, V.int.injEq, V.sl.injEq, V.ifc.injEq, List.cons.injEq, and_true, true_and, and_self]; grind) | (simp  at *; done) | (simp  at *; grind))

set_option maxRecDepth 100000 in
set_option maxHeartbeats 400000 in
theorem atG_fn (l : List Plc) (key : Bs) : Fn Try.prog 11 [.sl (l.map encP), .str key] (.tup [.agg (encP ((placeAt l key).getD zeroPl)), .bool (placeAt l key).isSome]) := by
  refine Fn.mk' base Try.func11 rfl rfl rfl ?_
  refine AW.len 0 rfl (fun hlen => ?_)
  simp only [List.length_map, maxLen] at hlen
  repeat' ((conv => whnf); (first
   | (with_reducible first | refine AW.seq ?_ | refine AW.region base (by kernel_rfl) ?_ | refine AW.cond ?_ | refine AW.block ?_ | refine AW.ret ?_ | refine AW.exit ?_ | refine AW.skip ?_ | refine Br.t ?_ | refine Br.f ?_)
   | ((with_reducible refine Or.inl ?_); (conv => whnf); (with_reducible refine And.intro LitSl.mk ?_))
   | refine Br.t ?_
   | refine Br.f ?_
   | (with_reducible refine Br.mk (fun hb => ?_) (fun hb => ?_) <;> (try rw [hb]) <;> (try simp only [List.length_map, decide_eq_true_eq, decide_eq_false_iff_not, Bool.not_eq_true', Bool.not_eq_false', Int.ofNat_lt, Int.ofNat_le, Int.not_lt, Int.not_le, Int.toNat_natCast] at hb))
   | ((with_reducible first | refine Or.inl (And.intro ?_ ?_) | refine And.intro ?_ ?_); (focus (first | with_reducible rfl | exact trivial | (exact ⟨rfl, trivial⟩) | (exact ⟨rfl, rfl, trivial⟩) | omega | (intro r hr; simp only [List.mem_singleton] at hr; subst hr; rfl)  | ((simp only [List.length_map] at *; omega)) | ((simp only [in64, maxLen] at *; omega)) | ((exact rows5 _)) | ((exact rows5t _ _ _)) | ((simp only [in64, maxLen, List.length_map] at *; omega)) | ((intro r hr; simp only [List.mem_cons, List.not_mem_nil, or_false] at hr; rcases hr with rfl | rfl <;> rfl)) | ((intro r hr; exact rows5 _ r hr)) | (simp only [in64]; omega) | assumption | (simp; done) | (simp [V.cells]; done) | (simp [in64, maxLen, limK] at *; omega) | ((show confB _ _ = true); kernel_rfl) | rfl)))
   | (intro row hrow; (try simp only [Int.toNat_natCast, List.length_map, toNat_pred, toNat_succ', toNat_zero', toNat_one'] at hrow); (first | (have hsm := same_map (by assumption) hrow; subst hsm; clear hrow) | (obtain ⟨p, hp, rfl⟩ := of_map hrow; clear hrow)))))
  refine AW.loop (fun (i : Nat) => i ≤ l.length ∧ placeAt l key = placeAt (l.drop i) key) (fun (i : Nat) => ⟨[(0, .sl (l.map encP)), (1, .str key), (4, .ptr 0 0), (8, .sl (l.map encP)), (9, .int .i64 ((l.map encP).length : Int)), (10, .int .i64 (i : Int))], [.cells (encP zeroPl)]⟩) (fun (i : Nat) => l.length - i) 0 ?_ ?_ ?_
  · (exact ⟨Nat.zero_le _, rfl⟩)
  · (refine ⟨⟨[1000], ?_⟩⟩; repeat' (first | (with_reducible rfl) | exact trivial | ((conv => whnf); (first | (with_reducible refine And.intro ?_ ?_) | (first | with_reducible rfl | ((first | refine congrArg V.str ?_ | refine congrArg (V.int _) ?_ | refine congrArg V.bool ?_ | refine congrArg V.sl ?_); (first | with_reducible rfl | omega | rfl | (simp; done))) | (first | with_reducible rfl | omega | rfl | (simp; done)) | rfl)))))
  · rintro i hk
    repeat' ((conv => whnf); (first
     | (with_reducible first | refine AW.seq ?_ | refine AW.region base (by kernel_rfl) ?_ | refine AW.cond ?_ | refine AW.block ?_ | refine AW.ret ?_ | refine AW.exit ?_ | refine AW.skip ?_ | refine Br.t ?_ | refine Br.f ?_)
     | ((with_reducible refine Or.inl ?_); (conv => whnf); (with_reducible refine And.intro LitSl.mk ?_))
     | refine Br.t ?_
     | refine Br.f ?_
     | ((with_reducible refine Or.inl ?_); (conv => whnf); (first | (with_reducible first | refine ⟨_, has_fn ⟨p.f, p.t⟩ key, ?_⟩)))
     | (with_reducible refine Br.mk (fun hb => ?_) (fun hb => ?_) <;> (try rw [hb]) <;> (try simp only [List.length_map, decide_eq_true_eq, decide_eq_false_iff_not, Bool.not_eq_true', Bool.not_eq_false', Int.ofNat_lt, Int.ofNat_le, Int.not_lt, Int.not_le, Int.toNat_natCast] at hb))
     | ((with_reducible first | refine Or.inl (And.intro ?_ ?_) | refine And.intro ?_ ?_); (focus (first | with_reducible rfl | exact trivial | (exact ⟨rfl, trivial⟩) | (exact ⟨rfl, rfl, trivial⟩) | omega | (intro r hr; simp only [List.mem_singleton] at hr; subst hr; rfl)  | ((simp only [List.length_map] at *; omega)) | ((simp only [in64, maxLen] at *; omega)) | ((exact rows5 _)) | ((exact rows5t _ _ _)) | ((simp only [in64, maxLen, List.length_map] at *; omega)) | ((intro r hr; simp only [List.mem_cons, List.not_mem_nil, or_false] at hr; rcases hr with rfl | rfl <;> rfl)) | ((intro r hr; exact rows5 _ r hr)) | (simp only [in64]; omega) | assumption | (simp; done) | (simp [V.cells]; done) | (simp [in64, maxLen, limK] at *; omega) | ((show confB _ _ = true); kernel_rfl) | rfl)))
     | (intro row hrow; (try simp only [Int.toNat_natCast, List.length_map, toNat_pred, toNat_succ', toNat_zero', toNat_one'] at hrow); (first | (have hsm := same_map (by assumption) hrow; subst hsm; clear hrow) | (obtain ⟨p, hp, rfl⟩ := of_map hrow; clear hrow)))))
    all_goals (try first | with_reducible assumption | ((first | show (_ : Int) ≤ _ | show (_ : Nat) ≤ _ | show (_ : Int) < _ | show ¬ (_ : Int) = _); (first | omega | (simp at *; omega))) | ((show in64 _); (simp only [in64] at *; (first | omega | (simp at *; omega)))) | ((with_reducible refine And.intro ?_ ?_) <;> (first | omega | (simp at *; omega))))
    all_goals (first
      | (with_reducible exact absurd rfl (by assumption))
      | ((conv => whnf); (refine ⟨(i + 1), ?_⟩); (refine And.intro ?_ (And.intro ?_ ?_)); (focus (refine ⟨⟨[0], ?_⟩⟩; repeat' (first | (with_reducible rfl) | exact trivial | ((conv => whnf); (first | (with_reducible refine And.intro ?_ ?_) | (first | with_reducible rfl | ((first | refine congrArg V.str ?_ | refine congrArg (V.int _) ?_ | refine congrArg V.bool ?_ | refine congrArg V.sl ?_); (first | with_reducible rfl | omega | rfl | (simp; done))) | (first | with_reducible rfl | omega | rfl | (simp; done)) | rfl)))))); (focus (refine ⟨by omega, ?_⟩; rw [hk.2, dropP_get hp]; simp_all [placeAt])); (focus (first | omega | (dsimp only; omega) | (simp; done) | (simp; omega) | (simp at *; omega))))
      | ((conv => whnf); (try (first | rfl | (exfalso; simp_all; done) | (exfalso; simp at *; omega) | (rw [hk.2, dropP_get hp]; simp_all [placeAt]; done) | (rw [hk.2, List.drop_of_length_le (by simp at *; omega)]; rfl))); done))


theorem atG_yes {l : List Plc} {key : Bs} {p : Plc} (h : placeAt l key = some p) : Fn Try.prog 11 [.sl (l.map encP), .str key] (.tup [.agg [.int .i64 p.id, .int .i64 p.ep, .int .i64 p.nd, .str p.f, .str p.t], .bool true]) := by
  have := atG_fn l key; rw [h] at this; exact this
theorem atG_no {l : List Plc} {key : Bs} (h : placeAt l key = none) : Fn Try.prog 11 [.sl (l.map encP), .str key] (.tup [.agg [.int .i64 0, .int .i64 0, .int .i64 0, .str [], .str []], .bool false]) := by
  have := atG_fn l key; rw [h] at this; exact this

set_option maxRecDepth 100000 in
set_option maxHeartbeats 400000 in
theorem clonePlc_fn (l : List Plc) (hl : l.length ≤ 1000000) : FnM Try.prog 14 [.sl (l.map encP)] [] (.own 0) [.rows 31 (l.map encP)] := by
  refine FnM.mk' base Try.func14 rfl rfl rfl rfl ?_
  repeat' ((conv => whnf); (first
   | (with_reducible refine And.intro (fun (hnil : _ = []) => ?_) ?_)
   | ((with_reducible show AW _ _ _ Code.ret _ _ _); (refine AW.adopt 2 999999999 (el := 31) rfl rfl (rows_of 24 rfl) ?_); (with_reducible refine AW.ret ?_))
   | (with_reducible first | refine AW.seq ?_ | refine AW.region base (by kernel_rfl) ?_ | refine AW.cond ?_ | refine AW.block ?_ | refine AW.ret ?_ | refine AW.exit ?_ | refine AW.skip ?_ | refine Br.t ?_ | refine Br.f ?_)
   | ((with_reducible refine Or.inl ?_); (conv => whnf); (with_reducible refine And.intro LitSl.mk ?_))
   | refine Br.t ?_
   | refine Br.f ?_
   | (with_reducible refine Br.mk (fun hb => ?_) (fun hb => ?_) <;> (try rw [hb]) <;> (try simp only [List.length_map, decide_eq_true_eq, decide_eq_false_iff_not, Bool.not_eq_true', Bool.not_eq_false', Int.ofNat_lt, Int.ofNat_le, Int.not_lt, Int.not_le, Int.toNat_natCast] at hb))
   | ((with_reducible first | refine Or.inl (And.intro ?_ ?_) | refine And.intro ?_ ?_); (focus (first | with_reducible rfl | exact trivial | (exact ⟨rfl, trivial⟩) | (exact ⟨rfl, rfl, trivial⟩) | omega | (intro r hr; simp only [List.mem_singleton] at hr; subst hr; rfl)  | ((exact rows5 _)) | ((simp only [List.length_map, List.length_nil]; omega)) | ((intro r hr; exact rows5 _ r hr)) | (simp only [in64]; omega) | assumption | (simp; done) | (simp [V.cells]; done) | (simp [in64, maxLen, limK] at *; omega) | ((show confB _ _ = true); kernel_rfl) | rfl)))
   | (intro row hrow; (try simp only [Int.toNat_natCast, List.length_map, toNat_pred, toNat_succ', toNat_zero', toNat_one'] at hrow); (first | (have hsm := same_map (by assumption) hrow; subst hsm; clear hrow) | (obtain ⟨p, hp, rfl⟩ := of_map hrow; clear hrow)))))
  all_goals (conv => whnf)
  all_goals (refine ⟨[?_], ?_⟩)
  all_goals (repeat' (first | (with_reducible rfl) | exact trivial | ((conv => whnf); (first | (with_reducible refine And.intro ?_ ?_) | exact trivial | (intro hb; first | (exfalso; simp_all; done) | skip)))))
  all_goals (first | rfl | (exact hnil.symm))

theorem findG_at {l : List Plc} {id : Int} {i : Int} (h : idxG (idP id) l 0 = i) : Fn Try.prog 15 [.sl (l.map encP), .int .i64 id] (.int .i64 i) := by
  have := findG_fn id l; rw [h] at this; exact this

set_option maxRecDepth 100000 in
set_option maxHeartbeats 400000 in
theorem splitG_no (l : List Plc) (id a b : Int) (key : Bs) (hl : l.length ≤ 1000000) (h : idxG (idP id) l 0 = -1) : Fn Try.prog 7 [.sl (l.map encP), .int .i64 id, .str key, .int .i64 a, .int .i64 b] (.sl (l.map encP)) := by
  refine Fn.mk' base Try.func7 rfl rfl rfl ?_
  repeat' ((conv => whnf); (first
   | (with_reducible first | refine AW.seq ?_ | refine AW.region base (by kernel_rfl) ?_ | refine AW.cond ?_ | refine AW.block ?_ | refine AW.ret ?_ | refine AW.exit ?_ | refine AW.skip ?_ | refine Br.t ?_ | refine Br.f ?_)
   | (with_reducible refine Br.mkT (fun hb => (by (first | (simp at hb; done) | omega | (rw [h] at hb; simp at hb; omega) | (simp only [List.length_map, decide_eq_true_eq, decide_eq_false_iff_not, Bool.not_eq_true', Bool.not_eq_false'] at hb; first | omega | fail) | fail))) (fun hb => ?_))
   | (with_reducible refine Br.mkF (fun hb => (by (first | (simp at hb; done) | omega | (rw [h] at hb; simp at hb; omega) | (simp only [List.length_map, decide_eq_true_eq, decide_eq_false_iff_not, Bool.not_eq_true', Bool.not_eq_false'] at hb; first | omega | fail) | fail))) (fun hb => ?_))
   | ((with_reducible refine Or.inl ?_); (conv => whnf); (with_reducible refine And.intro LitSl.mk ?_))
   | refine Br.t ?_
   | refine Br.f ?_
   | ((with_reducible refine Or.inl ?_); (conv => whnf); (first | (with_reducible first | refine ⟨_, findG_at h, ?_⟩)))
   | (with_reducible refine Or.inr ⟨[], _, _, _, _, clonePlc_fn l hl, ?_⟩)
   | (with_reducible refine Or.inr (Or.inr ⟨[], _, _, _, _, clonePlc_fn l hl, ?_⟩))
   | (with_reducible refine Br.mk (fun hb => ?_) (fun hb => ?_) <;> (try rw [hb]) <;> (try simp only [List.length_map, decide_eq_true_eq, decide_eq_false_iff_not, Bool.not_eq_true', Bool.not_eq_false', Int.ofNat_lt, Int.ofNat_le, Int.not_lt, Int.not_le, Int.toNat_natCast] at hb))
   | ((with_reducible first | refine Or.inl (And.intro ?_ ?_) | refine And.intro ?_ ?_); (focus (first | with_reducible rfl | exact trivial | (exact ⟨rfl, trivial⟩) | (exact ⟨rfl, rfl, trivial⟩) | omega | (intro r hr; simp only [List.mem_singleton] at hr; subst hr; rfl)  | ((rw [h]; omega)) | ((simp only [h, List.length_map] at *; omega)) | ((have hlt := (List.getElem?_eq_some_iff.1 hp).1; simp only [h, List.length_map] at *; omega)) | ((simp only [in64]; rw [h]; omega)) | ((simp only [in64]; omega)) | ((exact rows5 _)) | ((exact rows5t _ _ _)) | ((intro r hr; simp only [List.mem_cons, List.not_mem_nil, or_false] at hr; rcases hr with rfl | rfl <;> rfl)) | ((intro r hr; exact rows5 _ r hr)) | ((have hlt := (List.getElem?_eq_some_iff.1 hp).1; simp only [List.length_append, List.length_take, List.length_drop, List.length_cons, List.length_nil, List.length_map] at *; omega)) | (simp only [in64]; omega) | assumption | (simp; done) | (simp [V.cells]; done) | (simp [in64, maxLen, limK] at *; omega) | ((show confB _ _ = true); kernel_rfl) | rfl)))
   | (intro row hrow; (try rw [h] at hrow); (try simp only [Int.toNat_natCast] at hrow); have hsm := same_map hp hrow; subst hsm; clear hrow)))
  all_goals (conv => whnf)
  all_goals (first | rfl | (simp only [V.bool.injEq, V.tup.injEq, V.agg.injEq, V.str.injEq, V.int.injEq, V.sl.injEq, V.ifc.injEq, List.cons.injEq, and_true, true_and, and_self]; done) | (simp only [V.bool.injEq, V.tup.injEq, V.agg.injEq, V.str.injEq, V.int.injEq, V.sl.injEq, V.ifc.injEq, List.cons.injEq, and_true, true_and, and_self]; grind) | (simp  at *; done) | (simp  at *; grind))

set_option maxRecDepth 100000 in
set_option maxHeartbeats 400000 in
theorem splitG_uncut (l : List Plc) (id a b : Int) (key : Bs) (hl : l.length ≤ 1000000) (i : Nat) (p : Plc) (h : idxG (idP id) l 0 = (i : Int)) (hp : l[i]? = some p) (hc : cutB ⟨p.f, p.t⟩ key = false) : Fn Try.prog 7 [.sl (l.map encP), .int .i64 id, .str key, .int .i64 a, .int .i64 b] (.sl (l.map encP)) := by
  refine Fn.mk' base Try.func7 rfl rfl rfl ?_
  have hlt := (List.getElem?_eq_some_iff.1 hp).1
  repeat' ((conv => whnf); (first
   | (with_reducible first | refine AW.seq ?_ | refine AW.region base (by kernel_rfl) ?_ | refine AW.cond ?_ | refine AW.block ?_ | refine AW.ret ?_ | refine AW.exit ?_ | refine AW.skip ?_ | refine Br.t ?_ | refine Br.f ?_)
   | (with_reducible refine Br.mkT (fun hb => (by (first | (simp at hb; done) | omega | (rw [h] at hb; simp at hb; omega) | (simp only [List.length_map, decide_eq_true_eq, decide_eq_false_iff_not, Bool.not_eq_true', Bool.not_eq_false'] at hb; first | omega | fail) | fail))) (fun hb => ?_))
   | (with_reducible refine Br.mkF (fun hb => (by (first | (simp at hb; done) | omega | (rw [h] at hb; simp at hb; omega) | (simp only [List.length_map, decide_eq_true_eq, decide_eq_false_iff_not, Bool.not_eq_true', Bool.not_eq_false'] at hb; first | omega | fail) | fail))) (fun hb => ?_))
   | ((with_reducible refine Or.inl ?_); (conv => whnf); (with_reducible refine And.intro LitSl.mk ?_))
   | refine Br.t ?_
   | refine Br.f ?_
   | ((with_reducible refine Or.inl ?_); (conv => whnf); (first | (with_reducible first | refine ⟨_, findG_at h, ?_⟩ | refine ⟨_, cut_no hc, ?_⟩)))
   | (with_reducible refine Or.inr ⟨[], _, _, _, _, clonePlc_fn l hl, ?_⟩)
   | (with_reducible refine Or.inr (Or.inr ⟨[], _, _, _, _, clonePlc_fn l hl, ?_⟩))
   | (with_reducible refine Br.mk (fun hb => ?_) (fun hb => ?_) <;> (try rw [hb]) <;> (try simp only [List.length_map, decide_eq_true_eq, decide_eq_false_iff_not, Bool.not_eq_true', Bool.not_eq_false', Int.ofNat_lt, Int.ofNat_le, Int.not_lt, Int.not_le, Int.toNat_natCast] at hb))
   | ((with_reducible first | refine Or.inl (And.intro ?_ ?_) | refine And.intro ?_ ?_); (focus (first | with_reducible rfl | exact trivial | (exact ⟨rfl, trivial⟩) | (exact ⟨rfl, rfl, trivial⟩) | omega | (intro r hr; simp only [List.mem_singleton] at hr; subst hr; rfl)  | ((rw [h]; omega)) | ((simp only [h, List.length_map] at *; omega)) | ((have hlt := (List.getElem?_eq_some_iff.1 hp).1; simp only [h, List.length_map] at *; omega)) | ((simp only [in64]; rw [h]; omega)) | ((simp only [in64]; omega)) | ((exact rows5 _)) | ((exact rows5t _ _ _)) | ((intro r hr; simp only [List.mem_cons, List.not_mem_nil, or_false] at hr; rcases hr with rfl | rfl <;> rfl)) | ((intro r hr; exact rows5 _ r hr)) | ((have hlt := (List.getElem?_eq_some_iff.1 hp).1; simp only [List.length_append, List.length_take, List.length_drop, List.length_cons, List.length_nil, List.length_map] at *; omega)) | (simp only [in64]; omega) | assumption | (simp; done) | (simp [V.cells]; done) | (simp [in64, maxLen, limK] at *; omega) | ((show confB _ _ = true); kernel_rfl) | rfl)))
   | (intro row hrow; (try rw [h] at hrow); (try simp only [Int.toNat_natCast] at hrow); have hsm := same_map hp hrow; subst hsm; clear hrow)))
  all_goals (conv => whnf)
  all_goals (first | rfl | (simp only [V.bool.injEq, V.tup.injEq, V.agg.injEq, V.str.injEq, V.int.injEq, V.sl.injEq, V.ifc.injEq, List.cons.injEq, and_true, true_and, and_self]; done) | (simp only [V.bool.injEq, V.tup.injEq, V.agg.injEq, V.str.injEq, V.int.injEq, V.sl.injEq, V.ifc.injEq, List.cons.injEq, and_true, true_and, and_self]; grind) | (simp  at *; done) | (simp  at *; grind))

set_option maxRecDepth 100000 in
set_option maxHeartbeats 400000 in
theorem splitG_cut (l : List Plc) (id a b : Int) (key : Bs) (hl : l.length ≤ 1000000) (i : Nat) (p : Plc) (h : idxG (idP id) l 0 = (i : Int)) (hp : l[i]? = some p) (hc : cutB ⟨p.f, p.t⟩ key = true) : Fn Try.prog 7 [.sl (l.map encP), .int .i64 id, .str key, .int .i64 a, .int .i64 b] (.sl ((l.take i ++ ([⟨a, 1, p.nd, p.f, key⟩, ⟨b, 1, p.nd, key, p.t⟩] : List Plc) ++ l.drop (i + 1)).map encP)) := by
  refine Fn.mk' base Try.func7 rfl rfl rfl ?_
  have hlt := (List.getElem?_eq_some_iff.1 hp).1
  repeat' ((conv => whnf); (first
   | (with_reducible first | refine AW.seq ?_ | refine AW.region base (by kernel_rfl) ?_ | refine AW.cond ?_ | refine AW.block ?_ | refine AW.ret ?_ | refine AW.exit ?_ | refine AW.skip ?_ | refine Br.t ?_ | refine Br.f ?_)
   | (with_reducible refine Br.mkT (fun hb => (by (first | (simp at hb; done) | omega | (rw [h] at hb; simp at hb; omega) | (simp only [List.length_map, decide_eq_true_eq, decide_eq_false_iff_not, Bool.not_eq_true', Bool.not_eq_false'] at hb; first | omega | fail) | fail))) (fun hb => ?_))
   | (with_reducible refine Br.mkF (fun hb => (by (first | (simp at hb; done) | omega | (rw [h] at hb; simp at hb; omega) | (simp only [List.length_map, decide_eq_true_eq, decide_eq_false_iff_not, Bool.not_eq_true', Bool.not_eq_false'] at hb; first | omega | fail) | fail))) (fun hb => ?_))
   | ((with_reducible refine Or.inr ?_); (conv => whnf); (with_reducible refine And.intro LitOwn.mk ?_))
   | ((with_reducible refine Or.inl ?_); (conv => whnf); (with_reducible refine And.intro LitSl.mk ?_))
   | refine Br.t ?_
   | refine Br.f ?_
   | ((with_reducible refine Or.inl ?_); (conv => whnf); (first | (with_reducible first | refine ⟨_, findG_at h, ?_⟩ | refine ⟨_, cut_yes hc, ?_⟩)))
   | (with_reducible refine Or.inr ⟨[], _, _, _, _, clonePlc_fn l hl, ?_⟩)
   | (with_reducible refine Or.inr (Or.inr ⟨[], _, _, _, _, clonePlc_fn l hl, ?_⟩))
   | (with_reducible refine Or.inr ⟨[?_, ?_], _, _, _, _, replace2_fn (l.map encP) [[.int .i64 a, .int .i64 1, .int .i64 p.nd, .str p.f, .str key], [.int .i64 b, .int .i64 1, .int .i64 p.nd, .str key, .str p.t]] i (by rw [List.length_map]; have := (List.getElem?_eq_some_iff.1 hp).1; omega) rfl (by rw [List.length_map]; omega), ?_⟩)
   | (with_reducible refine Or.inr (Or.inr ⟨[?_, ?_], _, _, _, _, replace2_fn (l.map encP) [[.int .i64 a, .int .i64 1, .int .i64 p.nd, .str p.f, .str key], [.int .i64 b, .int .i64 1, .int .i64 p.nd, .str key, .str p.t]] i (by rw [List.length_map]; have := (List.getElem?_eq_some_iff.1 hp).1; omega) rfl (by rw [List.length_map]; omega), ?_⟩))
   | (with_reducible refine Br.mk (fun hb => ?_) (fun hb => ?_) <;> (try rw [hb]) <;> (try simp only [List.length_map, decide_eq_true_eq, decide_eq_false_iff_not, Bool.not_eq_true', Bool.not_eq_false', Int.ofNat_lt, Int.ofNat_le, Int.not_lt, Int.not_le, Int.toNat_natCast] at hb))
   | ((with_reducible first | refine Or.inl (And.intro ?_ ?_) | refine And.intro ?_ ?_); (focus (first | with_reducible rfl | exact trivial | (exact ⟨rfl, trivial⟩) | (exact ⟨rfl, rfl, trivial⟩) | omega | (intro r hr; simp only [List.mem_singleton] at hr; subst hr; rfl)  | ((rw [h]; omega)) | ((simp only [h, List.length_map] at *; omega)) | ((have hlt := (List.getElem?_eq_some_iff.1 hp).1; simp only [h, List.length_map] at *; omega)) | ((simp only [in64]; rw [h]; omega)) | ((simp only [in64]; omega)) | ((exact rows5 _)) | ((exact rows5t _ _ _)) | ((intro r hr; simp only [List.mem_cons, List.not_mem_nil, or_false] at hr; rcases hr with rfl | rfl <;> rfl)) | ((intro r hr; exact rows5 _ r hr)) | ((have hlt := (List.getElem?_eq_some_iff.1 hp).1; simp only [List.length_append, List.length_take, List.length_drop, List.length_cons, List.length_nil, List.length_map] at *; omega)) | (simp only [in64]; omega) | assumption | (simp; done) | (simp [V.cells]; done) | (simp [in64, maxLen, limK] at *; omega) | ((show confB _ _ = true); kernel_rfl) | rfl)))
   | (intro row hrow; (try rw [h] at hrow); (try simp only [Int.toNat_natCast] at hrow); have hsm := same_map hp hrow; subst hsm; clear hrow)))
  all_goals (conv => whnf)
  all_goals (first | rfl | (simp only [V.bool.injEq, V.tup.injEq, V.agg.injEq, V.str.injEq, V.int.injEq, V.sl.injEq, V.ifc.injEq, List.cons.injEq, and_true, true_and, and_self]; done) | (simp only [V.bool.injEq, V.tup.injEq, V.agg.injEq, V.str.injEq, V.int.injEq, V.sl.injEq, V.ifc.injEq, List.cons.injEq, and_true, true_and, and_self]; grind) | (simp  at *; done) | (simp  at *; grind) | (refine congrArg V.sl ?_; simp [List.map_take, List.map_drop]; done) | (refine congrArg V.sl ?_; rw [show (l.map encP).length = l.length from List.length_map _] at *; first | (rw [List.take_of_length_le (i := l.length) (by simp)]; simp [List.map_take, List.map_drop, V.cells]; done) | simp [List.map_take, List.map_drop, V.cells]))

theorem splitG_fn (l : List Plc) (id a b : Int) (key : Bs) (hl : l.length ≤ 1000000) : Fn Try.prog 7 [.sl (l.map encP), .int .i64 id, .str key, .int .i64 a, .int .i64 b] (.sl ((splitP l id key a b).map encP)) := by
  rcases idxG_lo (idP id) l 0 with h | h
  · rw [splitP_no h]; exact splitG_no l id a b key hl h
  · obtain ⟨i, hi⟩ : ∃ i : Nat, idxG (idP id) l 0 = (i : Int) := ⟨(idxG (idP id) l 0).toNat, by omega⟩
    obtain ⟨p, hp, _⟩ := idxG_get (idP id) l 0 i (by rw [hi]; simp)
    rw [splitP_at hi hp]
    cases hc : cutB ⟨p.f, p.t⟩ key with
    | true => exact splitG_cut l id a b key hl i p hi hp hc
    | false => exact splitG_uncut l id a b key hl i p hi hp hc
end Go.Proofs.Ytmlfknmpapbpgaa
