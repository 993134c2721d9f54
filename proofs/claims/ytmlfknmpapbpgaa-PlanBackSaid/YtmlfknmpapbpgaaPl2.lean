/-
  Walks of package plan: plans of whatever places: joins, moves, what is a plan. No conditions.
-/
import Derived.Test.YtmlfknmpapbpgaaPln
namespace Go.Proofs.Ytmlfknmpapbpgaa
open Go.RowKit
set_option linter.unusedSimpArgs false
set_option linter.unusedVariables false

/-- what a move makes of a plan -/
def moveP (l : List Plc) (id ep nd : Int) : List Plc :=
  match idxG (idP id) l 0 with
  | .ofNat i => match l[i]? with
    | some p => l.set i ⟨p.id, ep, nd, p.f, p.t⟩
    | none => l
  | .negSucc _ => l
theorem moveP_no {l : List Plc} {id ep nd : Int} (h : idxG (idP id) l 0 = -1) : moveP l id ep nd = l := by rw [moveP, h]; rfl
theorem moveP_at {l : List Plc} {id ep nd : Int} {i : Nat} {p : Plc} (h : idxG (idP id) l 0 = (i : Int)) (hp : l[i]? = some p) : moveP l id ep nd = l.set i ⟨p.id, ep, nd, p.f, p.t⟩ := by
  rw [moveP, h]
  show (match l[i]? with | some p => _ | none => l) = _
  rw [hp]
/-- what a join makes of a plan -/
def joinP (l : List Plc) (lo hi id : Int) : List Plc :=
  match idxG (idP lo) l 0 with
  | .ofNat i => match l[i]?, l[i + 1]? with
    | some p, some q => if idxG (idP hi) l 0 = ((i + 1 : Nat) : Int) then l.take i ++ [⟨id, 1, p.nd, p.f, q.t⟩] ++ l.drop (i + 2) else l
    | _, _ => l
  | .negSucc _ => l
theorem joinP_no {l : List Plc} {lo hi id : Int} (h : idxG (idP lo) l 0 = -1) : joinP l lo hi id = l := by rw [joinP, h]; rfl
theorem joinP_end {l : List Plc} {lo hi id : Int} {i : Nat} {p : Plc} (h : idxG (idP lo) l 0 = (i : Int)) (hp : l[i]? = some p) (hq : l.length ≤ i + 1) : joinP l lo hi id = l := by
  rw [joinP, h]
  show (match l[i]?, l[i + 1]? with | some p, some q => _ | _, _ => l) = _
  rw [hp, List.getElem?_eq_none hq]
theorem joinP_at {l : List Plc} {lo hi id : Int} {i : Nat} {p q : Plc} (h : idxG (idP lo) l 0 = (i : Int)) (hp : l[i]? = some p) (hq : l[i + 1]? = some q) : joinP l lo hi id = if idxG (idP hi) l 0 = ((i + 1 : Nat) : Int) then l.take i ++ [⟨id, 1, p.nd, p.f, q.t⟩] ++ l.drop (i + 2) else l := by
  rw [joinP, h]
  show (match l[i]?, l[i + 1]? with | some p, some q => _ | _, _ => l) = _
  rw [hp, hq]

set_option maxRecDepth 100000 in
set_option maxHeartbeats 400000 in
theorem moveG_no (l : List Plc) (id ep nd : Int) (hl : l.length ≤ 1000000) (h : idxG (idP id) l 0 = -1) : Fn Try.prog 9 [.sl (l.map encP), .int .i64 id, .int .i64 ep, .int .i64 nd] (.sl (l.map encP)) := by
  refine Fn.mk' base Try.func9 rfl rfl rfl ?_
  repeat' ((conv => whnf); (first
   | (with_reducible first | refine AW.seq ?_ | refine AW.region base (by kernel_rfl) ?_ | refine AW.cond ?_ | refine AW.block ?_ | refine AW.ret ?_ | refine AW.exit ?_ | refine AW.skip ?_ | refine Br.t ?_ | refine Br.f ?_)
   | (with_reducible refine Br.mkT (fun hb => (by (first | (simp at hb; done) | omega | (rw [h] at hb; simp at hb; omega) | (simp only [List.length_map, decide_eq_true_eq, decide_eq_false_iff_not, Bool.not_eq_true', Bool.not_eq_false'] at hb; first | omega | fail) | fail))) (fun hb => ?_))
   | (with_reducible refine Br.mkF (fun hb => (by (first | (simp at hb; done) | omega | (rw [h] at hb; simp at hb; omega) | (simp only [List.length_map, decide_eq_true_eq, decide_eq_false_iff_not, Bool.not_eq_true', Bool.not_eq_false'] at hb; first | omega | fail) | fail))) (fun hb => ?_))
   | ((with_reducible refine Or.inl ?_); (conv => whnf); (with_reducible refine And.intro LitSl.mk ?_))
   | refine Br.t ?_
   | refine Br.f ?_
   | ((with_reducible refine Or.inl ?_); (conv => whnf); (first | (with_reducible first | refine ⟨_, findG_at h, ?_⟩)))
   | (with_reducible refine Or.inr ⟨[], _, _, _, _, clonePlc_fn l hl, ?_⟩)
   | (with_reducible refine Or.inr (Or.inr ⟨[], _, _, _, _, clonePlc_fn l hl, ?_⟩))
   | (with_reducible refine Br.mk (fun hb => ?_) (fun hb => ?_) <;> (try rw [hb]) <;> (try simp only [List.length_map, decide_eq_true_eq, decide_eq_false_iff_not, Bool.not_eq_true', Bool.not_eq_false', Int.ofNat_lt, Int.ofNat_le, Int.not_lt, Int.not_le, Int.toNat_natCast] at hb))
   | ((with_reducible first | refine Or.inl (And.intro ?_ ?_) | refine And.intro ?_ ?_); (focus (first | with_reducible rfl | exact trivial | (exact ⟨rfl, trivial⟩) | (exact ⟨rfl, rfl, trivial⟩) | omega | (intro r hr; simp only [List.mem_singleton] at hr; subst hr; rfl)  | ((rw [h]; omega)) | ((simp only [h, List.length_map] at *; omega)) | ((have hlt := (List.getElem?_eq_some_iff.1 hp).1; simp only [h, List.length_map] at *; omega)) | ((simp only [in64]; rw [h]; omega)) | ((simp only [in64]; omega)) | ((exact rows5 _)) | ((exact rows5t _ _ _)) | ((intro r hr; simp only [List.mem_cons, List.not_mem_nil, or_false] at hr; rcases hr with rfl | rfl <;> rfl)) | ((intro r hr; exact rows5 _ r hr)) | ((have hlt := (List.getElem?_eq_some_iff.1 hp).1; simp only [List.length_append, List.length_take, List.length_drop, List.length_cons, List.length_nil, List.length_map] at *; omega)) | (simp only [in64]; omega) | assumption | (simp; done) | (simp [V.cells]; done) | (simp [in64, maxLen, limK] at *; omega) | ((show confB _ _ = true); kernel_rfl) | rfl)))
   | (intro row hrow; (try rw [h] at hrow); (try simp only [Int.toNat_natCast] at hrow); have hsm := same_map hp hrow; subst hsm; clear hrow)))
  all_goals (conv => whnf)
  all_goals (first | rfl | (simp only [V.bool.injEq, V.tup.injEq, V.agg.injEq, V.str.injEq, V.int.injEq, V.sl.injEq, V.ifc.injEq, List.cons.injEq, and_true, true_and, and_self]; done) | (simp only [V.bool.injEq, V.tup.injEq, V.agg.injEq, V.str.injEq, V.int.injEq, V.sl.injEq, V.ifc.injEq, List.cons.injEq, and_true, true_and, and_self]; grind) | (simp  at *; done) | (simp  at *; grind))

set_option maxRecDepth 100000 in
set_option maxHeartbeats 400000 in
theorem moveG_yes (l : List Plc) (id ep nd : Int) (hl : l.length ≤ 1000000) (i : Nat) (p : Plc) (h : idxG (idP id) l 0 = (i : Int)) (hp : l[i]? = some p) : Fn Try.prog 9 [.sl (l.map encP), .int .i64 id, .int .i64 ep, .int .i64 nd] (.sl ((l.set i ⟨p.id, ep, nd, p.f, p.t⟩).map encP)) := by
  refine Fn.mk' base Try.func9 rfl rfl rfl ?_
  have hlt := (List.getElem?_eq_some_iff.1 hp).1
  repeat' ((conv => whnf); (first
   | (with_reducible first | refine AW.seq ?_ | refine AW.region base (by kernel_rfl) ?_ | refine AW.cond ?_ | refine AW.block ?_ | refine AW.ret ?_ | refine AW.exit ?_ | refine AW.skip ?_ | refine Br.t ?_ | refine Br.f ?_)
   | (with_reducible refine Br.mkT (fun hb => (by (first | (simp at hb; done) | omega | (rw [h] at hb; simp at hb; omega) | (simp only [List.length_map, decide_eq_true_eq, decide_eq_false_iff_not, Bool.not_eq_true', Bool.not_eq_false'] at hb; first | omega | fail) | fail))) (fun hb => ?_))
   | (with_reducible refine Br.mkF (fun hb => (by (first | (simp at hb; done) | omega | (rw [h] at hb; simp at hb; omega) | (simp only [List.length_map, decide_eq_true_eq, decide_eq_false_iff_not, Bool.not_eq_true', Bool.not_eq_false'] at hb; first | omega | fail) | fail))) (fun hb => ?_))
   | ((with_reducible refine Or.inl ?_); (conv => whnf); (with_reducible refine And.intro LitSl.mk ?_))
   | refine Br.t ?_
   | refine Br.f ?_
   | ((with_reducible refine Or.inl ?_); (conv => whnf); (first | (with_reducible first | refine ⟨_, findG_at h, ?_⟩)))
   | (with_reducible refine Or.inr ⟨[], _, _, _, _, clonePlc_fn l hl, ?_⟩)
   | (with_reducible refine Or.inr (Or.inr ⟨[], _, _, _, _, clonePlc_fn l hl, ?_⟩))
   | (with_reducible refine Br.mk (fun hb => ?_) (fun hb => ?_) <;> (try rw [hb]) <;> (try simp only [List.length_map, decide_eq_true_eq, decide_eq_false_iff_not, Bool.not_eq_true', Bool.not_eq_false', Int.ofNat_lt, Int.ofNat_le, Int.not_lt, Int.not_le, Int.toNat_natCast] at hb))
   | ((with_reducible first | refine Or.inl (And.intro ?_ ?_) | refine And.intro ?_ ?_); (focus (first | with_reducible rfl | exact trivial | (exact ⟨rfl, trivial⟩) | (exact ⟨rfl, rfl, trivial⟩) | omega | (intro r hr; simp only [List.mem_singleton] at hr; subst hr; rfl)  | ((rw [h]; omega)) | ((simp only [h, List.length_map] at *; omega)) | ((have hlt := (List.getElem?_eq_some_iff.1 hp).1; simp only [h, List.length_map] at *; omega)) | ((simp only [in64]; rw [h]; omega)) | ((simp only [in64]; omega)) | ((exact rows5 _)) | ((exact rows5t _ _ _)) | ((intro r hr; simp only [List.mem_cons, List.not_mem_nil, or_false] at hr; rcases hr with rfl | rfl <;> rfl)) | ((intro r hr; exact rows5 _ r hr)) | ((have hlt := (List.getElem?_eq_some_iff.1 hp).1; simp only [List.length_append, List.length_take, List.length_drop, List.length_cons, List.length_nil, List.length_map] at *; omega)) | (simp only [in64]; omega) | assumption | (simp; done) | (simp [V.cells]; done) | (simp [in64, maxLen, limK] at *; omega) | ((show confB _ _ = true); kernel_rfl) | rfl)))
   | (intro row hrow; (try rw [h] at hrow); (try simp only [Int.toNat_natCast] at hrow); first | (have hsm := same_map hp hrow; subst hsm; clear hrow) | (rw [List.getElem?_set_self (by simpa using hlt)] at hrow; have e0 := Option.some.inj hrow; subst e0))))
  all_goals (conv => whnf)
  all_goals (first | rfl | (simp only [V.bool.injEq, V.tup.injEq, V.agg.injEq, V.str.injEq, V.int.injEq, V.sl.injEq, V.ifc.injEq, List.cons.injEq, and_true, true_and, and_self]; done) | (simp only [V.bool.injEq, V.tup.injEq, V.agg.injEq, V.str.injEq, V.int.injEq, V.sl.injEq, V.ifc.injEq, List.cons.injEq, and_true, true_and, and_self]; grind) | (simp  at *; done) | (simp  at *; grind) | (refine congrArg V.sl ?_; simp [List.map_set]; done))

theorem moveG_fn (l : List Plc) (id ep nd : Int) (hl : l.length ≤ 1000000) : Fn Try.prog 9 [.sl (l.map encP), .int .i64 id, .int .i64 ep, .int .i64 nd] (.sl ((moveP l id ep nd).map encP)) := by
  rcases idxG_lo (idP id) l 0 with h | h
  · rw [moveP_no h]; exact moveG_no l id ep nd hl h
  · obtain ⟨i, hi⟩ : ∃ i : Nat, idxG (idP id) l 0 = (i : Int) := ⟨(idxG (idP id) l 0).toNat, by omega⟩
    obtain ⟨p, hp, _⟩ := idxG_get (idP id) l 0 i (by rw [hi]; simp)
    rw [moveP_at hi hp]
    exact moveG_yes l id ep nd hl i p hi hp

set_option maxRecDepth 100000 in
set_option maxHeartbeats 400000 in
theorem joinG_no (l : List Plc) (lo hi id : Int) (hl : l.length ≤ 1000000) (h : idxG (idP lo) l 0 = -1) : Fn Try.prog 8 [.sl (l.map encP), .int .i64 lo, .int .i64 hi, .int .i64 id] (.sl (l.map encP)) := by
  refine Fn.mk' base Try.func8 rfl rfl rfl ?_
  repeat' ((conv => whnf); (first
   | (with_reducible first | refine AW.seq ?_ | refine AW.region base (by kernel_rfl) ?_ | refine AW.cond ?_ | refine AW.block ?_ | refine AW.ret ?_ | refine AW.exit ?_ | refine AW.skip ?_ | refine Br.t ?_ | refine Br.f ?_)
   | (with_reducible refine Br.mkT (fun hb => (by (first | (simp at hb; done) | omega | (rw [h] at hb; simp at hb; omega) | (simp only [List.length_map, decide_eq_true_eq, decide_eq_false_iff_not, Bool.not_eq_true', Bool.not_eq_false'] at hb; first | omega | fail) | fail))) (fun hb => ?_))
   | (with_reducible refine Br.mkF (fun hb => (by (first | (simp at hb; done) | omega | (rw [h] at hb; simp at hb; omega) | (simp only [List.length_map, decide_eq_true_eq, decide_eq_false_iff_not, Bool.not_eq_true', Bool.not_eq_false'] at hb; first | omega | fail) | fail))) (fun hb => ?_))
   | ((with_reducible refine Or.inl ?_); (conv => whnf); (with_reducible refine And.intro LitSl.mk ?_))
   | refine Br.t ?_
   | refine Br.f ?_
   | ((with_reducible refine Or.inl ?_); (conv => whnf); (first | (with_reducible first | refine ⟨_, findG_at h, ?_⟩)))
   | (with_reducible refine Or.inr ⟨[], _, _, _, _, clonePlc_fn l hl, ?_⟩)
   | (with_reducible refine Or.inr (Or.inr ⟨[], _, _, _, _, clonePlc_fn l hl, ?_⟩))
   | (with_reducible refine Br.mk (fun hb => ?_) (fun hb => ?_) <;> (try rw [hb]) <;> (try simp only [List.length_map, decide_eq_true_eq, decide_eq_false_iff_not, Bool.not_eq_true', Bool.not_eq_false', Int.ofNat_lt, Int.ofNat_le, Int.not_lt, Int.not_le, Int.toNat_natCast] at hb))
   | ((with_reducible first | refine Or.inl (And.intro ?_ ?_) | refine And.intro ?_ ?_); (focus (first | with_reducible rfl | exact trivial | (exact ⟨rfl, trivial⟩) | (exact ⟨rfl, rfl, trivial⟩) | omega | (intro r hr; simp only [List.mem_singleton] at hr; subst hr; rfl)  | ((rw [h]; omega)) | ((simp only [h, List.length_map] at *; omega)) | ((have hlt := (List.getElem?_eq_some_iff.1 hp).1; simp only [h, List.length_map] at *; omega)) | ((simp only [in64]; rw [h]; omega)) | ((simp only [in64]; omega)) | ((exact rows5 _)) | ((exact rows5t _ _ _)) | ((intro r hr; simp only [List.mem_cons, List.not_mem_nil, or_false] at hr; rcases hr with rfl | rfl <;> rfl)) | ((intro r hr; exact rows5 _ r hr)) | ((have hlt := (List.getElem?_eq_some_iff.1 hp).1; simp only [List.length_append, List.length_take, List.length_drop, List.length_cons, List.length_nil, List.length_map] at *; omega)) | (simp only [in64]; omega) | assumption | (simp; done) | (simp [V.cells]; done) | (simp [in64, maxLen, limK] at *; omega) | ((show confB _ _ = true); kernel_rfl) | rfl)))
   | (intro row hrow; (try rw [h] at hrow); (try simp only [Int.toNat_natCast] at hrow); have hsm := same_map hp hrow; subst hsm; clear hrow)))
  all_goals (conv => whnf)
  all_goals (first | rfl | (simp only [V.bool.injEq, V.tup.injEq, V.agg.injEq, V.str.injEq, V.int.injEq, V.sl.injEq, V.ifc.injEq, List.cons.injEq, and_true, true_and, and_self]; done) | (simp only [V.bool.injEq, V.tup.injEq, V.agg.injEq, V.str.injEq, V.int.injEq, V.sl.injEq, V.ifc.injEq, List.cons.injEq, and_true, true_and, and_self]; grind) | (simp  at *; done) | (simp  at *; grind))

set_option maxRecDepth 100000 in
set_option maxHeartbeats 400000 in
theorem joinG_end (l : List Plc) (lo hi id : Int) (hl : l.length ≤ 1000000) (i : Nat) (p : Plc) (h : idxG (idP lo) l 0 = (i : Int)) (hp : l[i]? = some p) (hq : l.length ≤ i + 1) : Fn Try.prog 8 [.sl (l.map encP), .int .i64 lo, .int .i64 hi, .int .i64 id] (.sl (l.map encP)) := by
  refine Fn.mk' base Try.func8 rfl rfl rfl ?_
  have hlt := (List.getElem?_eq_some_iff.1 hp).1
  repeat' ((conv => whnf); (first
   | (with_reducible first | refine AW.seq ?_ | refine AW.region base (by kernel_rfl) ?_ | refine AW.cond ?_ | refine AW.block ?_ | refine AW.ret ?_ | refine AW.exit ?_ | refine AW.skip ?_ | refine Br.t ?_ | refine Br.f ?_)
   | (with_reducible refine Br.mkT (fun hb => (by (first | (simp at hb; done) | omega | (rw [h] at hb; simp at hb; omega) | (simp only [List.length_map, decide_eq_true_eq, decide_eq_false_iff_not, Bool.not_eq_true', Bool.not_eq_false'] at hb; first | omega | fail) | fail))) (fun hb => ?_))
   | (with_reducible refine Br.mkF (fun hb => (by (first | (simp at hb; done) | omega | (rw [h] at hb; simp at hb; omega) | (simp only [List.length_map, decide_eq_true_eq, decide_eq_false_iff_not, Bool.not_eq_true', Bool.not_eq_false'] at hb; first | omega | fail) | fail))) (fun hb => ?_))
   | ((with_reducible refine Or.inl ?_); (conv => whnf); (with_reducible refine And.intro LitSl.mk ?_))
   | refine Br.t ?_
   | refine Br.f ?_
   | ((with_reducible refine Or.inl ?_); (conv => whnf); (first | (with_reducible first | refine ⟨_, findG_at h, ?_⟩)))
   | (with_reducible refine Or.inr ⟨[], _, _, _, _, clonePlc_fn l hl, ?_⟩)
   | (with_reducible refine Or.inr (Or.inr ⟨[], _, _, _, _, clonePlc_fn l hl, ?_⟩))
   | (with_reducible refine Br.mk (fun hb => ?_) (fun hb => ?_) <;> (try rw [hb]) <;> (try simp only [List.length_map, decide_eq_true_eq, decide_eq_false_iff_not, Bool.not_eq_true', Bool.not_eq_false', Int.ofNat_lt, Int.ofNat_le, Int.not_lt, Int.not_le, Int.toNat_natCast] at hb))
   | ((with_reducible first | refine Or.inl (And.intro ?_ ?_) | refine And.intro ?_ ?_); (focus (first | with_reducible rfl | exact trivial | (exact ⟨rfl, trivial⟩) | (exact ⟨rfl, rfl, trivial⟩) | omega | (intro r hr; simp only [List.mem_singleton] at hr; subst hr; rfl)  | ((rw [h]; omega)) | ((simp only [h, List.length_map] at *; omega)) | ((have hlt := (List.getElem?_eq_some_iff.1 hp).1; simp only [h, List.length_map] at *; omega)) | ((simp only [in64]; rw [h]; omega)) | ((simp only [in64]; omega)) | ((exact rows5 _)) | ((exact rows5t _ _ _)) | ((intro r hr; simp only [List.mem_cons, List.not_mem_nil, or_false] at hr; rcases hr with rfl | rfl <;> rfl)) | ((intro r hr; exact rows5 _ r hr)) | ((have hlt := (List.getElem?_eq_some_iff.1 hp).1; simp only [List.length_append, List.length_take, List.length_drop, List.length_cons, List.length_nil, List.length_map] at *; omega)) | (simp only [in64]; omega) | assumption | (simp; done) | (simp [V.cells]; done) | (simp [in64, maxLen, limK] at *; omega) | ((show confB _ _ = true); kernel_rfl) | rfl)))
   | (intro row hrow; (try rw [h] at hrow); (try simp only [Int.toNat_natCast] at hrow); have hsm := same_map hp hrow; subst hsm; clear hrow)))
  all_goals (conv => whnf)
  all_goals (first | rfl | (simp only [V.bool.injEq, V.tup.injEq, V.agg.injEq, V.str.injEq, V.int.injEq, V.sl.injEq, V.ifc.injEq, List.cons.injEq, and_true, true_and, and_self]; done) | (simp only [V.bool.injEq, V.tup.injEq, V.agg.injEq, V.str.injEq, V.int.injEq, V.sl.injEq, V.ifc.injEq, List.cons.injEq, and_true, true_and, and_self]; grind) | (simp  at *; done) | (simp  at *; grind))

set_option maxRecDepth 100000 in
set_option maxHeartbeats 400000 in
theorem joinG_apart (l : List Plc) (lo hi id : Int) (hl : l.length ≤ 1000000) (i : Nat) (p : Plc) (h : idxG (idP lo) l 0 = (i : Int)) (hp : l[i]? = some p) (q : Plc) (hq : l[i + 1]? = some q) (x : Int) (hx : idxG (idP hi) l 0 = x) (hj : ¬ x = (i : Int) + 1) : Fn Try.prog 8 [.sl (l.map encP), .int .i64 lo, .int .i64 hi, .int .i64 id] (.sl (l.map encP)) := by
  refine Fn.mk' base Try.func8 rfl rfl rfl ?_
  have hlt := (List.getElem?_eq_some_iff.1 hp).1
  have hlt2 := (List.getElem?_eq_some_iff.1 hq).1
  repeat' ((conv => whnf); (first
   | (with_reducible first | refine AW.seq ?_ | refine AW.region base (by kernel_rfl) ?_ | refine AW.cond ?_ | refine AW.block ?_ | refine AW.ret ?_ | refine AW.exit ?_ | refine AW.skip ?_ | refine Br.t ?_ | refine Br.f ?_)
   | (with_reducible refine Br.mkT (fun hb => (by (first | (simp at hb; done) | omega | (rw [h] at hb; simp at hb; omega) | (simp only [List.length_map, decide_eq_true_eq, decide_eq_false_iff_not, Bool.not_eq_true', Bool.not_eq_false'] at hb; first | omega | exact absurd hb hj | exact absurd hj hb | fail) | fail))) (fun hb => ?_))
   | (with_reducible refine Br.mkF (fun hb => (by (first | (simp at hb; done) | omega | (rw [h] at hb; simp at hb; omega) | (simp only [List.length_map, decide_eq_true_eq, decide_eq_false_iff_not, Bool.not_eq_true', Bool.not_eq_false'] at hb; first | omega | exact absurd hb hj | exact absurd hj hb | fail) | fail))) (fun hb => ?_))
   | ((with_reducible refine Or.inl ?_); (conv => whnf); (with_reducible refine And.intro LitSl.mk ?_))
   | refine Br.t ?_
   | refine Br.f ?_
   | ((with_reducible refine Or.inl ?_); (conv => whnf); (first | (with_reducible first | refine ⟨_, findG_at h, ?_⟩ | refine ⟨_, findG_at hx, ?_⟩)))
   | (with_reducible refine Or.inr ⟨[], _, _, _, _, clonePlc_fn l hl, ?_⟩)
   | (with_reducible refine Or.inr (Or.inr ⟨[], _, _, _, _, clonePlc_fn l hl, ?_⟩))
   | (with_reducible refine Br.mk (fun hb => ?_) (fun hb => ?_) <;> (try rw [hb]) <;> (try simp only [List.length_map, decide_eq_true_eq, decide_eq_false_iff_not, Bool.not_eq_true', Bool.not_eq_false', Int.ofNat_lt, Int.ofNat_le, Int.not_lt, Int.not_le, Int.toNat_natCast] at hb))
   | ((with_reducible first | refine Or.inl (And.intro ?_ ?_) | refine And.intro ?_ ?_); (focus (first | with_reducible rfl | exact trivial | (exact ⟨rfl, trivial⟩) | (exact ⟨rfl, rfl, trivial⟩) | omega | (intro r hr; simp only [List.mem_singleton] at hr; subst hr; rfl)  | ((rw [h]; omega)) | ((simp only [h, List.length_map] at *; omega)) | ((have hlt := (List.getElem?_eq_some_iff.1 hp).1; simp only [h, List.length_map] at *; omega)) | ((simp only [in64]; rw [h]; omega)) | ((simp only [in64]; omega)) | ((exact rows5 _)) | ((exact rows5t _ _ _)) | ((intro r hr; simp only [List.mem_cons, List.not_mem_nil, or_false] at hr; rcases hr with rfl | rfl <;> rfl)) | ((intro r hr; exact rows5 _ r hr)) | ((have hlt := (List.getElem?_eq_some_iff.1 hp).1; simp only [List.length_append, List.length_take, List.length_drop, List.length_cons, List.length_nil, List.length_map] at *; omega)) | (simp only [in64]; omega) | assumption | (simp; done) | (simp [V.cells]; done) | (simp [in64, maxLen, limK] at *; omega) | ((show confB _ _ = true); kernel_rfl) | rfl)))
   | (intro row hrow; (try rw [h] at hrow); (try simp only [Int.toNat_natCast] at hrow); have hsm := same_map hp hrow; subst hsm; clear hrow)))
  all_goals (conv => whnf)
  all_goals (first | rfl | (simp only [V.bool.injEq, V.tup.injEq, V.agg.injEq, V.str.injEq, V.int.injEq, V.sl.injEq, V.ifc.injEq, List.cons.injEq, and_true, true_and, and_self]; done) | (simp only [V.bool.injEq, V.tup.injEq, V.agg.injEq, V.str.injEq, V.int.injEq, V.sl.injEq, V.ifc.injEq, List.cons.injEq, and_true, true_and, and_self]; grind) | (simp  at *; done) | (simp  at *; grind))

set_option maxRecDepth 100000 in
set_option maxHeartbeats 400000 in
theorem joinG_yes (l : List Plc) (lo hi id : Int) (hl : l.length ≤ 1000000) (i : Nat) (p : Plc) (h : idxG (idP lo) l 0 = (i : Int)) (hp : l[i]? = some p) (q : Plc) (hq : l[i + 1]? = some q) (x : Int) (hx : idxG (idP hi) l 0 = x) (hj : x = (i : Int) + 1) : Fn Try.prog 8 [.sl (l.map encP), .int .i64 lo, .int .i64 hi, .int .i64 id] (.sl ((l.take i ++ ([⟨id, 1, p.nd, p.f, q.t⟩] : List Plc) ++ l.drop (i + 2)).map encP)) := by
  refine Fn.mk' base Try.func8 rfl rfl rfl ?_
  have hlt := (List.getElem?_eq_some_iff.1 hp).1
  have hlt2 := (List.getElem?_eq_some_iff.1 hq).1
  repeat' ((conv => whnf); (first
   | (with_reducible first | refine AW.seq ?_ | refine AW.region base (by kernel_rfl) ?_ | refine AW.cond ?_ | refine AW.block ?_ | refine AW.ret ?_ | refine AW.exit ?_ | refine AW.skip ?_ | refine Br.t ?_ | refine Br.f ?_)
   | (with_reducible refine Br.mkT (fun hb => (by (first | (simp at hb; done) | omega | (rw [h] at hb; simp at hb; omega) | (simp only [List.length_map, decide_eq_true_eq, decide_eq_false_iff_not, Bool.not_eq_true', Bool.not_eq_false'] at hb; first | omega | exact absurd hb hj | exact absurd hj hb | fail) | fail))) (fun hb => ?_))
   | (with_reducible refine Br.mkF (fun hb => (by (first | (simp at hb; done) | omega | (rw [h] at hb; simp at hb; omega) | (simp only [List.length_map, decide_eq_true_eq, decide_eq_false_iff_not, Bool.not_eq_true', Bool.not_eq_false'] at hb; first | omega | exact absurd hb hj | exact absurd hj hb | fail) | fail))) (fun hb => ?_))
   | ((with_reducible refine Or.inr ?_); (conv => whnf); (with_reducible refine And.intro LitOwn.mk ?_))
   | ((with_reducible refine Or.inl ?_); (conv => whnf); (with_reducible refine And.intro LitSl.mk ?_))
   | refine Br.t ?_
   | refine Br.f ?_
   | ((with_reducible refine Or.inl ?_); (conv => whnf); (first | (with_reducible first | refine ⟨_, findG_at h, ?_⟩ | refine ⟨_, findG_at hx, ?_⟩)))
   | (with_reducible refine Or.inr ⟨[], _, _, _, _, clonePlc_fn l hl, ?_⟩)
   | (with_reducible refine Or.inr (Or.inr ⟨[], _, _, _, _, clonePlc_fn l hl, ?_⟩))
   | (with_reducible refine Or.inr ⟨[?_, ?_], _, _, _, _, replace1_fn (l.map encP) [[.int .i64 id, .int .i64 1, .int .i64 p.nd, .str p.f, .str q.t]] i (by rw [List.length_map]; omega) rfl (by rw [List.length_map]; omega), ?_⟩)
   | (with_reducible refine Or.inr (Or.inr ⟨[?_, ?_], _, _, _, _, replace1_fn (l.map encP) [[.int .i64 id, .int .i64 1, .int .i64 p.nd, .str p.f, .str q.t]] i (by rw [List.length_map]; omega) rfl (by rw [List.length_map]; omega), ?_⟩))
   | (with_reducible refine Br.mk (fun hb => ?_) (fun hb => ?_) <;> (try rw [hb]) <;> (try simp only [List.length_map, decide_eq_true_eq, decide_eq_false_iff_not, Bool.not_eq_true', Bool.not_eq_false', Int.ofNat_lt, Int.ofNat_le, Int.not_lt, Int.not_le, Int.toNat_natCast] at hb))
   | ((with_reducible first | refine Or.inl (And.intro ?_ ?_) | refine And.intro ?_ ?_); (focus (first | with_reducible rfl | exact trivial | (exact ⟨rfl, trivial⟩) | (exact ⟨rfl, rfl, trivial⟩) | omega | (intro r hr; simp only [List.mem_singleton] at hr; subst hr; rfl)  | ((rw [h]; omega)) | ((simp only [h, List.length_map] at *; omega)) | ((have hlt := (List.getElem?_eq_some_iff.1 hp).1; simp only [h, List.length_map] at *; omega)) | ((simp only [in64]; rw [h]; omega)) | ((simp only [in64]; omega)) | ((exact rows5 _)) | ((exact rows5t _ _ _)) | ((intro r hr; simp only [List.mem_cons, List.not_mem_nil, or_false] at hr; rcases hr with rfl | rfl <;> rfl)) | ((intro r hr; exact rows5 _ r hr)) | ((have hlt := (List.getElem?_eq_some_iff.1 hp).1; simp only [List.length_append, List.length_take, List.length_drop, List.length_cons, List.length_nil, List.length_map] at *; omega)) | (simp only [in64]; omega) | assumption | (simp; done) | (simp [V.cells]; done) | (simp [in64, maxLen, limK] at *; omega) | ((show confB _ _ = true); kernel_rfl) | rfl)))
   | (intro row hrow; (try simp only [Int.toNat_natCast, toNat_succ'] at hrow); first | (have hsm := same_map hp hrow; subst hsm; clear hrow) | (have hsm := same_map hq hrow; subst hsm; clear hrow))))
  all_goals (conv => whnf)
  all_goals (first | rfl | (simp only [V.bool.injEq, V.tup.injEq, V.agg.injEq, V.str.injEq, V.int.injEq, V.sl.injEq, V.ifc.injEq, List.cons.injEq, and_true, true_and, and_self]; done) | (simp only [V.bool.injEq, V.tup.injEq, V.agg.injEq, V.str.injEq, V.int.injEq, V.sl.injEq, V.ifc.injEq, List.cons.injEq, and_true, true_and, and_self]; grind) | (simp  at *; done) | (simp  at *; grind) | (refine congrArg V.sl ?_; simp [List.map_take, List.map_drop, V.cells]; done))

theorem joinG_fn (l : List Plc) (lo hi id : Int) (hl : l.length ≤ 1000000) : Fn Try.prog 8 [.sl (l.map encP), .int .i64 lo, .int .i64 hi, .int .i64 id] (.sl ((joinP l lo hi id).map encP)) := by
  rcases idxG_lo (idP lo) l 0 with h | h
  · rw [joinP_no h]; exact joinG_no l lo hi id hl h
  · obtain ⟨i, hi'⟩ : ∃ i : Nat, idxG (idP lo) l 0 = (i : Int) := ⟨(idxG (idP lo) l 0).toNat, by omega⟩
    obtain ⟨p, hp, _⟩ := idxG_get (idP lo) l 0 i (by rw [hi']; simp)
    rcases Nat.lt_or_ge (i + 1) l.length with hlt | hge
    · obtain ⟨q, hq⟩ : ∃ q, l[i + 1]? = some q := ⟨_, List.getElem?_eq_getElem hlt⟩
      rw [joinP_at hi' hp hq]
      by_cases hj : idxG (idP hi) l 0 = ((i + 1 : Nat) : Int)
      · rw [if_pos hj]; exact joinG_yes l lo hi id hl i p hi' hp q hq _ rfl (by rw [hj]; simp)
      · rw [if_neg hj]; exact joinG_apart l lo hi id hl i p hi' hp q hq _ rfl (fun e => hj (by rw [e]; simp))
    · rw [joinP_end hi' hp hge]; exact joinG_end l lo hi id hl i p hi' hp hge

def aboveP (l : List Plc) (id : Int) : Option Plc := match idxG (idP id) l 0 with
  | .ofNat i => l[i + 1]?
  | .negSucc _ => none

set_option maxRecDepth 100000 in
set_option maxHeartbeats 400000 in
theorem aboveG_yes (l : List Plc) (id : Int) (hl : l.length ≤ 1000000) (i : Nat) (h : idxG (idP id) l 0 = (i : Int)) (q : Plc) (hq : l[i + 1]? = some q) : Fn Try.prog 13 [.sl (l.map encP), .int .i64 id] (.tup [.agg [.int .i64 q.id, .int .i64 q.ep, .int .i64 q.nd, .str q.f, .str q.t], .bool true]) := by
  refine Fn.mk' base Try.func13 rfl rfl rfl ?_
  have hlt2 := (List.getElem?_eq_some_iff.1 hq).1
  repeat' ((conv => whnf); (first
   | (with_reducible first | refine AW.seq ?_ | refine AW.region base (by kernel_rfl) ?_ | refine AW.cond ?_ | refine AW.block ?_ | refine AW.ret ?_ | refine AW.exit ?_ | refine AW.skip ?_ | refine Br.t ?_ | refine Br.f ?_)
   | (with_reducible refine Br.mkT (fun hb => (by (first | (simp at hb; done) | omega | (rw [h] at hb; simp at hb; omega) | (simp only [List.length_map, decide_eq_true_eq, decide_eq_false_iff_not, Bool.not_eq_true', Bool.not_eq_false'] at hb; first | omega | fail) | fail))) (fun hb => ?_))
   | (with_reducible refine Br.mkF (fun hb => (by (first | (simp at hb; done) | omega | (rw [h] at hb; simp at hb; omega) | (simp only [List.length_map, decide_eq_true_eq, decide_eq_false_iff_not, Bool.not_eq_true', Bool.not_eq_false'] at hb; first | omega | fail) | fail))) (fun hb => ?_))
   | ((with_reducible refine Or.inl ?_); (conv => whnf); (with_reducible refine And.intro LitSl.mk ?_))
   | refine Br.t ?_
   | refine Br.f ?_
   | ((with_reducible refine Or.inl ?_); (conv => whnf); (first | (with_reducible first | refine ⟨_, findG_at h, ?_⟩)))
   | (with_reducible refine Br.mk (fun hb => ?_) (fun hb => ?_) <;> (try rw [hb]) <;> (try simp only [List.length_map, decide_eq_true_eq, decide_eq_false_iff_not, Bool.not_eq_true', Bool.not_eq_false', Int.ofNat_lt, Int.ofNat_le, Int.not_lt, Int.not_le, Int.toNat_natCast] at hb))
   | ((with_reducible first | refine Or.inl (And.intro ?_ ?_) | refine And.intro ?_ ?_); (focus (first | with_reducible rfl | exact trivial | (exact ⟨rfl, trivial⟩) | (exact ⟨rfl, rfl, trivial⟩) | omega | (intro r hr; simp only [List.mem_singleton] at hr; subst hr; rfl)  | ((rw [h]; omega)) | ((simp only [h, List.length_map] at *; omega)) | ((have hlt := (List.getElem?_eq_some_iff.1 hp).1; simp only [h, List.length_map] at *; omega)) | ((simp only [in64]; rw [h]; omega)) | ((simp only [in64]; omega)) | ((exact rows5 _)) | ((exact rows5t _ _ _)) | ((intro r hr; simp only [List.mem_cons, List.not_mem_nil, or_false] at hr; rcases hr with rfl | rfl <;> rfl)) | ((intro r hr; exact rows5 _ r hr)) | ((have hlt := (List.getElem?_eq_some_iff.1 hp).1; simp only [List.length_append, List.length_take, List.length_drop, List.length_cons, List.length_nil, List.length_map] at *; omega)) | (simp only [in64]; omega) | assumption | (simp; done) | (simp [V.cells]; done) | (simp [in64, maxLen, limK] at *; omega) | ((show confB _ _ = true); kernel_rfl) | rfl)))
   | (intro row hrow; (try simp only [Int.toNat_natCast, toNat_succ'] at hrow); first | (have hsm := same_map hp hrow; subst hsm; clear hrow) | (have hsm := same_map hq hrow; subst hsm; clear hrow))))
  all_goals (conv => whnf)
  all_goals (first | rfl | (simp only [V.bool.injEq, V.tup.injEq, V.agg.injEq, V.str.injEq, V.int.injEq, V.sl.injEq, V.ifc.injEq, List.cons.injEq, and_true, true_and, and_self]; done) | (simp only [V.bool.injEq, V.tup.injEq, V.agg.injEq, V.str.injEq, V.int.injEq, V.sl.injEq, V.ifc.injEq, List.cons.injEq, and_true, true_and, and_self]; grind) | (simp  at *; done) | (simp  at *; grind))

def plcB (p : Plc) : Bool := decide (1 ≤ p.id) && decide (p.id ≤ 1000000000000) && decide (1 ≤ p.ep) && decide (p.ep ≤ 1000000) && decide (0 ≤ p.nd) && decide (p.nd < 3) && isB ⟨p.f, p.t⟩
structure IsPlan (l : List Plc) : Prop where
  len : 1 ≤ l.length ∧ l.length ≤ 8
  first : ∀ p, l[0]? = some p → p.f = []
  last : ∀ p, l[l.length - 1]? = some p → p.t = []
  each : ∀ (i : Nat) (p : Plc), l[i]? = some p → plcB p = true
  touch : ∀ (i : Nat) (p q : Plc), l[i]? = some p → l[i + 1]? = some q → touchB ⟨p.f, p.t⟩ ⟨q.f, q.t⟩ = true
  ids : ∀ (i j : Nat) (p q : Plc), i < j → l[i]? = some p → l[j]? = some q → ¬ p.id = q.id

set_option maxRecDepth 100000 in
set_option maxHeartbeats 400000 in
theorem isPlaceG_fn (p : Plc) : Fn Try.prog 19 [.agg [.int .i64 p.id, .int .i64 p.ep, .int .i64 p.nd, .str p.f, .str p.t]] (.bool (plcB p)) := by
  refine Fn.mk' base Try.func19 rfl rfl rfl ?_
  repeat' ((conv => whnf); (first
   | (with_reducible first | refine AW.seq ?_ | refine AW.region base (by kernel_rfl) ?_ | refine AW.cond ?_ | refine AW.block ?_ | refine AW.ret ?_ | refine AW.exit ?_ | refine AW.skip ?_ | refine Br.t ?_ | refine Br.f ?_)
   | ((with_reducible refine Or.inl ?_); (conv => whnf); (with_reducible refine And.intro LitSl.mk ?_))
   | refine Br.t ?_
   | refine Br.f ?_
   | ((with_reducible refine Or.inl ?_); (conv => whnf); (first | (with_reducible first | refine ⟨_, is_fn ⟨_, _⟩, ?_⟩)))
   | (with_reducible refine Br.mk (fun hb => ?_) (fun hb => ?_) <;> (try rw [hb]) <;> (try simp only [List.length_map, decide_eq_true_eq, decide_eq_false_iff_not, Bool.not_eq_true', Bool.not_eq_false', Int.ofNat_lt, Int.ofNat_le, Int.not_lt, Int.not_le, Int.toNat_natCast] at hb))
   | ((with_reducible first | refine Or.inl (And.intro ?_ ?_) | refine And.intro ?_ ?_); (focus (first | with_reducible rfl | exact trivial | (exact ⟨rfl, trivial⟩) | (exact ⟨rfl, rfl, trivial⟩) | omega | (intro r hr; simp only [List.mem_singleton] at hr; subst hr; rfl)  | ((simp only [List.length_map] at *; omega)) | ((simp only [in64, maxLen] at *; omega)) | ((exact rows5 _)) | ((exact rows5t _ _ _)) | ((simp only [in64, maxLen, List.length_map] at *; omega)) | ((intro r hr; simp only [List.mem_cons, List.not_mem_nil, or_false] at hr; rcases hr with rfl | rfl <;> rfl)) | ((intro r hr; exact rows5 _ r hr)) | (simp only [in64]; omega) | assumption | (simp; done) | (simp [V.cells]; done) | (simp [in64, maxLen, limK] at *; omega) | ((show confB _ _ = true); kernel_rfl) | rfl)))
   | (intro row hrow; (try simp only [Int.toNat_natCast, List.length_map, toNat_pred, toNat_succ', toNat_zero', toNat_one'] at hrow); (first | (have hsm := same_map (by assumption) hrow; subst hsm; clear hrow) | (obtain ⟨p, hp, rfl⟩ := of_map hrow; clear hrow)))))
  all_goals ((conv => whnf); (first | rfl | (refine congrArg V.bool ?_; first | (simp_all [plcB]; done) | (simp_all [plcB]; omega) | (exfalso; simp_all [plcB]; omega))))

set_option maxRecDepth 100000 in
set_option maxHeartbeats 400000 in
theorem sameIdG_fn (p q : Plc) : Fn Try.prog 18 [.agg [.int .i64 q.id, .int .i64 q.ep, .int .i64 q.nd, .str q.f, .str q.t], .elt (encP p) 0] (.bool (idP p.id q)) := by
  refine Fn.mk' base Try.func18 rfl rfl rfl ?_
  repeat' ((conv => whnf); (first
   | (with_reducible first | refine AW.seq ?_ | refine AW.region base (by kernel_rfl) ?_ | refine AW.cond ?_ | refine AW.block ?_ | refine AW.ret ?_ | refine AW.exit ?_ | refine AW.skip ?_ | refine Br.t ?_ | refine Br.f ?_)
   | ((with_reducible refine Or.inl ?_); (conv => whnf); (with_reducible refine And.intro LitSl.mk ?_))
   | refine Br.t ?_
   | refine Br.f ?_
   | (with_reducible refine Br.mk (fun hb => ?_) (fun hb => ?_) <;> (try rw [hb]) <;> (try simp only [List.length_map, decide_eq_true_eq, decide_eq_false_iff_not, Bool.not_eq_true', Bool.not_eq_false', Int.ofNat_lt, Int.ofNat_le, Int.not_lt, Int.not_le, Int.toNat_natCast] at hb))
   | ((with_reducible first | refine Or.inl (And.intro ?_ ?_) | refine And.intro ?_ ?_); (focus (first | with_reducible rfl | exact trivial | (exact ⟨rfl, trivial⟩) | (exact ⟨rfl, rfl, trivial⟩) | omega | (intro r hr; simp only [List.mem_singleton] at hr; subst hr; rfl)  | ((simp only [List.length_map] at *; omega)) | ((simp only [in64, maxLen] at *; omega)) | ((exact rows5 _)) | ((exact rows5t _ _ _)) | ((simp only [in64, maxLen, List.length_map] at *; omega)) | ((intro r hr; simp only [List.mem_cons, List.not_mem_nil, or_false] at hr; rcases hr with rfl | rfl <;> rfl)) | ((intro r hr; exact rows5 _ r hr)) | (simp only [in64]; omega) | assumption | (simp; done) | (simp [V.cells]; done) | (simp [in64, maxLen, limK] at *; omega) | ((show confB _ _ = true); kernel_rfl) | rfl)))
   | (intro row hrow; (try simp only [Int.toNat_natCast, List.length_map, toNat_pred, toNat_succ', toNat_zero', toNat_one'] at hrow); (first | (have hsm := same_map (by assumption) hrow; subst hsm; clear hrow) | (obtain ⟨p, hp, rfl⟩ := of_map hrow; clear hrow)))))
  all_goals (conv => whnf)
  all_goals (first | rfl | (simp only [V.bool.injEq, V.tup.injEq, V.agg.injEq, V.str.injEq, V.int.injEq, V.sl.injEq, V.ifc.injEq, List.cons.injEq, and_true, true_and, and_self, idP]; done) | (simp only [V.bool.injEq, V.tup.injEq, V.agg.injEq, V.str.injEq, V.int.injEq, V.sl.injEq, V.ifc.injEq, List.cons.injEq, and_true, true_and, and_self, idP]; grind) | (simp [idP] at *; done) | (simp [idP] at *; grind))

set_option maxRecDepth 100000 in
set_option maxHeartbeats 400000 in
theorem sameIxG_fn (p : Plc) (c : List Plc) : Fn Try.prog 23 [.sl (c.map encP), .fn 18 [.elt (encP p) 0]] (.int .i64 (idxG (idP p.id) c 0)) := by
  refine Fn.mk' base Try.func23 rfl rfl rfl ?_
  refine AW.len 0 rfl (fun hlen => ?_)
  simp only [List.length_map, maxLen] at hlen
  repeat' ((conv => whnf); (first
   | (with_reducible first | refine AW.seq ?_ | refine AW.region base (by kernel_rfl) ?_ | refine AW.cond ?_ | refine AW.block ?_ | refine AW.ret ?_ | refine AW.exit ?_ | refine AW.skip ?_ | refine Br.t ?_ | refine Br.f ?_)
   | ((with_reducible refine Or.inl ?_); (conv => whnf); (with_reducible refine And.intro LitSl.mk ?_))
   | refine Br.t ?_
   | refine Br.f ?_
   | (with_reducible refine Br.mk (fun hb => ?_) (fun hb => ?_) <;> (try rw [hb]) <;> (try simp only [List.length_map, decide_eq_true_eq, decide_eq_false_iff_not, Bool.not_eq_true', Bool.not_eq_false', Int.ofNat_lt, Int.ofNat_le, Int.not_lt, Int.not_le, Int.toNat_natCast] at hb))
   | ((with_reducible first | refine Or.inl (And.intro ?_ ?_) | refine And.intro ?_ ?_); (focus (first | with_reducible rfl | exact trivial | (exact ⟨rfl, trivial⟩) | (exact ⟨rfl, rfl, trivial⟩) | omega | (intro r hr; simp only [List.mem_singleton] at hr; subst hr; rfl)  | ((simp only [List.length_map] at *; omega)) | ((simp only [in64, maxLen] at *; omega)) | ((exact rows5 _)) | ((exact rows5t _ _ _)) | ((simp only [in64, maxLen, List.length_map] at *; omega)) | ((intro r hr; simp only [List.mem_cons, List.not_mem_nil, or_false] at hr; rcases hr with rfl | rfl <;> rfl)) | ((intro r hr; exact rows5 _ r hr)) | (simp only [in64]; omega) | assumption | (simp; done) | (simp [V.cells]; done) | (simp [in64, maxLen, limK] at *; omega) | ((show confB _ _ = true); kernel_rfl) | rfl)))
   | (intro row hrow; (try simp only [Int.toNat_natCast, List.length_map, toNat_pred, toNat_succ', toNat_zero', toNat_one'] at hrow); (first | (have hsm := same_map (by assumption) hrow; subst hsm; clear hrow) | (obtain ⟨p, hp, rfl⟩ := of_map hrow; clear hrow)))))
  refine AW.loop (fun (i : Nat) => i ≤ c.length ∧ idxG (idP p.id) c 0 = idxG (idP p.id) (c.drop i) i) (fun (i : Nat) => ⟨[(0, .sl (c.map encP)), (1, .fn 18 [.elt (encP p) 0]), (6, .sl (c.map encP)), (7, .int .i64 ((c.map encP).length : Int)), (8, .int .i64 (i : Int))], []⟩) (fun (i : Nat) => c.length - i) 0 ?_ ?_ ?_
  · (exact ⟨Nat.zero_le _, rfl⟩)
  · (refine ⟨⟨[], ?_⟩⟩; repeat' (first | (with_reducible rfl) | exact trivial | ((conv => whnf); (first | (with_reducible refine And.intro ?_ ?_) | (first | with_reducible rfl | ((first | refine congrArg V.str ?_ | refine congrArg (V.int _) ?_ | refine congrArg V.bool ?_ | refine congrArg V.sl ?_); (first | with_reducible rfl | omega | rfl | (simp; done))) | (first | with_reducible rfl | omega | rfl | (simp; done)) | rfl)))))
  · rintro i hk
    repeat' ((conv => whnf); (first
     | (with_reducible first | refine AW.seq ?_ | refine AW.region base (by kernel_rfl) ?_ | refine AW.cond ?_ | refine AW.block ?_ | refine AW.ret ?_ | refine AW.exit ?_ | refine AW.skip ?_ | refine Br.t ?_ | refine Br.f ?_)
     | ((with_reducible refine Or.inl ?_); (conv => whnf); (with_reducible refine And.intro LitSl.mk ?_))
     | refine Br.t ?_
     | refine Br.f ?_
     | ((with_reducible refine Or.inl ?_); (conv => whnf); (first | (with_reducible first | refine ⟨_, sameIdG_fn p q, ?_⟩)))
     | (with_reducible refine Br.mk (fun hb => ?_) (fun hb => ?_) <;> (try rw [hb]) <;> (try simp only [List.length_map, decide_eq_true_eq, decide_eq_false_iff_not, Bool.not_eq_true', Bool.not_eq_false', Int.ofNat_lt, Int.ofNat_le, Int.not_lt, Int.not_le, Int.toNat_natCast] at hb))
     | ((with_reducible first | refine Or.inl (And.intro ?_ ?_) | refine And.intro ?_ ?_); (focus (first | with_reducible rfl | exact trivial | (exact ⟨rfl, trivial⟩) | (exact ⟨rfl, rfl, trivial⟩) | omega | (intro r hr; simp only [List.mem_singleton] at hr; subst hr; rfl)  | ((simp only [List.length_map] at *; omega)) | ((simp only [in64, maxLen] at *; omega)) | ((exact rows5 _)) | ((exact rows5t _ _ _)) | ((simp only [in64, maxLen, List.length_map] at *; omega)) | ((intro r hr; simp only [List.mem_cons, List.not_mem_nil, or_false] at hr; rcases hr with rfl | rfl <;> rfl)) | ((intro r hr; exact rows5 _ r hr)) | (simp only [in64]; omega) | assumption | (simp; done) | (simp [V.cells]; done) | (simp [in64, maxLen, limK] at *; omega) | ((show confB _ _ = true); kernel_rfl) | rfl)))
     | (intro row hrow; (try simp only [Int.toNat_natCast, List.length_map, toNat_pred, toNat_succ', toNat_zero', toNat_one'] at hrow); (first | (have hsm := same_map (by assumption) hrow; subst hsm; clear hrow) | (obtain ⟨q, hq, rfl⟩ := of_map hrow; clear hrow)))))
    all_goals (try first | with_reducible assumption | ((first | show (_ : Int) ≤ _ | show (_ : Nat) ≤ _ | show (_ : Int) < _ | show ¬ (_ : Int) = _); (first | omega | (simp at *; omega))) | ((show in64 _); (simp only [in64] at *; (first | omega | (simp at *; omega)))) | ((with_reducible refine And.intro ?_ ?_) <;> (first | omega | (simp at *; omega))))
    all_goals (first
      | (with_reducible exact absurd rfl (by assumption))
      | ((conv => whnf); (refine ⟨(i + 1), ?_⟩); (refine And.intro ?_ (And.intro ?_ ?_)); (focus (refine ⟨⟨[], ?_⟩⟩; repeat' (first | (with_reducible rfl) | exact trivial | ((conv => whnf); (first | (with_reducible refine And.intro ?_ ?_) | (first | with_reducible rfl | ((first | refine congrArg V.str ?_ | refine congrArg (V.int _) ?_ | refine congrArg V.bool ?_ | refine congrArg V.sl ?_); (first | with_reducible rfl | omega | rfl | (simp; done))) | (first | with_reducible rfl | omega | rfl | (simp; done)) | rfl)))))); (focus (refine ⟨by omega, ?_⟩; rw [hk.2, dropP_get hq, idxG]; simp_all)); (focus (first | omega | (dsimp only; omega) | (simp; done) | (simp; omega) | (simp at *; omega))))
      | ((conv => whnf); (try (first | rfl | (exfalso; simp_all; done) | (exfalso; simp at *; omega) | (refine congrArg (V.int _) ?_; rw [hk.2, dropP_get hq, idxG]; simp_all; done) | (refine congrArg (V.int _) ?_; rw [hk.2, List.drop_of_length_le (by simp at *; omega)]; rfl))); done))


theorem idxG_none {α : Type} (p : α → Bool) : ∀ (l : List α) (i : Nat), (∀ x ∈ l, p x = false) → idxG p l i = -1
  | [], i, _ => rfl
  | x :: r, i, h => by rw [idxG, h x (by simp)]; exact idxG_none p r (i + 1) fun y hy => h y (by simp [hy])

set_option maxRecDepth 100000 in
set_option maxHeartbeats 400000 in
theorem sameNoG_fn (p : Plc) (c : List Plc) (h : ∀ x ∈ c, idP p.id x = false) : Fn Try.prog 21 [.sl (c.map encP), .fn 18 [.elt (encP p) 0]] (.bool false) := by
  refine Fn.mk' base Try.func21 rfl rfl rfl ?_
  repeat' ((conv => whnf); (first
   | (with_reducible first | refine AW.seq ?_ | refine AW.region base (by kernel_rfl) ?_ | refine AW.cond ?_ | refine AW.block ?_ | refine AW.ret ?_ | refine AW.exit ?_ | refine AW.skip ?_ | refine Br.t ?_ | refine Br.f ?_)
   | ((with_reducible refine Or.inl ?_); (conv => whnf); (with_reducible refine And.intro LitSl.mk ?_))
   | refine Br.t ?_
   | refine Br.f ?_
   | ((with_reducible refine Or.inl ?_); (conv => whnf); (first | (with_reducible first | refine ⟨_, sameIxG_fn p c, ?_⟩)))
   | (with_reducible refine Br.mk (fun hb => ?_) (fun hb => ?_) <;> (try rw [hb]) <;> (try simp only [List.length_map, decide_eq_true_eq, decide_eq_false_iff_not, Bool.not_eq_true', Bool.not_eq_false', Int.ofNat_lt, Int.ofNat_le, Int.not_lt, Int.not_le, Int.toNat_natCast] at hb))
   | ((with_reducible first | refine Or.inl (And.intro ?_ ?_) | refine And.intro ?_ ?_); (focus (first | with_reducible rfl | exact trivial | (exact ⟨rfl, trivial⟩) | (exact ⟨rfl, rfl, trivial⟩) | omega | (intro r hr; simp only [List.mem_singleton] at hr; subst hr; rfl)  | ((simp only [List.length_map] at *; omega)) | ((simp only [in64, maxLen] at *; omega)) | ((exact rows5 _)) | ((exact rows5t _ _ _)) | ((simp only [in64, maxLen, List.length_map] at *; omega)) | ((intro r hr; simp only [List.mem_cons, List.not_mem_nil, or_false] at hr; rcases hr with rfl | rfl <;> rfl)) | ((intro r hr; exact rows5 _ r hr)) | (simp only [in64]; omega) | assumption | (simp; done) | (simp [V.cells]; done) | (simp [in64, maxLen, limK] at *; omega) | ((show confB _ _ = true); kernel_rfl) | rfl)))
   | (intro row hrow; (try simp only [Int.toNat_natCast, List.length_map, toNat_pred, toNat_succ', toNat_zero', toNat_one'] at hrow); (first | (have hsm := same_map (by assumption) hrow; subst hsm; clear hrow) | (obtain ⟨p, hp, rfl⟩ := of_map hrow; clear hrow)))))
  all_goals (conv => whnf)
  all_goals (first | rfl | (simp only [V.bool.injEq, V.tup.injEq, V.agg.injEq, V.str.injEq, V.int.injEq, V.sl.injEq, V.ifc.injEq, List.cons.injEq, and_true, true_and, and_self]; done) | (simp only [V.bool.injEq, V.tup.injEq, V.agg.injEq, V.str.injEq, V.int.injEq, V.sl.injEq, V.ifc.injEq, List.cons.injEq, and_true, true_and, and_self]; grind) | (simp  at *; done) | (simp  at *; grind) | (exact congrArg V.bool (by rw [idxG_none _ _ _ h]; rfl)))

theorem sameNoG_take {l : List Plc} (h : IsPlan l) {i : Nat} {p : Plc} (hp : l[i]? = some p) : Fn Try.prog 21 [.sl (((l.map encP).take i).drop 0), .fn 18 [.elt (encP p) 0]] (.bool false) := by
  have := sameNoG_fn p (l.take i) fun x hx => by
    obtain ⟨j, hj⟩ := List.getElem?_of_mem hx
    rw [List.getElem?_take] at hj
    split at hj
    · rename_i hji
      have := h.ids j i x p hji hj hp
      simp [idP, this]
    · cases hj
  rwa [List.map_take] at this
theorem touch_at {l : List Plc} (h : IsPlan l) {i : Nat} {p q : Plc} (hq : l[i + 1]? = some q) (hp : l[i]? = some p) : Fn Try.prog 20 [.agg [.str p.f, .str p.t], .agg [.str q.f, .str q.t]] (.bool true) := by
  have := touch_fn ⟨p.f, p.t⟩ ⟨q.f, q.t⟩; rw [h.touch i p q hp hq] at this; exact this
theorem place_at {l : List Plc} (h : IsPlan l) {i : Nat} {p : Plc} (hp : l[i]? = some p) : Fn Try.prog 19 [.agg [.int .i64 p.id, .int .i64 p.ep, .int .i64 p.nd, .str p.f, .str p.t]] (.bool true) := by
  have := isPlaceG_fn p; rw [h.each i p hp] at this; exact this

set_option maxRecDepth 100000 in
set_option maxHeartbeats 400000 in
theorem planIsG_fn (l : List Plc) (h : IsPlan l) : Fn Try.prog 10 [.sl (l.map encP)] (.bool true) := by
  refine Fn.mk' base Try.func10 rfl rfl rfl ?_
  have h0 := h.len
  obtain ⟨p0, hp0⟩ : ∃ p, l[0]? = some p := ⟨_, List.getElem?_eq_getElem (by omega)⟩
  obtain ⟨pn, hpn⟩ : ∃ p, l[l.length - 1]? = some p := ⟨_, List.getElem?_eq_getElem (by omega)⟩
  have hf0 := h.first p0 hp0
  have hfn := h.last pn hpn
  repeat' ((conv => whnf); (first
   | (with_reducible first | refine AW.seq ?_ | refine AW.region base (by kernel_rfl) ?_ | refine AW.cond ?_ | refine AW.block ?_ | refine AW.ret ?_ | refine AW.exit ?_ | refine AW.skip ?_ | refine Br.t ?_ | refine Br.f ?_)
   | (with_reducible refine Br.mkT (fun hb => (by (first | (simp at hb; done) | omega | (simp only [List.length_map, decide_eq_true_eq, decide_eq_false_iff_not, Bool.not_eq_true', Bool.not_eq_false'] at hb; first | omega | exact absurd hf0 hb | exact absurd hfn hb | fail) | fail))) (fun hb => ?_))
   | (with_reducible refine Br.mkF (fun hb => (by (first | (simp at hb; done) | omega | (simp only [List.length_map, decide_eq_true_eq, decide_eq_false_iff_not, Bool.not_eq_true', Bool.not_eq_false'] at hb; first | omega | exact absurd hf0 hb | exact absurd hfn hb | fail) | fail))) (fun hb => ?_))
   | ((with_reducible refine Or.inl ?_); (conv => whnf); (with_reducible refine And.intro LitSl.mk ?_))
   | refine Br.t ?_
   | refine Br.f ?_
   | (with_reducible refine Br.mk (fun hb => ?_) (fun hb => ?_) <;> (try rw [hb]) <;> (try simp only [List.length_map, decide_eq_true_eq, decide_eq_false_iff_not, Bool.not_eq_true', Bool.not_eq_false', Int.ofNat_lt, Int.ofNat_le, Int.not_lt, Int.not_le, Int.toNat_natCast] at hb))
   | ((with_reducible first | refine Or.inl (And.intro ?_ ?_) | refine And.intro ?_ ?_); (focus (first | with_reducible rfl | exact trivial | (exact ⟨rfl, trivial⟩) | (exact ⟨rfl, rfl, trivial⟩) | omega | (intro r hr; simp only [List.mem_singleton] at hr; subst hr; rfl)  | ((have := h.len; simp only [List.length_map] at *; omega)) | ((have := h.len; simp only [in64, maxLen, List.length_map] at *; omega)) | ((exact rows5 _)) | ((have := h.len; simp only [in64, List.length_map]; omega)) | (simp only [in64]; omega) | assumption | (simp; done) | (simp [V.cells]; done) | (simp [in64, maxLen, limK] at *; omega) | ((show confB _ _ = true); kernel_rfl) | rfl)))
   | (intro row hrow; (try simp only [Int.toNat_natCast, List.length_map, toNat_pred, toNat_succ', toNat_zero', toNat_one', List.length_map] at hrow); (first | (have hsm := same_map hp0 hrow; subst hsm; clear hrow) | (have hsm := same_map hpn hrow; subst hsm; clear hrow) | (have hsm := same_map hp hrow; subst hsm; clear hrow) | (have hsm := same_map hq hrow; subst hsm; clear hrow)))))
  all_goals (try first | with_reducible assumption | ((first | show (_ : Int) ≤ _ | show (_ : Nat) ≤ _ | show (_ : Int) < _ | show ¬ (_ : Int) = _); (first | omega | (simp at *; omega) | (simp; done) | (simp [maxLen]; done))) | ((show in64 _); (simp only [in64] at *; (first | omega | (simp at *; omega) | (simp; done) | (simp [maxLen]; done)))) | ((with_reducible refine And.intro ?_ ?_) <;> (first | omega | (simp at *; omega) | (simp; done) | (simp [maxLen]; done))))
  refine AW.loop (fun (i : Nat) => i ≤ l.length) (fun (i : Nat) => ⟨[(0, .sl (l.map encP)), (33, .sl (l.map encP)), (34, .int .i64 ((l.map encP).length : Int)), (35, .int .i64 (i : Int))], []⟩) (fun i => l.length - i) 0 ?_ ?_ ?_
  · exact Nat.zero_le _
  · (refine ⟨⟨[], ?_⟩⟩; repeat' (first | (with_reducible rfl) | exact trivial | ((conv => whnf); (first | (with_reducible refine And.intro ?_ ?_) | (first | with_reducible rfl | ((first | refine congrArg V.str ?_ | refine congrArg (V.int _) ?_ | refine congrArg V.bool ?_ | refine congrArg V.sl ?_); (first | with_reducible rfl | omega | rfl | (simp; done))) | (first | with_reducible rfl | omega | rfl | (simp; done)) | rfl)))))
  · intro i hi
    rcases (by omega : i = l.length ∨ i < l.length) with hi2 | hi2
    · skip
      repeat' ((conv => whnf); (first
       | (with_reducible first | refine AW.seq ?_ | refine AW.region base (by kernel_rfl) ?_ | refine AW.cond ?_ | refine AW.block ?_ | refine AW.ret ?_ | refine AW.exit ?_ | refine AW.skip ?_ | refine Br.t ?_ | refine Br.f ?_)
       | (with_reducible refine Br.mkT (fun hb => (by (first | (simp at hb; done) | omega | (simp only [List.length_map, decide_eq_true_eq, decide_eq_false_iff_not, Bool.not_eq_true', Bool.not_eq_false'] at hb; first | omega | exact absurd hf0 hb | exact absurd hfn hb | fail) | fail))) (fun hb => ?_))
       | (with_reducible refine Br.mkF (fun hb => (by (first | (simp at hb; done) | omega | (simp only [List.length_map, decide_eq_true_eq, decide_eq_false_iff_not, Bool.not_eq_true', Bool.not_eq_false'] at hb; first | omega | exact absurd hf0 hb | exact absurd hfn hb | fail) | fail))) (fun hb => ?_))
       | ((with_reducible refine Or.inl ?_); (conv => whnf); (with_reducible refine And.intro LitSl.mk ?_))
       | refine Br.t ?_
       | refine Br.f ?_
       | (with_reducible refine Br.mk (fun hb => ?_) (fun hb => ?_) <;> (try rw [hb]) <;> (try simp only [List.length_map, decide_eq_true_eq, decide_eq_false_iff_not, Bool.not_eq_true', Bool.not_eq_false', Int.ofNat_lt, Int.ofNat_le, Int.not_lt, Int.not_le, Int.toNat_natCast] at hb))
       | ((with_reducible first | refine Or.inl (And.intro ?_ ?_) | refine And.intro ?_ ?_); (focus (first | with_reducible rfl | exact trivial | (exact ⟨rfl, trivial⟩) | (exact ⟨rfl, rfl, trivial⟩) | omega | (intro r hr; simp only [List.mem_singleton] at hr; subst hr; rfl)  | ((have := h.len; simp only [List.length_map] at *; omega)) | ((have := h.len; simp only [in64, maxLen, List.length_map] at *; omega)) | ((exact rows5 _)) | ((have := h.len; simp only [in64, List.length_map]; omega)) | (simp only [in64]; omega) | assumption | (simp; done) | (simp [V.cells]; done) | (simp [in64, maxLen, limK] at *; omega) | ((show confB _ _ = true); kernel_rfl) | rfl)))
       | (intro row hrow; (try simp only [Int.toNat_natCast, List.length_map, toNat_pred, toNat_succ', toNat_zero', toNat_one', List.length_map] at hrow); (first | (have hsm := same_map hp0 hrow; subst hsm; clear hrow) | (have hsm := same_map hpn hrow; subst hsm; clear hrow) | (have hsm := same_map hp hrow; subst hsm; clear hrow) | (have hsm := same_map hq hrow; subst hsm; clear hrow)))))
      all_goals ((conv => whnf); first | done | rfl)
    obtain ⟨q, hq⟩ : ∃ p, l[i]? = some p := ⟨_, List.getElem?_eq_getElem hi2⟩
    rcases Nat.eq_zero_or_pos i with hz | hz
    · subst hz
      repeat' ((conv => whnf); (first
       | (with_reducible first | refine AW.seq ?_ | refine AW.region base (by kernel_rfl) ?_ | refine AW.cond ?_ | refine AW.block ?_ | refine AW.ret ?_ | refine AW.exit ?_ | refine AW.skip ?_ | refine Br.t ?_ | refine Br.f ?_)
       | (with_reducible refine Br.mkT (fun hb => (by (first | (simp at hb; done) | omega | (simp only [List.length_map, decide_eq_true_eq, decide_eq_false_iff_not, Bool.not_eq_true', Bool.not_eq_false'] at hb; first | omega | exact absurd hf0 hb | exact absurd hfn hb | fail) | fail))) (fun hb => ?_))
       | (with_reducible refine Br.mkF (fun hb => (by (first | (simp at hb; done) | omega | (simp only [List.length_map, decide_eq_true_eq, decide_eq_false_iff_not, Bool.not_eq_true', Bool.not_eq_false'] at hb; first | omega | exact absurd hf0 hb | exact absurd hfn hb | fail) | fail))) (fun hb => ?_))
       | ((with_reducible refine Or.inl ?_); (conv => whnf); (with_reducible refine And.intro LitSl.mk ?_))
       | refine Br.t ?_
       | refine Br.f ?_
       | ((with_reducible refine Or.inl ?_); (conv => whnf); (first | (with_reducible first | refine ⟨_, place_at h hq, ?_⟩) | refine ⟨_, sameNoG_take h hq, ?_⟩))
       | (with_reducible refine Br.mk (fun hb => ?_) (fun hb => ?_) <;> (try rw [hb]) <;> (try simp only [List.length_map, decide_eq_true_eq, decide_eq_false_iff_not, Bool.not_eq_true', Bool.not_eq_false', Int.ofNat_lt, Int.ofNat_le, Int.not_lt, Int.not_le, Int.toNat_natCast] at hb))
       | ((with_reducible first | refine Or.inl (And.intro ?_ ?_) | refine And.intro ?_ ?_); (focus (first | with_reducible rfl | exact trivial | (exact ⟨rfl, trivial⟩) | (exact ⟨rfl, rfl, trivial⟩) | omega | (intro r hr; simp only [List.mem_singleton] at hr; subst hr; rfl)  | ((have := h.len; simp only [List.length_map] at *; omega)) | ((have := h.len; simp only [in64, maxLen, List.length_map] at *; omega)) | ((exact rows5 _)) | ((have := h.len; simp only [in64, List.length_map]; omega)) | (simp only [in64]; omega) | assumption | (simp; done) | (simp [V.cells]; done) | (simp [in64, maxLen, limK] at *; omega) | ((show confB _ _ = true); kernel_rfl) | rfl)))
       | (intro row hrow; (try simp only [Int.toNat_natCast, List.length_map, toNat_pred, toNat_succ', toNat_zero', toNat_one', List.length_map] at hrow); (first | (have hsm := same_map hq hrow; subst hsm; clear hrow) | (have hsm := same_map hp hrow; subst hsm; clear hrow)))))
      all_goals (try first | with_reducible assumption | ((first | show (_ : Int) ≤ _ | show (_ : Nat) ≤ _ | show (_ : Int) < _ | show ¬ (_ : Int) = _); (first | omega | (simp at *; omega) | (simp; done) | (simp [maxLen]; done))) | ((show in64 _); (simp only [in64] at *; (first | omega | (simp at *; omega) | (simp; done) | (simp [maxLen]; done)))) | ((with_reducible refine And.intro ?_ ?_) <;> (first | omega | (simp at *; omega) | (simp; done) | (simp [maxLen]; done))))
      all_goals (first
        | (with_reducible exact absurd rfl (by assumption))
        | ((conv => whnf); (refine ⟨(0 + 1), ?_⟩); (refine And.intro ?_ (And.intro ?_ ?_)); (focus (refine ⟨⟨[], ?_⟩⟩; repeat' (first | (with_reducible rfl) | exact trivial | ((conv => whnf); (first | (with_reducible refine And.intro ?_ ?_) | (first | with_reducible rfl | ((first | refine congrArg V.str ?_ | refine congrArg (V.int _) ?_ | refine congrArg V.bool ?_ | refine congrArg V.sl ?_); (first | with_reducible rfl | omega | rfl | (simp; done))) | (first | with_reducible rfl | omega | rfl | (simp; done)) | rfl)))))); (focus (show (0 + 1) ≤ l.length; omega)); (focus (first | omega | (dsimp only; omega) | (simp; done) | (simp; omega) | (simp at *; omega))))
        | ((conv => whnf); (try (first | rfl | (exfalso; simp_all; done) | (exfalso; simp at *; omega) | done)); done))

    · obtain ⟨j, rfl⟩ : ∃ j, i = j + 1 := ⟨i - 1, by omega⟩
      obtain ⟨p, hp⟩ : ∃ p, l[j]? = some p := ⟨_, List.getElem?_eq_getElem (by omega)⟩
      repeat' ((conv => whnf); (first
       | (with_reducible first | refine AW.seq ?_ | refine AW.region base (by kernel_rfl) ?_ | refine AW.cond ?_ | refine AW.block ?_ | refine AW.ret ?_ | refine AW.exit ?_ | refine AW.skip ?_ | refine Br.t ?_ | refine Br.f ?_)
       | (with_reducible refine Br.mkT (fun hb => (by (first | (simp at hb; done) | omega | (simp only [List.length_map, decide_eq_true_eq, decide_eq_false_iff_not, Bool.not_eq_true', Bool.not_eq_false'] at hb; first | omega | exact absurd hf0 hb | exact absurd hfn hb | fail) | fail))) (fun hb => ?_))
       | (with_reducible refine Br.mkF (fun hb => (by (first | (simp at hb; done) | omega | (simp only [List.length_map, decide_eq_true_eq, decide_eq_false_iff_not, Bool.not_eq_true', Bool.not_eq_false'] at hb; first | omega | exact absurd hf0 hb | exact absurd hfn hb | fail) | fail))) (fun hb => ?_))
       | ((with_reducible refine Or.inl ?_); (conv => whnf); (with_reducible refine And.intro LitSl.mk ?_))
       | refine Br.t ?_
       | refine Br.f ?_
       | ((with_reducible refine Or.inl ?_); (conv => whnf); (first | (with_reducible first | refine ⟨_, place_at h hq, ?_⟩ | refine ⟨_, touch_at h hq hp, ?_⟩) | refine ⟨_, sameNoG_take h hq, ?_⟩))
       | (with_reducible refine Br.mk (fun hb => ?_) (fun hb => ?_) <;> (try rw [hb]) <;> (try simp only [List.length_map, decide_eq_true_eq, decide_eq_false_iff_not, Bool.not_eq_true', Bool.not_eq_false', Int.ofNat_lt, Int.ofNat_le, Int.not_lt, Int.not_le, Int.toNat_natCast] at hb))
       | ((with_reducible first | refine Or.inl (And.intro ?_ ?_) | refine And.intro ?_ ?_); (focus (first | with_reducible rfl | exact trivial | (exact ⟨rfl, trivial⟩) | (exact ⟨rfl, rfl, trivial⟩) | omega | (intro r hr; simp only [List.mem_singleton] at hr; subst hr; rfl)  | ((have := h.len; simp only [List.length_map] at *; omega)) | ((have := h.len; simp only [in64, maxLen, List.length_map] at *; omega)) | ((exact rows5 _)) | ((have := h.len; simp only [in64, List.length_map]; omega)) | (simp only [in64]; omega) | assumption | (simp; done) | (simp [V.cells]; done) | (simp [in64, maxLen, limK] at *; omega) | ((show confB _ _ = true); kernel_rfl) | rfl)))
       | (intro row hrow; (try simp only [Int.toNat_natCast, List.length_map, toNat_pred, toNat_succ', toNat_zero', toNat_one', List.length_map] at hrow); (first | (have hsm := same_map hq hrow; subst hsm; clear hrow) | (have hsm := same_map hp hrow; subst hsm; clear hrow)))))
      all_goals (try first | with_reducible assumption | ((first | show (_ : Int) ≤ _ | show (_ : Nat) ≤ _ | show (_ : Int) < _ | show ¬ (_ : Int) = _); (first | omega | (simp at *; omega) | (simp; done) | (simp [maxLen]; done))) | ((show in64 _); (simp only [in64] at *; (first | omega | (simp at *; omega) | (simp; done) | (simp [maxLen]; done)))) | ((with_reducible refine And.intro ?_ ?_) <;> (first | omega | (simp at *; omega) | (simp; done) | (simp [maxLen]; done))))
      all_goals (first
        | (with_reducible exact absurd rfl (by assumption))
        | ((conv => whnf); (refine ⟨(j + 1 + 1), ?_⟩); (refine And.intro ?_ (And.intro ?_ ?_)); (focus (refine ⟨⟨[], ?_⟩⟩; repeat' (first | (with_reducible rfl) | exact trivial | ((conv => whnf); (first | (with_reducible refine And.intro ?_ ?_) | (first | with_reducible rfl | ((first | refine congrArg V.str ?_ | refine congrArg (V.int _) ?_ | refine congrArg V.bool ?_ | refine congrArg V.sl ?_); (first | with_reducible rfl | omega | rfl | (simp; done))) | (first | with_reducible rfl | omega | rfl | (simp; done)) | rfl)))))); (focus (show (j + 1 + 1) ≤ l.length; omega)); (focus (first | omega | (dsimp only; omega) | (simp; done) | (simp; omega) | (simp at *; omega))))
        | ((conv => whnf); (try (first | rfl | (exfalso; simp_all; done) | (exfalso; simp at *; omega) | done)); done))


end Go.Proofs.Ytmlfknmpapbpgaa
