/-
  Errors that are the call's own: New, Wrap, Unwrap, errors.Is of a fault and what it wraps; both are given up by it. No conditions.
-/
import Derived.Test.YthchmjdgepbjpaaDoorErr
namespace Go.Proofs.YthchmjdgepbjpaaDoor
open Go.RowKit
set_option linter.unusedSimpArgs false
set_option linter.unusedVariables false

section
variable {P : Program} {T : Tab} {N na : Nat} {Q : Exit → Env → Hp → Prop} {cx : Cx} {h : Hp} {w : World} {R : Nat → Prop} {ρ : Rho} {e : Env}
theorem St.viewP [Inhabited TabT] {a t : Nat} {cs : List V} {x : Value} (hs : St P cx h w R ρ) (ha : h a = some (.rd (.elt cs 0))) (hr : Rep w R ρ (.ifc t (.ptr a 0)) x) : Rep w R ρ (.ifc t (.elt cs 0)) x := by
  cases hr with
  | ifc h1 =>
    cases h1 with
    | ptr hp =>
      obtain ⟨cs', hcs, hrd⟩ := hs.brep a _ _ hp ha
      cases hcs
      exact .ifc (hrd.mono (fun _ h => h) (fun _ _ => rfl) (fun k o h => by cases h))
/-- a pointer in a block's second cell to a block that is given up, as what is there -/
theorem AW.viewC [Inhabited TabT] {c : Code} (k a : Nat) {u : V} {t : Nat} {cs : List V} (hk : h k = some (.cells [u, .ifc t (.ptr a 0)])) (hq : h a = some (.rd (.elt cs 0))) (K : AW P N na c e (h.set k (some (.cells [u, .ifc t (.elt cs 0)]))) Q) : AW P N na c e h Q :=
  ⟨fun cx an R ρ ac w hn hs ht ha he => K.run cx an R ρ ac w hn (hs.recell hk fun xs hr => by
    obtain ⟨x, r, rfl, h1, h2⟩ := hr.uncons
    obtain ⟨y, r', rfl, h3, h4⟩ := h2.uncons
    exact .cons h1 (.cons (hs.viewP hq h3) h4)) (fun j o hj => Hp.mono_set h k _ j (ht j o hj)) ha he⟩
end

set_option maxRecDepth 100000 in
set_option maxHeartbeats 400000 in
theorem newO [Inhabited TabT] (c : Int) (a : Bs) (h : c ≠ 0) : FnM Tryd.prog 6 [.int .i64 c, .str a] [] (.ifc 39 (.ptr 0 0)) [.cells [.str a, .ifc 24 (.int .i64 c)]] := by
  refine FnM.mk' base Tryd.func6 rfl rfl rfl rfl ?_
  repeat' ((conv => whnf); (first
   | (with_reducible first | refine AW.seq ?_ | refine AW.region base (by kernel_rfl) ?_ | refine AW.cond ?_ | refine AW.block ?_ | refine AW.ret ?_ | refine AW.exit ?_ | refine AW.skip ?_ | refine Br.t ?_ | refine Br.f ?_)
   | (with_reducible refine Br.mk (fun hb => (h (by first | exact of_decide_eq_true hb | simpa using hb)).elim) (fun hb => ?_))
   | ((with_reducible refine Or.inl ?_); (conv => whnf); (with_reducible refine And.intro LitSl.mk ?_))
   | refine Br.t ?_
   | refine Br.f ?_
   | (with_reducible refine Br.mk (fun hb => ?_) (fun hb => ?_) <;> (try rw [hb]) <;> (try simp only [List.length_map, decide_eq_true_eq, decide_eq_false_iff_not, Bool.not_eq_true', Bool.not_eq_false', Int.ofNat_lt, Int.ofNat_le, Int.not_lt, Int.not_le, Int.toNat_natCast] at hb))
   | ((with_reducible first | refine Or.inl (And.intro ?_ ?_) | refine And.intro ?_ ?_); (focus (first | with_reducible rfl | exact trivial | (exact ⟨rfl, trivial⟩) | (exact ⟨rfl, rfl, trivial⟩) | omega | (intro r hr; simp only [List.mem_singleton] at hr; subst hr; rfl)  | (simp only [in64]; omega) | assumption | (simp; done) | (simp [V.cells]; done) | (simp [in64, maxLen, limK] at *; omega) | ((show confB _ _ = true); kernel_rfl) | rfl)))
   | (intro row hrow; (try simp only [Int.toNat_natCast, List.length_map, toNat_pred, toNat_succ', toNat_zero', toNat_one'] at hrow); (first | (have hsm := same_map (by assumption) hrow; subst hsm; clear hrow) | (obtain ⟨p, hp, rfl⟩ := of_map hrow; clear hrow)))))
  all_goals (first | (exfalso; exact h (by assumption)) | skip)
  all_goals (conv => whnf)
  all_goals (refine ⟨[4004], ?_⟩)
  all_goals (repeat' (first | (with_reducible rfl) | exact trivial | ((conv => whnf); (first | (with_reducible refine And.intro ?_ ?_) | exact trivial | (intro hb; first | (exfalso; simp_all; done) | skip)))))
  all_goals (first | rfl)

set_option maxRecDepth 100000 in
set_option maxHeartbeats 400000 in
theorem wrapO [Inhabited TabT] (c : Int) (a b : Bs) : FnM Tryd.prog 8 [.ifc 39 (.ptr 0 0), .str b] [.cells [.str a, .ifc 24 (.int .i64 c)]] (.ifc 39 (.ptr 1 0)) [.cells [.str a, .ifc 24 (.int .i64 c)], .cells [.str b, .ifc 39 (.ptr 0 0)]] := by
  refine FnM.mk' base Tryd.func8 rfl rfl rfl rfl ?_
  repeat' ((conv => whnf); (first
   | (with_reducible first | refine AW.seq ?_ | refine AW.region base (by kernel_rfl) ?_ | refine AW.cond ?_ | refine AW.block ?_ | refine AW.ret ?_ | refine AW.exit ?_ | refine AW.skip ?_ | refine Br.t ?_ | refine Br.f ?_)
   | ((with_reducible refine Or.inl ?_); (conv => whnf); (with_reducible refine And.intro LitSl.mk ?_))
   | refine Br.t ?_
   | refine Br.f ?_
   | (with_reducible refine Br.mk (fun hb => ?_) (fun hb => ?_) <;> (try rw [hb]) <;> (try simp only [List.length_map, decide_eq_true_eq, decide_eq_false_iff_not, Bool.not_eq_true', Bool.not_eq_false', Int.ofNat_lt, Int.ofNat_le, Int.not_lt, Int.not_le, Int.toNat_natCast] at hb))
   | ((with_reducible first | refine Or.inl (And.intro ?_ ?_) | refine And.intro ?_ ?_); (focus (first | with_reducible rfl | exact trivial | (exact ⟨rfl, trivial⟩) | (exact ⟨rfl, rfl, trivial⟩) | omega | (intro r hr; simp only [List.mem_singleton] at hr; subst hr; rfl)  | (simp only [in64]; omega) | assumption | (simp; done) | (simp [V.cells]; done) | (simp [in64, maxLen, limK] at *; omega) | ((show confB _ _ = true); kernel_rfl) | rfl)))
   | (intro row hrow; (try simp only [Int.toNat_natCast, List.length_map, toNat_pred, toNat_succ', toNat_zero', toNat_one'] at hrow); (first | (have hsm := same_map (by assumption) hrow; subst hsm; clear hrow) | (obtain ⟨p, hp, rfl⟩ := of_map hrow; clear hrow)))))
  all_goals (conv => whnf)
  all_goals (refine ⟨[0, 4003], ?_⟩)
  all_goals (repeat' (first | (with_reducible rfl) | exact trivial | ((conv => whnf); (first | (with_reducible refine And.intro ?_ ?_) | exact trivial | (intro hb; first | (exfalso; simp_all; done) | skip)))))
  all_goals (first | rfl)

set_option maxRecDepth 100000 in
set_option maxHeartbeats 400000 in
theorem unwrapO [Inhabited TabT] (c : Int) (a b : Bs) : FnM Tryd.prog 55 [.ptr 0 0] [.cells [.str b, .ifc 39 (.ptr 1 0)], .cells [.str a, .ifc 24 (.int .i64 c)]] (.ifc 39 (.ptr 1 0)) [.cells [.str b, .ifc 39 (.ptr 1 0)], .cells [.str a, .ifc 24 (.int .i64 c)]] := by
  refine FnM.mk' base Tryd.func55 rfl rfl rfl rfl ?_
  repeat' ((conv => whnf); (first
   | (with_reducible first | refine AW.seq ?_ | refine AW.region base (by kernel_rfl) ?_ | refine AW.cond ?_ | refine AW.block ?_ | refine AW.ret ?_ | refine AW.exit ?_ | refine AW.skip ?_ | refine Br.t ?_ | refine Br.f ?_)
   | ((with_reducible refine Or.inl ?_); (conv => whnf); (with_reducible refine And.intro LitSl.mk ?_))
   | refine Br.t ?_
   | refine Br.f ?_
   | (with_reducible refine Br.mk (fun hb => ?_) (fun hb => ?_) <;> (try rw [hb]) <;> (try simp only [List.length_map, decide_eq_true_eq, decide_eq_false_iff_not, Bool.not_eq_true', Bool.not_eq_false', Int.ofNat_lt, Int.ofNat_le, Int.not_lt, Int.not_le, Int.toNat_natCast] at hb))
   | ((with_reducible first | refine Or.inl (And.intro ?_ ?_) | refine And.intro ?_ ?_); (focus (first | with_reducible rfl | exact trivial | (exact ⟨rfl, trivial⟩) | (exact ⟨rfl, rfl, trivial⟩) | omega | (intro r hr; simp only [List.mem_singleton] at hr; subst hr; rfl)  | (simp only [in64]; omega) | assumption | (simp; done) | (simp [V.cells]; done) | (simp [in64, maxLen, limK] at *; omega) | ((show confB _ _ = true); kernel_rfl) | rfl)))
   | (intro row hrow; (try simp only [Int.toNat_natCast, List.length_map, toNat_pred, toNat_succ', toNat_zero', toNat_one'] at hrow); (first | (have hsm := same_map (by assumption) hrow; subst hsm; clear hrow) | (obtain ⟨p, hp, rfl⟩ := of_map hrow; clear hrow)))))
  all_goals (conv => whnf)
  all_goals (refine ⟨[0, 1], ?_⟩)
  all_goals (repeat' (first | (with_reducible rfl) | exact trivial | ((conv => whnf); (first | (with_reducible refine And.intro ?_ ?_) | exact trivial | (intro hb; first | (exfalso; simp_all; done) | skip)))))
  all_goals (first | rfl)

set_option maxRecDepth 100000 in
set_option maxHeartbeats 400000 in
theorem isO2 [Inhabited TabT] (c : Int) (a b : Bs) : FnM Tryd.prog 21 [.ifc 39 (.ptr 1 0), .ifc 39 (.ptr 0 0), .bool true] [.cells [.str a, .ifc 24 (.int .i64 c)], .cells [.str b, .ifc 39 (.ptr 0 0)]] (.bool true) [.cells [.str a, .ifc 24 (.int .i64 c)], .cells [.str b, .ifc 39 (.ptr 0 0)]] := by
  refine FnM.mk' base Tryd.func21 rfl rfl rfl rfl ?_
  repeat' ((conv => whnf); (first
   | ((with_reducible show AW _ _ _ (Code.loop _) _ _ _); (refine AW.rounds 2 ?_))
   | (with_reducible first | refine AW.seq ?_ | refine AW.region base (by kernel_rfl) ?_ | refine AW.cond ?_ | refine AW.block ?_ | refine AW.ret ?_ | refine AW.exit ?_ | refine AW.skip ?_ | refine Br.t ?_ | refine Br.f ?_)
   | ((with_reducible refine Or.inl ?_); (conv => whnf); (with_reducible refine And.intro LitSl.mk ?_))
   | refine Br.t ?_
   | refine Br.f ?_
   | (with_reducible refine Or.inr ⟨[?_, ?_], _, _, _, _, unwrapO c a b, ?_⟩)
   | (with_reducible refine Or.inr (Or.inr ⟨[?_, ?_], _, _, _, _, unwrapO c a b, ?_⟩))
   | (with_reducible refine Br.mk (fun hb => ?_) (fun hb => ?_) <;> (try rw [hb]) <;> (try simp only [List.length_map, decide_eq_true_eq, decide_eq_false_iff_not, Bool.not_eq_true', Bool.not_eq_false', Int.ofNat_lt, Int.ofNat_le, Int.not_lt, Int.not_le, Int.toNat_natCast] at hb))
   | ((with_reducible first | refine Or.inl (And.intro ?_ ?_) | refine And.intro ?_ ?_); (focus (first | with_reducible rfl | exact trivial | (exact ⟨rfl, trivial⟩) | (exact ⟨rfl, rfl, trivial⟩) | omega | (intro r hr; simp only [List.mem_singleton] at hr; subst hr; rfl)  | (simp only [in64]; omega) | assumption | (simp; done) | (simp [V.cells]; done) | (simp [in64, maxLen, limK] at *; omega) | ((show confB _ _ = true); kernel_rfl) | rfl)))
   | (intro row hrow; (try simp only [Int.toNat_natCast, List.length_map, toNat_pred, toNat_succ', toNat_zero', toNat_one'] at hrow); (first | (have hsm := same_map (by assumption) hrow; subst hsm; clear hrow) | (obtain ⟨p, hp, rfl⟩ := of_map hrow; clear hrow)))))
  all_goals (conv => whnf)
  all_goals (refine ⟨[0, 1], ?_⟩)
  all_goals (repeat' (first | (with_reducible rfl) | exact trivial | ((conv => whnf); (first | (with_reducible refine And.intro ?_ ?_) | exact trivial | (intro hb; first | (exfalso; simp_all; done) | skip)))))
  all_goals (first | rfl)

set_option maxRecDepth 100000 in
set_option maxHeartbeats 400000 in
theorem isO [Inhabited TabT] (c : Int) (a b : Bs) : FnM Tryd.prog 10 [.ifc 39 (.ptr 1 0), .ifc 39 (.ptr 0 0)] [.cells [.str a, .ifc 24 (.int .i64 c)], .cells [.str b, .ifc 39 (.ptr 0 0)]] (.bool true) [.rd (.elt [.str a, .ifc 24 (.int .i64 c)] 0), .rd (.elt [.str b, .ifc 39 (.elt [.str a, .ifc 24 (.int .i64 c)] 0)] 0)] := by
  refine FnM.mk' base Tryd.func10 rfl rfl rfl rfl ?_
  repeat' ((conv => whnf); (first
   | ((with_reducible show AW _ _ _ Code.ret _ _ _); (refine AW.freezeC 0 (cs := [.str a, .ifc 24 (.int .i64 c)]) rfl rfl ?_); (refine AW.viewC 1 0 (u := .str b) (t := 39) (cs := [.str a, .ifc 24 (.int .i64 c)]) rfl rfl ?_); (refine AW.freezeC 1 (cs := [.str b, .ifc 39 (.elt [.str a, .ifc 24 (.int .i64 c)] 0)]) rfl rfl ?_); (refine AW.ret ?_))
   | (with_reducible first | refine AW.seq ?_ | refine AW.region base (by kernel_rfl) ?_ | refine AW.cond ?_ | refine AW.block ?_ | refine AW.ret ?_ | refine AW.exit ?_ | refine AW.skip ?_ | refine Br.t ?_ | refine Br.f ?_)
   | ((with_reducible refine Or.inl ?_); (conv => whnf); (with_reducible refine And.intro LitSl.mk ?_))
   | refine Br.t ?_
   | refine Br.f ?_
   | ((with_reducible refine Or.inl ?_); (conv => whnf); (first | (with_reducible first | refine ⟨_, typeOf_X _, ?_⟩ | refine ⟨_, comparable_X, ?_⟩)))
   | (with_reducible refine Or.inr ⟨[?_, ?_], _, _, _, _, isO2 c a b, ?_⟩)
   | (with_reducible refine Or.inr (Or.inr ⟨[?_, ?_], _, _, _, _, isO2 c a b, ?_⟩))
   | (with_reducible refine Br.mk (fun hb => ?_) (fun hb => ?_) <;> (try rw [hb]) <;> (try simp only [List.length_map, decide_eq_true_eq, decide_eq_false_iff_not, Bool.not_eq_true', Bool.not_eq_false', Int.ofNat_lt, Int.ofNat_le, Int.not_lt, Int.not_le, Int.toNat_natCast] at hb))
   | ((with_reducible first | refine Or.inl (And.intro ?_ ?_) | refine And.intro ?_ ?_); (focus (first | with_reducible rfl | exact trivial | (exact ⟨rfl, trivial⟩) | (exact ⟨rfl, rfl, trivial⟩) | omega | (intro r hr; simp only [List.mem_singleton] at hr; subst hr; rfl)  | (simp only [in64]; omega) | assumption | (simp; done) | (simp [V.cells]; done) | (simp [in64, maxLen, limK] at *; omega) | ((show confB _ _ = true); kernel_rfl) | rfl)))
   | (intro row hrow; (try simp only [Int.toNat_natCast, List.length_map, toNat_pred, toNat_succ', toNat_zero', toNat_one'] at hrow); (first | (have hsm := same_map (by assumption) hrow; subst hsm; clear hrow) | (obtain ⟨p, hp, rfl⟩ := of_map hrow; clear hrow)))))
  all_goals (conv => whnf)
  all_goals (refine ⟨[0, 1], ?_⟩)
  all_goals (repeat' (first | (with_reducible rfl) | exact trivial | ((conv => whnf); (first | (with_reducible refine And.intro ?_ ?_) | exact trivial | (intro hb; first | (exfalso; simp_all; done) | skip)))))
  all_goals (first | rfl)
end Go.Proofs.YthchmjdgepbjpaaDoor

-- tabvar