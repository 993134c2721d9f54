/-
  Walks of package frame: what is wrapped at the front of whatever bytes. No conditions.
-/
import Derived.Test.YtnblecdpkbempaaGreatDoorLaw7a
namespace Go.Proofs.YtnblecdpkbempaaGreatDoor
open Go.RowKit
set_option linter.unusedSimpArgs false
set_option linter.unusedVariables false

theorem textF_len {s x r : Bs} {m : Int} (h : textF s m = some (x, r)) : r.length ≤ s.length ∧ x.length ≤ m := by
  obtain ⟨n, r', h1, h2, h3, rfl, rfl⟩ := textF_some h
  have := (takeF_lt h1).2
  rw [List.length_drop, List.length_take]
  omega
theorem drop4' (s : Bs) : List.drop (4 : Int).toNat (List.take s.length s) = s.drop 4 := by rw [List.take_length]; rfl
theorem mid4' (s : Bs) (n : Nat) (h : n ≤ s.length) : List.drop (4 : Int).toNat (List.take ((s.length : Int) - (n : Int)).toNat s) = (s.take (s.length - n)).drop 4 := by
  rw [show ((s.length : Int) - (n : Int)).toNat = s.length - n by omega]; rfl
theorem take4' (s : Bs) : List.drop 0 (List.take (4 : Int).toNat s) = s.take 4 := rfl
theorem text_of (s u x r : Bs) (h : s = u) (hx : textF u 200000 = some (x, r)) : Fn Tryz.prog 87 [.str s, .int .i64 200000] (.tup [.str x, .str r, noErr]) := by
  subst h; exact text_some s x r 200000 hx

set_option maxRecDepth 100000 in
set_option maxHeartbeats 400000 in
theorem openG_ok (s x r : Bs) (hl : s.length ≤ 1000000) (h4 : 4 ≤ s.length) (hT : textF (s.drop 4) 200000 = some (x, r)) (hq : bytes4 (sum ((s.take (s.length - r.length)).drop 4)) = s.take 4) : Fn Tryz.prog 41 [.str s] (.tup [.str x, .str r, noErr]) := by
  refine Fn.mk' base Tryz.func41 rfl rfl rfl ?_
  obtain ⟨hr1, hx1⟩ := textF_len hT
  rw [List.length_drop] at hr1
  have hd := drop4' s
  have hm := mid4' s r.length (by omega)
  have hul : ((s.take (s.length - r.length)).drop 4).length ≤ 1000000 := by rw [List.length_drop, List.length_take]; omega
  have ht4 := take4' s
  repeat' ((conv => whnf); (first
   | (with_reducible first | refine AW.seq ?_ | refine AW.region base (by kernel_rfl) ?_ | refine AW.cond ?_ | refine AW.block ?_ | refine AW.ret ?_ | refine AW.exit ?_ | refine AW.skip ?_ | refine Br.t ?_ | refine Br.f ?_)
   | (with_reducible refine Br.mkT (fun hb => (by (first | omega | (simp at hb; done) | (simp only [decide_eq_true_eq, decide_eq_false_iff_not] at hb; omega) | (simp only [decide_eq_true_eq, decide_eq_false_iff_not, Bool.not_eq_true', Bool.not_eq_false'] at hb; exact absurd (hq.trans ht4.symm) hb) | fail))) (fun hb => ?_))
   | (with_reducible refine Br.mkF (fun hb => (by (first | omega | (simp at hb; done) | (simp only [decide_eq_true_eq, decide_eq_false_iff_not] at hb; omega) | (simp only [decide_eq_true_eq, decide_eq_false_iff_not, Bool.not_eq_true', Bool.not_eq_false'] at hb; exact absurd (hq.trans ht4.symm) hb) | fail))) (fun hb => ?_))
   | ((with_reducible refine Or.inl ?_); (conv => whnf); (with_reducible refine And.intro LitSl.mk ?_))
   | refine Br.t ?_
   | refine Br.f ?_
   | ((with_reducible refine Or.inl ?_); (conv => whnf); (first | (with_reducible first | refine ⟨_, text_of _ _ x r hd hT, ?_⟩ | refine ⟨_, sum_of _ _ hm hul, ?_⟩ | refine ⟨_, bytes_fn _, ?_⟩)))
   | (with_reducible refine Br.mk (fun hb => ?_) (fun hb => ?_) <;> (try rw [hb]) <;> (try simp only [List.length_map, decide_eq_true_eq, decide_eq_false_iff_not, Bool.not_eq_true', Bool.not_eq_false', Int.ofNat_lt, Int.ofNat_le, Int.not_lt, Int.not_le, Int.toNat_natCast] at hb))
   | ((with_reducible first | refine Or.inl (And.intro ?_ ?_) | refine And.intro ?_ ?_); (focus (first | with_reducible rfl | exact trivial | (exact ⟨rfl, trivial⟩) | (exact ⟨rfl, rfl, trivial⟩) | omega | (intro r hr; simp only [List.mem_singleton] at hr; subst hr; rfl)  | ((simp only [in64] at *; omega)) | ((rw [bytes4_len]; simp only [maxLen]; omega)) | ((simp only [maxLen] at *; omega)) | (simp only [in64]; omega) | assumption | (simp; done) | (simp [V.cells]; done) | (simp [in64, maxLen, limK] at *; omega) | ((show confB _ _ = true); kernel_rfl) | rfl)))
   | (intro row hrow; (try simp only [Int.toNat_natCast, List.length_map, toNat_pred, toNat_succ', toNat_zero', toNat_one'] at hrow); (first | (have hsm := same_map (by assumption) hrow; subst hsm; clear hrow) | (obtain ⟨p, hp, rfl⟩ := of_map hrow; clear hrow)))))
  all_goals (conv => whnf)
  all_goals (first | rfl | (simp only [V.bool.injEq, V.tup.injEq, V.agg.injEq, V.str.injEq, V.int.injEq, V.sl.injEq, V.ifc.injEq, List.cons.injEq, and_true, true_and, and_self, errV]; done) | (simp only [V.bool.injEq, V.tup.injEq, V.agg.injEq, V.str.injEq, V.int.injEq, V.sl.injEq, V.ifc.injEq, List.cons.injEq, and_true, true_and, and_self, errV]; grind) | (simp [errV] at *; done) | (simp [errV] at *; grind))

set_option maxRecDepth 100000 in
set_option maxHeartbeats 400000 in
theorem openG_bad (s x r : Bs) (hl : s.length ≤ 1000000) (h4 : 4 ≤ s.length) (hT : textF (s.drop 4) 200000 = some (x, r)) (hq : ¬ bytes4 (sum ((s.take (s.length - r.length)).drop 4)) = s.take 4) : Fn Tryz.prog 41 [.str s] (.tup [.str [], .str s, errV [] 12]) := by
  refine Fn.mk' base Tryz.func41 rfl rfl rfl ?_
  obtain ⟨hr1, hx1⟩ := textF_len hT
  rw [List.length_drop] at hr1
  have hd := drop4' s
  have hm := mid4' s r.length (by omega)
  have hul : ((s.take (s.length - r.length)).drop 4).length ≤ 1000000 := by rw [List.length_drop, List.length_take]; omega
  have ht4 := take4' s
  repeat' ((conv => whnf); (first
   | (with_reducible first | refine AW.seq ?_ | refine AW.region base (by kernel_rfl) ?_ | refine AW.cond ?_ | refine AW.block ?_ | refine AW.ret ?_ | refine AW.exit ?_ | refine AW.skip ?_ | refine Br.t ?_ | refine Br.f ?_)
   | (with_reducible refine Br.mkT (fun hb => (by (first | omega | (simp at hb; done) | (simp only [decide_eq_true_eq, decide_eq_false_iff_not] at hb; omega) | (simp only [decide_eq_true_eq, decide_eq_false_iff_not, Bool.not_eq_true', Bool.not_eq_false'] at hb; exact absurd (hb.trans ht4) hq) | fail))) (fun hb => ?_))
   | (with_reducible refine Br.mkF (fun hb => (by (first | omega | (simp at hb; done) | (simp only [decide_eq_true_eq, decide_eq_false_iff_not] at hb; omega) | (simp only [decide_eq_true_eq, decide_eq_false_iff_not, Bool.not_eq_true', Bool.not_eq_false'] at hb; exact absurd (hb.trans ht4) hq) | fail))) (fun hb => ?_))
   | ((with_reducible refine Or.inl ?_); (conv => whnf); (with_reducible refine And.intro LitSl.mk ?_))
   | refine Br.t ?_
   | refine Br.f ?_
   | ((with_reducible refine Or.inl ?_); (conv => whnf); (first | (with_reducible first | refine ⟨_, text_of _ _ x r hd hT, ?_⟩ | refine ⟨_, sum_of _ _ hm hul, ?_⟩ | refine ⟨_, bytes_fn _, ?_⟩)))
   | (with_reducible refine Br.mk (fun hb => ?_) (fun hb => ?_) <;> (try rw [hb]) <;> (try simp only [List.length_map, decide_eq_true_eq, decide_eq_false_iff_not, Bool.not_eq_true', Bool.not_eq_false', Int.ofNat_lt, Int.ofNat_le, Int.not_lt, Int.not_le, Int.toNat_natCast] at hb))
   | ((with_reducible first | refine Or.inl (And.intro ?_ ?_) | refine And.intro ?_ ?_); (focus (first | with_reducible rfl | exact trivial | (exact ⟨rfl, trivial⟩) | (exact ⟨rfl, rfl, trivial⟩) | omega | (intro r hr; simp only [List.mem_singleton] at hr; subst hr; rfl)  | ((simp only [in64] at *; omega)) | ((rw [bytes4_len]; simp only [maxLen]; omega)) | ((simp only [maxLen] at *; omega)) | (simp only [in64]; omega) | assumption | (simp; done) | (simp [V.cells]; done) | (simp [in64, maxLen, limK] at *; omega) | ((show confB _ _ = true); kernel_rfl) | rfl)))
   | (intro row hrow; (try simp only [Int.toNat_natCast, List.length_map, toNat_pred, toNat_succ', toNat_zero', toNat_one'] at hrow); (first | (have hsm := same_map (by assumption) hrow; subst hsm; clear hrow) | (obtain ⟨p, hp, rfl⟩ := of_map hrow; clear hrow)))))
  all_goals (conv => whnf)
  all_goals (first | rfl | (simp only [V.bool.injEq, V.tup.injEq, V.agg.injEq, V.str.injEq, V.int.injEq, V.sl.injEq, V.ifc.injEq, List.cons.injEq, and_true, true_and, and_self, errV]; done) | (simp only [V.bool.injEq, V.tup.injEq, V.agg.injEq, V.str.injEq, V.int.injEq, V.sl.injEq, V.ifc.injEq, List.cons.injEq, and_true, true_and, and_self, errV]; grind) | (simp [errV] at *; done) | (simp [errV] at *; grind))

theorem open_fn (s : Bs) (hl : s.length ≤ 1000000) : Fn Tryz.prog 41 [.str s] (.tup [.str (openT s).2, .str (openT s).1.s, errT (openT s).1.b (openT s).1.b2 (openT s).1.c (openT s).1.c2]) := by
  by_cases h4 : s.length < 4
  · rw [show openT s = (⟨s, false, false, 0, 11⟩, []) by unfold openT; rw [if_pos h4]]
    exact (open_short s h4).res fun w R x hx => rep_tup3 hx fun y hy => errT_bare _ _ w R rho0 y hy
  · cases hT : textF (s.drop 4) 200000 with
    | none =>
      rw [show openT s = (⟨s, false, true, textC (s.drop 4) 200000, 0⟩, []) by unfold openT; rw [if_neg h4, hT]]
      exact (open_fail s _ (by omega) (by rw [drop4' s]; exact text_none (s.drop 4) 200000 hT)).res fun w R x hx => rep_tup3 hx fun y hy => .altF (.altT hy)
    | some p =>
      obtain ⟨x, r⟩ := p
      by_cases hq : bytes4 (sum ((s.take (s.length - r.length)).drop 4)) = s.take 4
      · rw [show openT s = (⟨r, true, false, 0, 0⟩, x) by unfold openT; rw [if_neg h4, hT]; simp only; rw [if_pos hq]]
        exact (openG_ok s x r hl (by omega) hT hq).res fun w R x hx => rep_tup3 hx fun y hy => .altT hy
      · rw [show openT s = (⟨s, false, false, 0, 12⟩, []) by unfold openT; rw [if_neg h4, hT]; simp only; rw [if_neg hq]]
        exact (openG_bad s x r hl (by omega) hT hq).res fun w R x hx => rep_tup3 hx fun y hy => errT_bare _ _ w R rho0 y hy

def unnil : V → V
  | .nils => .sl []
  | v => v
def unnilA : V → V
  | .agg cs => .agg (cs.map unnil)
  | v => v
theorem rep_unnil {w : World} {R : Nat → Prop} {ρ : Rho} {v : V} {x : Value} (h : Rep w R ρ v x) : Rep w R ρ (unnil v) x := by
  unfold unnil; split
  · rw [h.of_nils]; exact .slnil
  · exact h
theorem reps_unnil {w : World} {R : Nat → Prop} {ρ : Rho} {cs : List V} {xs : List Value} (h : Reps w R ρ cs xs) : Reps w R ρ (cs.map unnil) xs :=
  ⟨by rw [List.length_map]; exact h.1, fun i v x hv hx => by
    rw [List.getElem?_map] at hv
    cases hq : cs[i]? with
    | none => rw [hq] at hv; cases hv
    | some u => rw [hq] at hv; cases hv; exact rep_unnil (h.2 i u x hq hx)⟩
theorem rep_unnilA {w : World} {R : Nat → Prop} {ρ : Rho} {v : V} {x : Value} (h : Rep w R ρ v x) : Rep w R ρ (unnilA v) x := by
  unfold unnilA; split
  · cases h with
    | agg hl h1 hh => have := reps_unnil ⟨hl, hh⟩; exact .agg this.1 h1 this.2
  · exact h
/-- a list that is none is an empty one -/
theorem Fn.unnil {P : Program} {f : FuncId} {args : List V} {r : V} (h : Fn P f (args.map unnilA) r) : Fn P f args r := h.weaken fun w R xs hx =>
  ⟨by rw [List.length_map]; exact hx.1, fun i v x hv hx' => by
    rw [List.getElem?_map] at hv
    cases hq : args[i]? with
    | none => rw [hq] at hv; cases hv
    | some u => rw [hq] at hv; cases hv; exact rep_unnilA (hx.2 i u x hq hx')⟩
end Go.Proofs.YtnblecdpkbempaaGreatDoor
