/-
  Laws of letters: what is known; few. No conditions.
-/
import Derived.Test.YtnblecdpkbempaaGreatDoorLetM
namespace Go.Proofs.YtnblecdpkbempaaGreatDoor
open Go.RowKit
set_option linter.unusedSimpArgs false
set_option linter.unusedVariables false

theorem rep_tup2 {w : World} {R : Nat → Prop} {ρ : Rho} {a c c' : V} {x : Value} (h : Rep w R ρ (.tup [a, c]) x) (hc : ∀ y, Rep w R ρ c y → Rep w R ρ c' y) : Rep w R ρ (.tup [a, c']) x := by
  cases h with
  | tup hl hh =>
    refine .tup (by simpa using hl) fun i v y hv hy => ?_
    match i with
    | 0 => simp only [List.getElem?_cons_zero] at hv; exact hh 0 v y (by simpa using hv) hy
    | 1 =>
      have hv' : c' = v := by simpa using hv
      subst hv'
      exact hc y (hh 1 c y rfl hy)
    | n + 2 => simp at hv

def unnil : V → V
  | .nils => .sl []
  | v => v
def unnilA : V → V
  | .agg cs => .agg (cs.map unnil)
  | v => v
theorem rep_unnil {w : World} {R : Nat → Prop} {ρ : Rho} {v : V} {x : Value} (h : Rep w R ρ v x) : Rep w R ρ (unnil v) x := by
  unfold unnil; split
  · rw [h.of_nils]; exact .slnil
  · exact h
theorem reps_unnil {w : World} {R : Nat → Prop} {ρ : Rho} {cs : List V} {xs : List Value} (h : Reps w R ρ cs xs) : Reps w R ρ (cs.map unnil) xs :=
  ⟨by rw [List.length_map]; exact h.1, fun i v x hv hx => by
    rw [List.getElem?_map] at hv
    cases hq : cs[i]? with
    | none => rw [hq] at hv; cases hv
    | some u => rw [hq] at hv; cases hv; exact rep_unnil (h.2 i u x hq hx)⟩
theorem rep_unnilA {w : World} {R : Nat → Prop} {ρ : Rho} {v : V} {x : Value} (h : Rep w R ρ v x) : Rep w R ρ (unnilA v) x := by
  unfold unnilA; split
  · cases h with
    | agg hl h1 hh => have := reps_unnil ⟨hl, hh⟩; exact .agg this.1 h1 this.2
  · exact h
/-- a list that is none is an empty one -/
theorem Fn.unnil {P : Program} {f : FuncId} {args : List V} {r : V} (h : Fn P f (args.map unnilA) r) : Fn P f args r := h.weaken fun w R xs hx =>
  ⟨by rw [List.length_map]; exact hx.1, fun i v x hv hx' => by
    rw [List.getElem?_map] at hv
    cases hq : args[i]? with
    | none => rw [hq] at hv; cases hv
    | some u => rw [hq] at hv; cases hv; exact rep_unnilA (hx.2 i u x hq hx')⟩
def kl : LetV := ⟨5, 200, 100, 0, 0, 0, 0, 0, zeroO, zeroA, [], [], [], [], [], []⟩
def km : LetV := ⟨0, 0, 0, 1, 0, 3, 0, 0, zeroO, zeroA, [], [], [], [], [], []⟩
theorem kl_ok : letB kl = true := by kernel_rfl
theorem km_no : letB km = false := by kernel_rfl
theorem kz_no : letB zeroL = false := by kernel_rfl
theorem k7_is : Fn Tryz.prog 20 [.agg (encL kl)] (.bool true) := by have h := letIs_fn kl; rw [kl_ok] at h; exact h
theorem k7_isz : Fn Tryz.prog 20 [.agg (encL zeroL)] (.bool false) := by have h := letIs_fn zeroL; rw [kz_no] at h; exact h
theorem k7_bytes : Fn Tryz.prog 21 [.agg (encL kl)] (.str (bytesL kl)) := letBytes_ok kl kl_ok
theorem k7_bytesm : Fn Tryz.prog 21 [.agg (encL km)] (.str []) := letBytes_not km km_no
theorem letRead_of (l : LetV) (h : letB l = true) : Fn Tryz.prog 22 [.str (bytesL l)] (.tup [.agg (encL l), noErr]) := by
  have h1 := letRead_fn (bytesL l) (by have := (bytesL_len h).1; omega)
  rw [readL_of h] at h1
  exact h1.res fun w R x hx => rep_tup2 hx fun y hy => rep_altT hy
theorem letRead_more (l : LetV) (h : letB l = true) (x : Bs) (hx : ¬ x = []) (hl : x.length ≤ 900000) : Fn Tryz.prog 22 [.str (bytesL l ++ x)] (.tup [.agg (encL zeroL), errV [] 10]) := by
  have h1 := letRead_fn (bytesL l ++ x) (by have := (bytesL_len h).1; rw [List.length_append]; omega)
  rw [readL_more h hx] at h1
  exact h1.res fun w R x hx => rep_tup2 hx fun y hy => rep_altF (rep_altF hy)
theorem k7_read : Fn Tryz.prog 22 [.str (bytesL kl)] (.tup [.agg (encL kl), noErr]) := letRead_of kl kl_ok
theorem k7_read0 : Fn Tryz.prog 22 [.str []] (.tup [.agg (encL zeroL), errV [] 11]) := by
  have h1 := letRead_fn [] (by simp)
  have e : readL [] = (⟨[], false, false, 0, 11⟩, zeroL) := by
    unfold readL
    rw [show openT [] = (⟨[], false, false, 0, 11⟩, []) by unfold openT; rw [if_pos (by simp)]]
    simp only
    rw [if_neg (by simp)]
  rw [e] at h1
  exact h1.res fun w R x hx => rep_tup2 hx fun y hy => rep_altF (rep_altF hy)
theorem k7_readx : Fn Tryz.prog 22 [.str (bytesL kl ++ [120])] (.tup [.agg (encL zeroL), errV [] 10]) := letRead_more kl kl_ok [120] (by simp) (by simp)
theorem k7_same : Fn Tryz.prog 48 [.agg (encL kl), .agg (encL kl)] (.bool true) := by have h := letSame_fn kl kl; rw [decide_eq_true rfl] at h; exact h
theorem k7_names : Fn Tryz.prog 49 [.agg (encL kl)] (.sl []) := names_fn kl
theorem k7_namesm : Fn Tryz.prog 49 [.agg (encL km)] (.sl [[.int .i64 1], [.int .i64 0], [.int .i64 3]]) := names_fn km
theorem kl_len : (bytesL kl ++ [120]).length ≤ maxLen := by have := (bytesL_len kl_ok).1; rw [List.length_append]; simp only [maxLen, List.length_cons, List.length_nil]; omega

set_option maxRecDepth 100000 in
set_option maxHeartbeats 2000000 in
theorem known7_fn  : Fn Tryz.prog 18 [] (.bool true) := by
  refine Fn.mk' base Tryz.func18 rfl rfl rfl ?_
  repeat' ((conv => whnf); (first
   | (with_reducible first | refine AW.seq ?_ | refine AW.region base (by kernel_rfl) ?_ | refine AW.cond ?_ | refine AW.block ?_ | refine AW.ret ?_ | refine AW.exit ?_ | refine AW.skip ?_ | refine Br.t ?_ | refine Br.f ?_)
   | ((with_reducible refine Or.inl ?_); (conv => whnf); (with_reducible refine And.intro LitSl.mk ?_))
   | refine Br.t ?_
   | refine Br.f ?_
   | ((with_reducible refine Or.inl ?_); (conv => whnf); (first | (with_reducible first | refine ⟨_, k7_read, ?_⟩ | refine ⟨_, k7_read0, ?_⟩ | refine ⟨_, k7_readx, ?_⟩) | refine ⟨_, Fn.unnil k7_is, ?_⟩ | refine ⟨_, Fn.unnil k7_isz, ?_⟩ | refine ⟨_, Fn.unnil k7_bytes, ?_⟩ | refine ⟨_, Fn.unnil k7_bytesm, ?_⟩ | refine ⟨_, Fn.unnil k7_same, ?_⟩ | refine ⟨_, Fn.unnil k7_names, ?_⟩ | refine ⟨_, Fn.unnil k7_namesm, ?_⟩ | refine ⟨_, fis_fn [] 11 _, ?_⟩ | refine ⟨_, fis_fn [] 10 _, ?_⟩))
   | (with_reducible refine Br.mk (fun hb => ?_) (fun hb => ?_) <;> (try rw [hb]) <;> (try simp only [List.length_map, decide_eq_true_eq, decide_eq_false_iff_not, Bool.not_eq_true', Bool.not_eq_false', Int.ofNat_lt, Int.ofNat_le, Int.not_lt, Int.not_le, Int.toNat_natCast] at hb))
   | ((with_reducible first | refine Or.inl (And.intro ?_ ?_) | refine And.intro ?_ ?_); (focus (first | with_reducible rfl | exact trivial | (exact ⟨rfl, trivial⟩) | (exact ⟨rfl, rfl, trivial⟩) | omega | (intro r hr; simp only [List.mem_singleton] at hr; subst hr; rfl)  | ((exact kl_len)) | ((have := (bytesL_len kl_ok).1; show (bytesL kl).length + 1 ≤ maxLen; simp only [maxLen]; omega)) | (simp only [in64]; omega) | assumption | (simp; done) | (simp [V.cells]; done) | (simp [in64, maxLen, limK] at *; omega) | ((show confB _ _ = true); kernel_rfl) | rfl)))
   | (intro row hrow; (try simp only [Int.toNat_natCast, List.length_map, toNat_pred, toNat_succ', toNat_zero', toNat_one'] at hrow); (first | (have hsm := same_map (by assumption) hrow; subst hsm; clear hrow) | (obtain ⟨p, hp, rfl⟩ := of_map hrow; clear hrow)))))
  all_goals (conv => whnf)
  all_goals (first | rfl | (simp only [V.bool.injEq, V.tup.injEq, V.agg.injEq, V.str.injEq, V.int.injEq, V.sl.injEq, V.ifc.injEq, List.cons.injEq, and_true, true_and, and_self]; done) | (simp only [V.bool.injEq, V.tup.injEq, V.agg.injEq, V.str.injEq, V.int.injEq, V.sl.injEq, V.ifc.injEq, List.cons.injEq, and_true, true_and, and_self]; grind) | (simp  at *; done) | (simp  at *; grind))

def fewB (l : LetV) : Bool := decide (l.op.ws.length ≤ 8) && decide (l.an.rows.length ≤ 20) && decide (l.seen.length ≤ 70) && decide (l.ev.length ≤ 12) && decide (l.pl.length ≤ 12) && decide (l.data.length ≤ 300)

set_option maxRecDepth 100000 in
set_option maxHeartbeats 400000 in
theorem few7_fn (l : LetV) : Fn Tryz.prog 19 [.agg (encL l)] (.bool (fewB l)) := by
  refine Fn.mk' base Tryz.func19 rfl rfl rfl ?_
  repeat' ((conv => whnf); (first
   | (with_reducible first | refine AW.seq ?_ | refine AW.region base (by kernel_rfl) ?_ | refine AW.cond ?_ | refine AW.block ?_ | refine AW.ret ?_ | refine AW.exit ?_ | refine AW.skip ?_ | refine Br.t ?_ | refine Br.f ?_)
   | ((with_reducible refine Or.inl ?_); (conv => whnf); (with_reducible refine And.intro LitSl.mk ?_))
   | refine Br.t ?_
   | refine Br.f ?_
   | (with_reducible refine Br.mk (fun hb => ?_) (fun hb => ?_) <;> (try rw [hb]) <;> (try simp only [List.length_map, decide_eq_true_eq, decide_eq_false_iff_not, Bool.not_eq_true', Bool.not_eq_false', Int.ofNat_lt, Int.ofNat_le, Int.not_lt, Int.not_le, Int.toNat_natCast] at hb))
   | ((with_reducible first | refine Or.inl (And.intro ?_ ?_) | refine And.intro ?_ ?_); (focus (first | with_reducible rfl | exact trivial | (exact ⟨rfl, trivial⟩) | (exact ⟨rfl, rfl, trivial⟩) | omega | (intro r hr; simp only [List.mem_singleton] at hr; subst hr; rfl)  | ((simp only [in64, maxLen] at *; omega)) | (simp only [in64]; omega) | assumption | (simp; done) | (simp [V.cells]; done) | (simp [in64, maxLen, limK] at *; omega) | ((show confB _ _ = true); kernel_rfl) | rfl)))
   | (intro row hrow; (try simp only [Int.toNat_natCast, List.length_map, toNat_pred, toNat_succ', toNat_zero', toNat_one'] at hrow); (first | (have hsm := same_map (by assumption) hrow; subst hsm; clear hrow) | (obtain ⟨p, hp, rfl⟩ := of_map hrow; clear hrow)))))
  all_goals ((conv => whnf); (first | rfl | (refine congrArg V.bool ?_; (try simp only [List.length_map] at *); first | (unfold fewB; rw [decide_eq_true (show l.op.ws.length ≤ 8 by omega), decide_eq_true (show l.an.rows.length ≤ 20 by omega), decide_eq_true (show l.seen.length ≤ 70 by omega), decide_eq_true (show l.ev.length ≤ 12 by omega), decide_eq_true (show l.pl.length ≤ 12 by omega)]; simp only [Bool.true_and]; exact decide_eq_decide.2 (by omega)) | (simp_all [fewB]; done) | (simp_all [fewB]; omega))))
end Go.Proofs.YtnblecdpkbempaaGreatDoor
