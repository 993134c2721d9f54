/-
  Takers: what is taken piece by piece, the first error stays. No conditions.
-/
import Derived.Test.YtnblecdpkbempaaGreatDoorPackG
namespace Go.Proofs.YtnblecdpkbempaaGreatDoor
open Go.RowKit
set_option linter.unusedSimpArgs false
set_option linter.unusedVariables false

/-- an error, or none -/
abbrev errT (b b2 : Bool) (c c2 : Int) : V := .alt b noErr (.alt b2 (errV [[112, 97, 99, 107]] c) (errV [] c2))
/-- a taker: what is left; is all well; was it pack's error -/
structure TK where
  s : Bs
  b : Bool
  b2 : Bool
  c : Int
  c2 : Int
abbrev encTK (t : TK) : List V := [.str t.s, errT t.b t.b2 t.c t.c2]
def takeV (s : Bs) : Nat := ((takeF s).map (·.1)).getD 0
def takeR (s : Bs) : Bs := ((takeF s).map (·.2)).getD s
def takeOk (s : Bs) : Bool := (takeF s).isSome
def textV (s : Bs) (m : Int) : Bs := ((textF s m).map (·.1)).getD []
def textR (s : Bs) (m : Int) : Bs := ((textF s m).map (·.2)).getD s
def textOk (s : Bs) (m : Int) : Bool := (textF s m).isSome
def flagV (s : Bs) : Bool := ((flagF s).map (·.1)).getD false
def flagR (s : Bs) : Bs := ((flagF s).map (·.2)).getD s
def flagOk (s : Bs) : Bool := (flagF s).isSome
def TK.num (t : TK) : TK := if t.b then ⟨takeR t.s, takeOk t.s, true, takeC t.s, t.c2⟩ else t
def TK.numR (t : TK) : Nat := if t.b then takeV t.s else 0
def TK.text (t : TK) : TK := if t.b then ⟨textR t.s 255, textOk t.s 255, true, textC t.s 255, t.c2⟩ else t
def TK.textR (t : TK) : Bs := if t.b then textV t.s 255 else []
def TK.flag (t : TK) : TK := if t.b then ⟨Go.Proofs.YtnblecdpkbempaaGreatDoor.flagR t.s, flagOk t.s, true, flagC t.s, t.c2⟩ else t
def TK.flagR (t : TK) : Bool := if t.b then flagV t.s else false
/-- how many there are: no more than so many -/
def TK.many (t : TK) (m : Int) (code : Int) : TK := if t.num.b && decide (m < t.numR) then ⟨t.num.s, false, false, t.num.c, code⟩ else t.num
def TK.manyR (t : TK) (m : Int) (code : Int) : Nat := if (t.many m code).b then t.numR else 0
theorem takeV_lt (s : Bs) : takeV s < 281474976710656 := by
  unfold takeV
  cases h : takeF s with
  | none => simp
  | some p => exact (takeF_lt (k := p.1) (rest := p.2) h).1
theorem TK.numR_lt (t : TK) : t.numR < 281474976710656 := by
  unfold TK.numR; split
  · exact takeV_lt _
  · omega
theorem TK.manyR_le (t : TK) (m : Int) (code : Int) (h : 0 ≤ m) : (t.manyR m code : Int) ≤ m := by
  unfold TK.manyR TK.many
  by_cases h1 : (t.num.b && decide (m < t.numR)) = true
  · rw [if_pos h1]; simpa using h
  · rw [if_neg h1]
    by_cases hb : t.num.b = true
    · rw [if_pos hb]; simp [hb] at h1; omega
    · rw [if_neg hb]; simpa using h
theorem TK.many_large {t : TK} {m code : Int} (h1 : t.num.b = true) (h2 : m < t.numR) : t.many m code = ⟨t.num.s, false, false, t.num.c, code⟩ ∧ t.manyR m code = 0 := by
  have e : t.many m code = ⟨t.num.s, false, false, t.num.c, code⟩ := by unfold TK.many; rw [h1, decide_eq_true h2]; rfl
  exact ⟨e, by unfold TK.manyR; rw [e]; rfl⟩
theorem TK.many_fine {t : TK} {m code : Int} (h1 : t.num.b = true) (h2 : (t.numR : Int) ≤ m) : t.many m code = t.num ∧ t.manyR m code = t.numR := by
  have e : t.many m code = t.num := by unfold TK.many; rw [h1, decide_eq_false (by omega)]; rfl
  exact ⟨e, by unfold TK.manyR; rw [e, h1]; rfl⟩
theorem TK.many_bad {t : TK} {m code : Int} (h1 : t.num.b = false) : t.many m code = t.num ∧ t.manyR m code = 0 := by
  have e : t.many m code = t.num := by unfold TK.many; rw [h1]; rfl
  exact ⟨e, by unfold TK.manyR; rw [e, h1]; rfl⟩
theorem Fn.res {P : Program} {f : FuncId} {args : List V} {r r' : V} (h : Fn P f args r) (hr : ∀ (w : World) (R : Nat → Prop) (x : Value), Rep w R rho0 r x → Rep w R rho0 r' x) : Fn P f args r' := ⟨fun w R xs a b c => (h.run w R xs a b c).mono fun x w' ⟨hb, R', h1, h2, h3⟩ => ⟨hb, R', h1, h2, hr w' R' x h3⟩⟩
theorem rep_tup3 {w : World} {R : Nat → Prop} {ρ : Rho} {a b c c' : V} {x : Value} (h : Rep w R ρ (.tup [a, b, c]) x) (hc : ∀ y, Rep w R ρ c y → Rep w R ρ c' y) : Rep w R ρ (.tup [a, b, c']) x := by
  cases h with
  | tup hl hh =>
    refine .tup (by simpa using hl) fun i v y hv hy => ?_
    match i with
    | 0 => simp only [List.getElem?_cons_zero] at hv; exact hh 0 v y (by simpa using hv) hy
    | 1 => exact hh 1 v y (by simpa using hv) hy
    | 2 =>
      have hv' : c' = v := by simpa using hv
      subst hv'
      exact hc y (hh 2 c y rfl hy)
    | n + 3 => simp at hv
theorem take_u (s : Bs) (c2 : Int) : Fn Tryz.prog 124 [.str s] (.tup [.int .i64 (takeV s : Int), .str (takeR s), errT (takeOk s) true (takeC s) c2]) := by
  cases h : takeF s with
  | none => exact (take_none s h).res fun w R x hx => by rw [takeV, takeR, takeOk, h]; exact rep_tup3 hx fun y hy => .altF (.altT hy)
  | some p => exact (take_some s p.1 p.2 h).res fun w R x hx => by rw [takeV, takeR, takeOk, h]; exact rep_tup3 hx fun y hy => .altT hy
theorem text_u (s : Bs) (m : Int) (c2 : Int) : Fn Tryz.prog 87 [.str s, .int .i64 m] (.tup [.str (textV s m), .str (textR s m), errT (textOk s m) true (textC s m) c2]) := by
  cases h : textF s m with
  | none => exact (text_none s m h).res fun w R x hx => by rw [textV, textR, textOk, h]; exact rep_tup3 hx fun y hy => .altF (.altT hy)
  | some p => exact (text_some s p.1 p.2 m h).res fun w R x hx => by rw [textV, textR, textOk, h]; exact rep_tup3 hx fun y hy => .altT hy
theorem flag_u (s : Bs) (c2 : Int) : Fn Tryz.prog 127 [.str s] (.tup [.bool (flagV s), .str (flagR s), errT (flagOk s) true (flagC s) c2]) := by
  cases s with
  | nil => exact flag_nil.res fun w R x hx => rep_tup3 hx fun y hy => .altF (.altT hy)
  | cons b r =>
    by_cases hb : 1 < b.toNat
    · have h : flagF (b :: r) = none := by rw [flagF, if_pos hb]
      exact (flag_none b r hb).res fun w R x hx => by rw [flagV, flagR, flagOk, h]; exact rep_tup3 hx fun y hy => .altF (.altT hy)
    · have h : flagF (b :: r) = some (decide (b.toNat = 1), r) := by rw [flagF, if_neg hb]
      exact (flag_some b r hb).res fun w R x hx => by rw [flagV, flagR, flagOk, h]; exact rep_tup3 hx fun y hy => .altT hy
section
variable {P : Program} {N na : Nat} {h : Hp} {e : Env} {Q : Exit → Env → Hp → Prop}
theorem Reps.setAt {w : World} {R : Nat → Prop} {ρ : Rho} {i : Nat} {cs : List V} {xs : List Value} {v v' : V} (hr : Reps w R ρ cs xs) (hi : cs[i]? = some v) (hv : ∀ x, Rep w R ρ v x → Rep w R ρ v' x) : Reps w R ρ (cs.set i v') xs :=
  ⟨by rw [List.length_set]; exact hr.1, fun j v x hj hx => by
    rw [List.getElem?_set] at hj
    split at hj
    · rename_i he; subst he
      split at hj
      · cases hj; exact hv x (hr.2 i _ x hi hx)
      · cases hj
    · exact hr.2 j v x hj hx⟩
/-- what a cell holds stands for more -/
theorem AW.weakC {c : Code} (k i : Nat) {cs : List V} {v v' : V} (hk : h k = some (.cells cs)) (hi : cs[i]? = some v) (hv : ∀ (w : World) (R : Nat → Prop) (ρ : Rho) (x : Value), Rep w R ρ v x → Rep w R ρ v' x) (K : AW P N na c e (h.set k (some (.cells (cs.set i v')))) Q) : AW P N na c e h Q :=
  ⟨fun cx an R ρ a w hn hs ht ha he => K.run cx an R ρ a w hn (hs.recell hk fun xs hr => hr.setAt hi fun x hx => hv w R ρ x hx) (fun j o hj => Hp.mono_set h k _ j (ht j o hj)) ha he⟩
theorem errT_nil (b2 : Bool) (c c2 : Int) (w : World) (R : Nat → Prop) (ρ : Rho) (x : Value) (h : Rep w R ρ noErr x) : Rep w R ρ (errT true b2 c c2) x := .altT h
theorem errT_bare (c c2 : Int) (w : World) (R : Nat → Prop) (ρ : Rho) (x : Value) (h : Rep w R ρ (errV [] c2) x) : Rep w R ρ (errT false false c c2) x := .altF (.altF h)
end

set_option maxRecDepth 100000 in
set_option maxHeartbeats 400000 in
theorem tigoes_fn (t u : TK) : FnM Tryz.prog 126 [.ptr 0 0, .str u.s, errT u.b u.b2 u.c u.c2] [.cells (encTK t)] (.bool (if t.b then u.b else false)) [.cells (encTK (if t.b then u else t))] := by
  refine FnM.mk' base Tryz.func126 rfl rfl rfl rfl ?_
  obtain ⟨s, b, b2, c, c2⟩ := t
  cases b
  · skip
    repeat' ((conv => whnf); (first
     | (with_reducible first | refine AW.seq ?_ | refine AW.region base (by kernel_rfl) ?_ | refine AW.cond ?_ | refine AW.block ?_ | refine AW.ret ?_ | refine AW.exit ?_ | refine AW.skip ?_ | refine Br.t ?_ | refine Br.f ?_)
     | ((with_reducible refine Or.inl ?_); (conv => whnf); (with_reducible refine And.intro LitSl.mk ?_))
     | refine Br.t ?_
     | refine Br.f ?_
     | (with_reducible refine Br.mk (fun hb => ?_) (fun hb => ?_) <;> (try rw [hb]) <;> (try simp only [List.length_map, decide_eq_true_eq, decide_eq_false_iff_not, Bool.not_eq_true', Bool.not_eq_false', Int.ofNat_lt, Int.ofNat_le, Int.not_lt, Int.not_le, Int.toNat_natCast] at hb))
     | ((with_reducible first | refine Or.inl (And.intro ?_ ?_) | refine And.intro ?_ ?_); (focus (first | with_reducible rfl | exact trivial | (exact ⟨rfl, trivial⟩) | (exact ⟨rfl, rfl, trivial⟩) | omega | (intro r hr; simp only [List.mem_singleton] at hr; subst hr; rfl)  | ((simp only [in64, maxLen] at *; omega)) | ((have := TK.numR_lt _; simp only [in64]; omega)) | (simp only [in64]; omega) | assumption | (simp; done) | (simp [V.cells]; done) | (simp [in64, maxLen, limK] at *; omega) | ((show confB _ _ = true); kernel_rfl) | rfl)))
     | (intro row hrow; (try simp only [Int.toNat_natCast, List.length_map, toNat_pred, toNat_succ', toNat_zero', toNat_one'] at hrow); (first | (have hsm := same_map (by assumption) hrow; subst hsm; clear hrow) | (obtain ⟨p, hp, rfl⟩ := of_map hrow; clear hrow)))))
    all_goals (conv => whnf)
    all_goals (refine ⟨[0], ?_⟩)
    all_goals (repeat' (first | (with_reducible rfl) | exact trivial | ((conv => whnf); (first | (with_reducible refine And.intro ?_ ?_) | exact trivial | (intro hb; first | (exfalso; simp_all; done) | skip)))))
    all_goals (first | rfl)
  · skip
    repeat' ((conv => whnf); (first
     | (with_reducible first | refine AW.seq ?_ | refine AW.region base (by kernel_rfl) ?_ | refine AW.cond ?_ | refine AW.block ?_ | refine AW.ret ?_ | refine AW.exit ?_ | refine AW.skip ?_ | refine Br.t ?_ | refine Br.f ?_)
     | ((with_reducible refine Or.inl ?_); (conv => whnf); (with_reducible refine And.intro LitSl.mk ?_))
     | refine Br.t ?_
     | refine Br.f ?_
     | (with_reducible refine Br.mk (fun hb => ?_) (fun hb => ?_) <;> (try rw [hb]) <;> (try simp only [List.length_map, decide_eq_true_eq, decide_eq_false_iff_not, Bool.not_eq_true', Bool.not_eq_false', Int.ofNat_lt, Int.ofNat_le, Int.not_lt, Int.not_le, Int.toNat_natCast] at hb))
     | ((with_reducible first | refine Or.inl (And.intro ?_ ?_) | refine And.intro ?_ ?_); (focus (first | with_reducible rfl | exact trivial | (exact ⟨rfl, trivial⟩) | (exact ⟨rfl, rfl, trivial⟩) | omega | (intro r hr; simp only [List.mem_singleton] at hr; subst hr; rfl)  | ((simp only [in64, maxLen] at *; omega)) | ((have := TK.numR_lt _; simp only [in64]; omega)) | (simp only [in64]; omega) | assumption | (simp; done) | (simp [V.cells]; done) | (simp [in64, maxLen, limK] at *; omega) | ((show confB _ _ = true); kernel_rfl) | rfl)))
     | (intro row hrow; (try simp only [Int.toNat_natCast, List.length_map, toNat_pred, toNat_succ', toNat_zero', toNat_one'] at hrow); (first | (have hsm := same_map (by assumption) hrow; subst hsm; clear hrow) | (obtain ⟨p, hp, rfl⟩ := of_map hrow; clear hrow)))))
    all_goals (conv => whnf)
    all_goals (refine ⟨[0], ?_⟩)
    all_goals (repeat' (first | (with_reducible rfl) | exact trivial | ((conv => whnf); (first | (with_reducible refine And.intro ?_ ?_) | exact trivial | (intro hb; first | (exfalso; simp_all; done) | skip)))))
    all_goals (first | rfl)

theorem takeV_bad {s : Bs} (h : takeOk s = false) : takeV s = 0 := by
  unfold takeOk at h; unfold takeV
  cases hq : takeF s with
  | none => rfl
  | some p => rw [hq] at h; cases h
theorem textV_bad {s : Bs} {m : Int} (h : textOk s m = false) : textV s m = [] := by
  unfold textOk at h; unfold textV
  cases hq : textF s m with
  | none => rfl
  | some p => rw [hq] at h; cases h
theorem flagV_bad {s : Bs} (h : flagOk s = false) : flagV s = false := by
  unfold flagOk at h; unfold flagV
  cases hq : flagF s with
  | none => rfl
  | some p => rw [hq] at h; cases h

theorem TK.num_pos {t : TK} (h : 0 < t.numR) : t.num.b = true := by
  unfold TK.numR at h
  unfold TK.num
  split at h
  · rename_i hb
    rw [if_pos hb]
    show takeOk t.s = true
    cases hq : takeOk t.s with
    | true => rfl
    | false => rw [takeV_bad hq] at h; cases h
  · cases h

set_option maxRecDepth 100000 in
set_option maxHeartbeats 400000 in
theorem tnum_fn (t : TK) : FnM Tryz.prog 144 [.ptr 0 0] [.cells (encTK t)] (.int .i64 (t.numR : Int)) [.cells (encTK t.num)] := by
  refine FnM.mk' base Tryz.func144 rfl rfl rfl rfl ?_
  obtain ⟨s, b, b2, c, c2⟩ := t
  cases b
  · skip
    repeat' ((conv => whnf); (first
     | (with_reducible first | refine AW.seq ?_ | refine AW.region base (by kernel_rfl) ?_ | refine AW.cond ?_ | refine AW.block ?_ | refine AW.ret ?_ | refine AW.exit ?_ | refine AW.skip ?_ | refine Br.t ?_ | refine Br.f ?_)
     | ((with_reducible refine Or.inl ?_); (conv => whnf); (with_reducible refine And.intro LitSl.mk ?_))
     | refine Br.t ?_
     | refine Br.f ?_
     | ((with_reducible refine Or.inl ?_); (conv => whnf); (first | (with_reducible first | refine ⟨_, take_u _ c2, ?_⟩)))
     | (with_reducible refine Br.mk (fun hb => ?_) (fun hb => ?_) <;> (try rw [hb]) <;> (try simp only [List.length_map, decide_eq_true_eq, decide_eq_false_iff_not, Bool.not_eq_true', Bool.not_eq_false', Int.ofNat_lt, Int.ofNat_le, Int.not_lt, Int.not_le, Int.toNat_natCast] at hb))
     | ((with_reducible first | refine Or.inl (And.intro ?_ ?_) | refine And.intro ?_ ?_); (focus (first | with_reducible rfl | exact trivial | (exact ⟨rfl, trivial⟩) | (exact ⟨rfl, rfl, trivial⟩) | omega | (intro r hr; simp only [List.mem_singleton] at hr; subst hr; rfl)  | ((simp only [in64, maxLen] at *; omega)) | ((have := TK.numR_lt _; simp only [in64]; omega)) | (simp only [in64]; omega) | assumption | (simp; done) | (simp [V.cells]; done) | (simp [in64, maxLen, limK] at *; omega) | ((show confB _ _ = true); kernel_rfl) | rfl)))
     | (intro row hrow; (try simp only [Int.toNat_natCast, List.length_map, toNat_pred, toNat_succ', toNat_zero', toNat_one'] at hrow); (first | (have hsm := same_map (by assumption) hrow; subst hsm; clear hrow) | (obtain ⟨p, hp, rfl⟩ := of_map hrow; clear hrow)))))
    all_goals (conv => whnf)
    all_goals (refine ⟨[0], ?_⟩)
    all_goals (repeat' (first | (with_reducible rfl) | exact trivial | ((conv => whnf); (first | (with_reducible refine And.intro ?_ ?_) | exact trivial | (intro hb; first | (exfalso; simp_all; done) | skip)))))
    all_goals (first | rfl | (show V.int IntKind.i64 0 = V.int IntKind.i64 ((takeV s : Nat) : Int); rw [takeV_bad (by simpa using hb)]; try rfl) | (show _ = V.str (textV s 255); rw [textV_bad (by simpa using hb)]; try rfl) | (show _ = V.bool (flagV s); rw [flagV_bad (by simpa using hb)]))
  · skip
    repeat' ((conv => whnf); (first
     | (with_reducible first | refine AW.seq ?_ | refine AW.region base (by kernel_rfl) ?_ | refine AW.cond ?_ | refine AW.block ?_ | refine AW.ret ?_ | refine AW.exit ?_ | refine AW.skip ?_ | refine Br.t ?_ | refine Br.f ?_)
     | ((with_reducible refine Or.inl ?_); (conv => whnf); (with_reducible refine And.intro LitSl.mk ?_))
     | refine Br.t ?_
     | refine Br.f ?_
     | ((with_reducible refine Or.inl ?_); (conv => whnf); (first | (with_reducible first | refine ⟨_, take_u _ c2, ?_⟩)))
     | (with_reducible refine Br.mk (fun hb => ?_) (fun hb => ?_) <;> (try rw [hb]) <;> (try simp only [List.length_map, decide_eq_true_eq, decide_eq_false_iff_not, Bool.not_eq_true', Bool.not_eq_false', Int.ofNat_lt, Int.ofNat_le, Int.not_lt, Int.not_le, Int.toNat_natCast] at hb))
     | ((with_reducible first | refine Or.inl (And.intro ?_ ?_) | refine And.intro ?_ ?_); (focus (first | with_reducible rfl | exact trivial | (exact ⟨rfl, trivial⟩) | (exact ⟨rfl, rfl, trivial⟩) | omega | (intro r hr; simp only [List.mem_singleton] at hr; subst hr; rfl)  | ((simp only [in64, maxLen] at *; omega)) | ((have := TK.numR_lt _; simp only [in64]; omega)) | (simp only [in64]; omega) | assumption | (simp; done) | (simp [V.cells]; done) | (simp [in64, maxLen, limK] at *; omega) | ((show confB _ _ = true); kernel_rfl) | rfl)))
     | (intro row hrow; (try simp only [Int.toNat_natCast, List.length_map, toNat_pred, toNat_succ', toNat_zero', toNat_one'] at hrow); (first | (have hsm := same_map (by assumption) hrow; subst hsm; clear hrow) | (obtain ⟨p, hp, rfl⟩ := of_map hrow; clear hrow)))))
    all_goals (conv => whnf)
    all_goals (refine ⟨[0], ?_⟩)
    all_goals (repeat' (first | (with_reducible rfl) | exact trivial | ((conv => whnf); (first | (with_reducible refine And.intro ?_ ?_) | exact trivial | (intro hb; first | (exfalso; simp_all; done) | skip)))))
    all_goals (first | rfl | (show V.int IntKind.i64 0 = V.int IntKind.i64 ((takeV s : Nat) : Int); rw [takeV_bad (by simpa using hb)]; try rfl) | (show _ = V.str (textV s 255); rw [textV_bad (by simpa using hb)]; try rfl) | (show _ = V.bool (flagV s); rw [flagV_bad (by simpa using hb)]))

set_option maxRecDepth 100000 in
set_option maxHeartbeats 400000 in
theorem ttext_fn (t : TK) : FnM Tryz.prog 145 [.ptr 0 0] [.cells (encTK t)] (.str t.textR) [.cells (encTK t.text)] := by
  refine FnM.mk' base Tryz.func145 rfl rfl rfl rfl ?_
  obtain ⟨s, b, b2, c, c2⟩ := t
  cases b
  · skip
    repeat' ((conv => whnf); (first
     | (with_reducible first | refine AW.seq ?_ | refine AW.region base (by kernel_rfl) ?_ | refine AW.cond ?_ | refine AW.block ?_ | refine AW.ret ?_ | refine AW.exit ?_ | refine AW.skip ?_ | refine Br.t ?_ | refine Br.f ?_)
     | ((with_reducible refine Or.inl ?_); (conv => whnf); (with_reducible refine And.intro LitSl.mk ?_))
     | refine Br.t ?_
     | refine Br.f ?_
     | ((with_reducible refine Or.inl ?_); (conv => whnf); (first | (with_reducible first | refine ⟨_, text_u _ _ c2, ?_⟩)))
     | (with_reducible refine Br.mk (fun hb => ?_) (fun hb => ?_) <;> (try rw [hb]) <;> (try simp only [List.length_map, decide_eq_true_eq, decide_eq_false_iff_not, Bool.not_eq_true', Bool.not_eq_false', Int.ofNat_lt, Int.ofNat_le, Int.not_lt, Int.not_le, Int.toNat_natCast] at hb))
     | ((with_reducible first | refine Or.inl (And.intro ?_ ?_) | refine And.intro ?_ ?_); (focus (first | with_reducible rfl | exact trivial | (exact ⟨rfl, trivial⟩) | (exact ⟨rfl, rfl, trivial⟩) | omega | (intro r hr; simp only [List.mem_singleton] at hr; subst hr; rfl)  | ((simp only [in64, maxLen] at *; omega)) | ((have := TK.numR_lt _; simp only [in64]; omega)) | (simp only [in64]; omega) | assumption | (simp; done) | (simp [V.cells]; done) | (simp [in64, maxLen, limK] at *; omega) | ((show confB _ _ = true); kernel_rfl) | rfl)))
     | (intro row hrow; (try simp only [Int.toNat_natCast, List.length_map, toNat_pred, toNat_succ', toNat_zero', toNat_one'] at hrow); (first | (have hsm := same_map (by assumption) hrow; subst hsm; clear hrow) | (obtain ⟨p, hp, rfl⟩ := of_map hrow; clear hrow)))))
    all_goals (conv => whnf)
    all_goals (refine ⟨[0], ?_⟩)
    all_goals (repeat' (first | (with_reducible rfl) | exact trivial | ((conv => whnf); (first | (with_reducible refine And.intro ?_ ?_) | exact trivial | (intro hb; first | (exfalso; simp_all; done) | skip)))))
    all_goals (first | rfl | (show V.int IntKind.i64 0 = V.int IntKind.i64 ((takeV s : Nat) : Int); rw [takeV_bad (by simpa using hb)]; try rfl) | (show _ = V.str (textV s 255); rw [textV_bad (by simpa using hb)]; try rfl) | (show _ = V.bool (flagV s); rw [flagV_bad (by simpa using hb)]))
  · skip
    repeat' ((conv => whnf); (first
     | (with_reducible first | refine AW.seq ?_ | refine AW.region base (by kernel_rfl) ?_ | refine AW.cond ?_ | refine AW.block ?_ | refine AW.ret ?_ | refine AW.exit ?_ | refine AW.skip ?_ | refine Br.t ?_ | refine Br.f ?_)
     | ((with_reducible refine Or.inl ?_); (conv => whnf); (with_reducible refine And.intro LitSl.mk ?_))
     | refine Br.t ?_
     | refine Br.f ?_
     | ((with_reducible refine Or.inl ?_); (conv => whnf); (first | (with_reducible first | refine ⟨_, text_u _ _ c2, ?_⟩)))
     | (with_reducible refine Br.mk (fun hb => ?_) (fun hb => ?_) <;> (try rw [hb]) <;> (try simp only [List.length_map, decide_eq_true_eq, decide_eq_false_iff_not, Bool.not_eq_true', Bool.not_eq_false', Int.ofNat_lt, Int.ofNat_le, Int.not_lt, Int.not_le, Int.toNat_natCast] at hb))
     | ((with_reducible first | refine Or.inl (And.intro ?_ ?_) | refine And.intro ?_ ?_); (focus (first | with_reducible rfl | exact trivial | (exact ⟨rfl, trivial⟩) | (exact ⟨rfl, rfl, trivial⟩) | omega | (intro r hr; simp only [List.mem_singleton] at hr; subst hr; rfl)  | ((simp only [in64, maxLen] at *; omega)) | ((have := TK.numR_lt _; simp only [in64]; omega)) | (simp only [in64]; omega) | assumption | (simp; done) | (simp [V.cells]; done) | (simp [in64, maxLen, limK] at *; omega) | ((show confB _ _ = true); kernel_rfl) | rfl)))
     | (intro row hrow; (try simp only [Int.toNat_natCast, List.length_map, toNat_pred, toNat_succ', toNat_zero', toNat_one'] at hrow); (first | (have hsm := same_map (by assumption) hrow; subst hsm; clear hrow) | (obtain ⟨p, hp, rfl⟩ := of_map hrow; clear hrow)))))
    all_goals (conv => whnf)
    all_goals (refine ⟨[0], ?_⟩)
    all_goals (repeat' (first | (with_reducible rfl) | exact trivial | ((conv => whnf); (first | (with_reducible refine And.intro ?_ ?_) | exact trivial | (intro hb; first | (exfalso; simp_all; done) | skip)))))
    all_goals (first | rfl | (show V.int IntKind.i64 0 = V.int IntKind.i64 ((takeV s : Nat) : Int); rw [takeV_bad (by simpa using hb)]; try rfl) | (show _ = V.str (textV s 255); rw [textV_bad (by simpa using hb)]; try rfl) | (show _ = V.bool (flagV s); rw [flagV_bad (by simpa using hb)]))

set_option maxRecDepth 100000 in
set_option maxHeartbeats 400000 in
theorem tflag_fn (t : TK) : FnM Tryz.prog 149 [.ptr 0 0] [.cells (encTK t)] (.bool t.flagR) [.cells (encTK t.flag)] := by
  refine FnM.mk' base Tryz.func149 rfl rfl rfl rfl ?_
  obtain ⟨s, b, b2, c, c2⟩ := t
  cases b
  · skip
    repeat' ((conv => whnf); (first
     | (with_reducible first | refine AW.seq ?_ | refine AW.region base (by kernel_rfl) ?_ | refine AW.cond ?_ | refine AW.block ?_ | refine AW.ret ?_ | refine AW.exit ?_ | refine AW.skip ?_ | refine Br.t ?_ | refine Br.f ?_)
     | ((with_reducible refine Or.inl ?_); (conv => whnf); (with_reducible refine And.intro LitSl.mk ?_))
     | refine Br.t ?_
     | refine Br.f ?_
     | ((with_reducible refine Or.inl ?_); (conv => whnf); (first | (with_reducible first | refine ⟨_, flag_u _ c2, ?_⟩)))
     | (with_reducible refine Br.mk (fun hb => ?_) (fun hb => ?_) <;> (try rw [hb]) <;> (try simp only [List.length_map, decide_eq_true_eq, decide_eq_false_iff_not, Bool.not_eq_true', Bool.not_eq_false', Int.ofNat_lt, Int.ofNat_le, Int.not_lt, Int.not_le, Int.toNat_natCast] at hb))
     | ((with_reducible first | refine Or.inl (And.intro ?_ ?_) | refine And.intro ?_ ?_); (focus (first | with_reducible rfl | exact trivial | (exact ⟨rfl, trivial⟩) | (exact ⟨rfl, rfl, trivial⟩) | omega | (intro r hr; simp only [List.mem_singleton] at hr; subst hr; rfl)  | ((simp only [in64, maxLen] at *; omega)) | ((have := TK.numR_lt _; simp only [in64]; omega)) | (simp only [in64]; omega) | assumption | (simp; done) | (simp [V.cells]; done) | (simp [in64, maxLen, limK] at *; omega) | ((show confB _ _ = true); kernel_rfl) | rfl)))
     | (intro row hrow; (try simp only [Int.toNat_natCast, List.length_map, toNat_pred, toNat_succ', toNat_zero', toNat_one'] at hrow); (first | (have hsm := same_map (by assumption) hrow; subst hsm; clear hrow) | (obtain ⟨p, hp, rfl⟩ := of_map hrow; clear hrow)))))
    all_goals (conv => whnf)
    all_goals (refine ⟨[0], ?_⟩)
    all_goals (repeat' (first | (with_reducible rfl) | exact trivial | ((conv => whnf); (first | (with_reducible refine And.intro ?_ ?_) | exact trivial | (intro hb; first | (exfalso; simp_all; done) | skip)))))
    all_goals (first | rfl | (show V.int IntKind.i64 0 = V.int IntKind.i64 ((takeV s : Nat) : Int); rw [takeV_bad (by simpa using hb)]; try rfl) | (show _ = V.str (textV s 255); rw [textV_bad (by simpa using hb)]; try rfl) | (show _ = V.bool (flagV s); rw [flagV_bad (by simpa using hb)]))
  · skip
    repeat' ((conv => whnf); (first
     | (with_reducible first | refine AW.seq ?_ | refine AW.region base (by kernel_rfl) ?_ | refine AW.cond ?_ | refine AW.block ?_ | refine AW.ret ?_ | refine AW.exit ?_ | refine AW.skip ?_ | refine Br.t ?_ | refine Br.f ?_)
     | ((with_reducible refine Or.inl ?_); (conv => whnf); (with_reducible refine And.intro LitSl.mk ?_))
     | refine Br.t ?_
     | refine Br.f ?_
     | ((with_reducible refine Or.inl ?_); (conv => whnf); (first | (with_reducible first | refine ⟨_, flag_u _ c2, ?_⟩)))
     | (with_reducible refine Br.mk (fun hb => ?_) (fun hb => ?_) <;> (try rw [hb]) <;> (try simp only [List.length_map, decide_eq_true_eq, decide_eq_false_iff_not, Bool.not_eq_true', Bool.not_eq_false', Int.ofNat_lt, Int.ofNat_le, Int.not_lt, Int.not_le, Int.toNat_natCast] at hb))
     | ((with_reducible first | refine Or.inl (And.intro ?_ ?_) | refine And.intro ?_ ?_); (focus (first | with_reducible rfl | exact trivial | (exact ⟨rfl, trivial⟩) | (exact ⟨rfl, rfl, trivial⟩) | omega | (intro r hr; simp only [List.mem_singleton] at hr; subst hr; rfl)  | ((simp only [in64, maxLen] at *; omega)) | ((have := TK.numR_lt _; simp only [in64]; omega)) | (simp only [in64]; omega) | assumption | (simp; done) | (simp [V.cells]; done) | (simp [in64, maxLen, limK] at *; omega) | ((show confB _ _ = true); kernel_rfl) | rfl)))
     | (intro row hrow; (try simp only [Int.toNat_natCast, List.length_map, toNat_pred, toNat_succ', toNat_zero', toNat_one'] at hrow); (first | (have hsm := same_map (by assumption) hrow; subst hsm; clear hrow) | (obtain ⟨p, hp, rfl⟩ := of_map hrow; clear hrow)))))
    all_goals (conv => whnf)
    all_goals (refine ⟨[0], ?_⟩)
    all_goals (repeat' (first | (with_reducible rfl) | exact trivial | ((conv => whnf); (first | (with_reducible refine And.intro ?_ ?_) | exact trivial | (intro hb; first | (exfalso; simp_all; done) | skip)))))
    all_goals (first | rfl | (show V.int IntKind.i64 0 = V.int IntKind.i64 ((takeV s : Nat) : Int); rw [takeV_bad (by simpa using hb)]; try rfl) | (show _ = V.str (textV s 255); rw [textV_bad (by simpa using hb)]; try rfl) | (show _ = V.bool (flagV s); rw [flagV_bad (by simpa using hb)]))

set_option maxRecDepth 100000 in
set_option maxHeartbeats 400000 in
theorem tinum_fn (t : TK) : FnM Tryz.prog 88 [.ptr 0 0] [.cells (encTK t)] (.int .i64 (t.numR : Int)) [.cells (encTK t.num)] := by
  refine FnM.mk' base Tryz.func88 rfl rfl rfl rfl ?_
  obtain ⟨s, b, b2, c, c2⟩ := t
  cases b
  · skip
    repeat' ((conv => whnf); (first
     | (with_reducible first | refine AW.seq ?_ | refine AW.region base (by kernel_rfl) ?_ | refine AW.cond ?_ | refine AW.block ?_ | refine AW.ret ?_ | refine AW.exit ?_ | refine AW.skip ?_ | refine Br.t ?_ | refine Br.f ?_)
     | ((with_reducible refine Or.inl ?_); (conv => whnf); (with_reducible refine And.intro LitSl.mk ?_))
     | refine Br.t ?_
     | refine Br.f ?_
     | ((with_reducible refine Or.inl ?_); (conv => whnf); (first | (with_reducible first | refine ⟨_, take_u _ c2, ?_⟩)))
     | (with_reducible refine Or.inr ⟨[?_], _, _, _, _, tigoes_fn ⟨s, ?_, b2, c, c2⟩ ⟨takeR s, takeOk s, true, takeC s, c2⟩, ?_⟩)
     | (with_reducible refine Or.inr (Or.inr ⟨[?_], _, _, _, _, tigoes_fn ⟨s, ?_, b2, c, c2⟩ ⟨takeR s, takeOk s, true, takeC s, c2⟩, ?_⟩))
     | (with_reducible refine Br.mk (fun hb => ?_) (fun hb => ?_) <;> (try rw [hb]) <;> (try simp only [List.length_map, decide_eq_true_eq, decide_eq_false_iff_not, Bool.not_eq_true', Bool.not_eq_false', Int.ofNat_lt, Int.ofNat_le, Int.not_lt, Int.not_le, Int.toNat_natCast] at hb))
     | ((with_reducible first | refine Or.inl (And.intro ?_ ?_) | refine And.intro ?_ ?_); (focus (first | with_reducible rfl | exact trivial | (exact ⟨rfl, trivial⟩) | (exact ⟨rfl, rfl, trivial⟩) | omega | (intro r hr; simp only [List.mem_singleton] at hr; subst hr; rfl)  | ((simp only [in64, maxLen] at *; omega)) | ((have := TK.numR_lt _; simp only [in64]; omega)) | (simp only [in64]; omega) | assumption | (simp; done) | (simp [V.cells]; done) | (simp [in64, maxLen, limK] at *; omega) | ((show confB _ _ = true); kernel_rfl) | rfl)))
     | (intro row hrow; (try simp only [Int.toNat_natCast, List.length_map, toNat_pred, toNat_succ', toNat_zero', toNat_one'] at hrow); (first | (have hsm := same_map (by assumption) hrow; subst hsm; clear hrow) | (obtain ⟨p, hp, rfl⟩ := of_map hrow; clear hrow)))))
    all_goals (conv => whnf)
    all_goals (refine ⟨[0], ?_⟩)
    all_goals (repeat' (first | (with_reducible rfl) | exact trivial | ((conv => whnf); (first | (with_reducible refine And.intro ?_ ?_) | exact trivial | (intro hb; first | (exfalso; simp_all; done) | skip)))))
    all_goals (first | rfl | (show V.int IntKind.i64 0 = V.int IntKind.i64 ((takeV s : Nat) : Int); rw [takeV_bad (by simpa using hb)]; try rfl) | (show _ = V.str (textV s 255); rw [textV_bad (by simpa using hb)]; try rfl) | (show _ = V.bool (flagV s); rw [flagV_bad (by simpa using hb)]))
  · skip
    repeat' ((conv => whnf); (first
     | (with_reducible first | refine AW.seq ?_ | refine AW.region base (by kernel_rfl) ?_ | refine AW.cond ?_ | refine AW.block ?_ | refine AW.ret ?_ | refine AW.exit ?_ | refine AW.skip ?_ | refine Br.t ?_ | refine Br.f ?_)
     | ((with_reducible refine Or.inl ?_); (conv => whnf); (with_reducible refine And.intro LitSl.mk ?_))
     | refine Br.t ?_
     | refine Br.f ?_
     | ((with_reducible refine Or.inl ?_); (conv => whnf); (first | (with_reducible first | refine ⟨_, take_u _ c2, ?_⟩)))
     | (with_reducible refine Or.inr ⟨[?_], _, _, _, _, tigoes_fn ⟨s, ?_, b2, c, c2⟩ ⟨takeR s, takeOk s, true, takeC s, c2⟩, ?_⟩)
     | (with_reducible refine Or.inr (Or.inr ⟨[?_], _, _, _, _, tigoes_fn ⟨s, ?_, b2, c, c2⟩ ⟨takeR s, takeOk s, true, takeC s, c2⟩, ?_⟩))
     | (with_reducible refine Br.mk (fun hb => ?_) (fun hb => ?_) <;> (try rw [hb]) <;> (try simp only [List.length_map, decide_eq_true_eq, decide_eq_false_iff_not, Bool.not_eq_true', Bool.not_eq_false', Int.ofNat_lt, Int.ofNat_le, Int.not_lt, Int.not_le, Int.toNat_natCast] at hb))
     | ((with_reducible first | refine Or.inl (And.intro ?_ ?_) | refine And.intro ?_ ?_); (focus (first | with_reducible rfl | exact trivial | (exact ⟨rfl, trivial⟩) | (exact ⟨rfl, rfl, trivial⟩) | omega | (intro r hr; simp only [List.mem_singleton] at hr; subst hr; rfl)  | ((simp only [in64, maxLen] at *; omega)) | ((have := TK.numR_lt _; simp only [in64]; omega)) | (simp only [in64]; omega) | assumption | (simp; done) | (simp [V.cells]; done) | (simp [in64, maxLen, limK] at *; omega) | ((show confB _ _ = true); kernel_rfl) | rfl)))
     | (intro row hrow; (try simp only [Int.toNat_natCast, List.length_map, toNat_pred, toNat_succ', toNat_zero', toNat_one'] at hrow); (first | (have hsm := same_map (by assumption) hrow; subst hsm; clear hrow) | (obtain ⟨p, hp, rfl⟩ := of_map hrow; clear hrow)))))
    all_goals (conv => whnf)
    all_goals (refine ⟨[0], ?_⟩)
    all_goals (repeat' (first | (with_reducible rfl) | exact trivial | ((conv => whnf); (first | (with_reducible refine And.intro ?_ ?_) | exact trivial | (intro hb; first | (exfalso; simp_all; done) | skip)))))
    all_goals (first | rfl | (show V.int IntKind.i64 0 = V.int IntKind.i64 ((takeV s : Nat) : Int); rw [takeV_bad (by simpa using hb)]; try rfl) | (show _ = V.str (textV s 255); rw [textV_bad (by simpa using hb)]; try rfl) | (show _ = V.bool (flagV s); rw [flagV_bad (by simpa using hb)]))

set_option maxRecDepth 100000 in
set_option maxHeartbeats 400000 in
theorem titext_fn (t : TK) : FnM Tryz.prog 89 [.ptr 0 0] [.cells (encTK t)] (.str t.textR) [.cells (encTK t.text)] := by
  refine FnM.mk' base Tryz.func89 rfl rfl rfl rfl ?_
  obtain ⟨s, b, b2, c, c2⟩ := t
  cases b
  · skip
    repeat' ((conv => whnf); (first
     | (with_reducible first | refine AW.seq ?_ | refine AW.region base (by kernel_rfl) ?_ | refine AW.cond ?_ | refine AW.block ?_ | refine AW.ret ?_ | refine AW.exit ?_ | refine AW.skip ?_ | refine Br.t ?_ | refine Br.f ?_)
     | ((with_reducible refine Or.inl ?_); (conv => whnf); (with_reducible refine And.intro LitSl.mk ?_))
     | refine Br.t ?_
     | refine Br.f ?_
     | ((with_reducible refine Or.inl ?_); (conv => whnf); (first | (with_reducible first | refine ⟨_, text_u _ _ c2, ?_⟩)))
     | (with_reducible refine Or.inr ⟨[?_], _, _, _, _, tigoes_fn ⟨s, ?_, b2, c, c2⟩ ⟨textR s 255, textOk s 255, true, textC s 255, c2⟩, ?_⟩)
     | (with_reducible refine Or.inr (Or.inr ⟨[?_], _, _, _, _, tigoes_fn ⟨s, ?_, b2, c, c2⟩ ⟨textR s 255, textOk s 255, true, textC s 255, c2⟩, ?_⟩))
     | (with_reducible refine Br.mk (fun hb => ?_) (fun hb => ?_) <;> (try rw [hb]) <;> (try simp only [List.length_map, decide_eq_true_eq, decide_eq_false_iff_not, Bool.not_eq_true', Bool.not_eq_false', Int.ofNat_lt, Int.ofNat_le, Int.not_lt, Int.not_le, Int.toNat_natCast] at hb))
     | ((with_reducible first | refine Or.inl (And.intro ?_ ?_) | refine And.intro ?_ ?_); (focus (first | with_reducible rfl | exact trivial | (exact ⟨rfl, trivial⟩) | (exact ⟨rfl, rfl, trivial⟩) | omega | (intro r hr; simp only [List.mem_singleton] at hr; subst hr; rfl)  | ((simp only [in64, maxLen] at *; omega)) | ((have := TK.numR_lt _; simp only [in64]; omega)) | (simp only [in64]; omega) | assumption | (simp; done) | (simp [V.cells]; done) | (simp [in64, maxLen, limK] at *; omega) | ((show confB _ _ = true); kernel_rfl) | rfl)))
     | (intro row hrow; (try simp only [Int.toNat_natCast, List.length_map, toNat_pred, toNat_succ', toNat_zero', toNat_one'] at hrow); (first | (have hsm := same_map (by assumption) hrow; subst hsm; clear hrow) | (obtain ⟨p, hp, rfl⟩ := of_map hrow; clear hrow)))))
    all_goals (conv => whnf)
    all_goals (refine ⟨[0], ?_⟩)
    all_goals (repeat' (first | (with_reducible rfl) | exact trivial | ((conv => whnf); (first | (with_reducible refine And.intro ?_ ?_) | exact trivial | (intro hb; first | (exfalso; simp_all; done) | skip)))))
    all_goals (first | rfl | (show V.int IntKind.i64 0 = V.int IntKind.i64 ((takeV s : Nat) : Int); rw [takeV_bad (by simpa using hb)]; try rfl) | (show _ = V.str (textV s 255); rw [textV_bad (by simpa using hb)]; try rfl) | (show _ = V.bool (flagV s); rw [flagV_bad (by simpa using hb)]))
  · skip
    repeat' ((conv => whnf); (first
     | (with_reducible first | refine AW.seq ?_ | refine AW.region base (by kernel_rfl) ?_ | refine AW.cond ?_ | refine AW.block ?_ | refine AW.ret ?_ | refine AW.exit ?_ | refine AW.skip ?_ | refine Br.t ?_ | refine Br.f ?_)
     | ((with_reducible refine Or.inl ?_); (conv => whnf); (with_reducible refine And.intro LitSl.mk ?_))
     | refine Br.t ?_
     | refine Br.f ?_
     | ((with_reducible refine Or.inl ?_); (conv => whnf); (first | (with_reducible first | refine ⟨_, text_u _ _ c2, ?_⟩)))
     | (with_reducible refine Or.inr ⟨[?_], _, _, _, _, tigoes_fn ⟨s, ?_, b2, c, c2⟩ ⟨textR s 255, textOk s 255, true, textC s 255, c2⟩, ?_⟩)
     | (with_reducible refine Or.inr (Or.inr ⟨[?_], _, _, _, _, tigoes_fn ⟨s, ?_, b2, c, c2⟩ ⟨textR s 255, textOk s 255, true, textC s 255, c2⟩, ?_⟩))
     | (with_reducible refine Br.mk (fun hb => ?_) (fun hb => ?_) <;> (try rw [hb]) <;> (try simp only [List.length_map, decide_eq_true_eq, decide_eq_false_iff_not, Bool.not_eq_true', Bool.not_eq_false', Int.ofNat_lt, Int.ofNat_le, Int.not_lt, Int.not_le, Int.toNat_natCast] at hb))
     | ((with_reducible first | refine Or.inl (And.intro ?_ ?_) | refine And.intro ?_ ?_); (focus (first | with_reducible rfl | exact trivial | (exact ⟨rfl, trivial⟩) | (exact ⟨rfl, rfl, trivial⟩) | omega | (intro r hr; simp only [List.mem_singleton] at hr; subst hr; rfl)  | ((simp only [in64, maxLen] at *; omega)) | ((have := TK.numR_lt _; simp only [in64]; omega)) | (simp only [in64]; omega) | assumption | (simp; done) | (simp [V.cells]; done) | (simp [in64, maxLen, limK] at *; omega) | ((show confB _ _ = true); kernel_rfl) | rfl)))
     | (intro row hrow; (try simp only [Int.toNat_natCast, List.length_map, toNat_pred, toNat_succ', toNat_zero', toNat_one'] at hrow); (first | (have hsm := same_map (by assumption) hrow; subst hsm; clear hrow) | (obtain ⟨p, hp, rfl⟩ := of_map hrow; clear hrow)))))
    all_goals (conv => whnf)
    all_goals (refine ⟨[0], ?_⟩)
    all_goals (repeat' (first | (with_reducible rfl) | exact trivial | ((conv => whnf); (first | (with_reducible refine And.intro ?_ ?_) | exact trivial | (intro hb; first | (exfalso; simp_all; done) | skip)))))
    all_goals (first | rfl | (show V.int IntKind.i64 0 = V.int IntKind.i64 ((takeV s : Nat) : Int); rw [takeV_bad (by simpa using hb)]; try rfl) | (show _ = V.str (textV s 255); rw [textV_bad (by simpa using hb)]; try rfl) | (show _ = V.bool (flagV s); rw [flagV_bad (by simpa using hb)]))

set_option maxRecDepth 100000 in
set_option maxHeartbeats 400000 in
theorem tiflag_fn (t : TK) : FnM Tryz.prog 90 [.ptr 0 0] [.cells (encTK t)] (.bool t.flagR) [.cells (encTK t.flag)] := by
  refine FnM.mk' base Tryz.func90 rfl rfl rfl rfl ?_
  obtain ⟨s, b, b2, c, c2⟩ := t
  cases b
  · skip
    repeat' ((conv => whnf); (first
     | (with_reducible first | refine AW.seq ?_ | refine AW.region base (by kernel_rfl) ?_ | refine AW.cond ?_ | refine AW.block ?_ | refine AW.ret ?_ | refine AW.exit ?_ | refine AW.skip ?_ | refine Br.t ?_ | refine Br.f ?_)
     | ((with_reducible refine Or.inl ?_); (conv => whnf); (with_reducible refine And.intro LitSl.mk ?_))
     | refine Br.t ?_
     | refine Br.f ?_
     | ((with_reducible refine Or.inl ?_); (conv => whnf); (first | (with_reducible first | refine ⟨_, flag_u _ c2, ?_⟩)))
     | (with_reducible refine Or.inr ⟨[?_], _, _, _, _, tigoes_fn ⟨s, ?_, b2, c, c2⟩ ⟨flagR s, flagOk s, true, flagC s, c2⟩, ?_⟩)
     | (with_reducible refine Or.inr (Or.inr ⟨[?_], _, _, _, _, tigoes_fn ⟨s, ?_, b2, c, c2⟩ ⟨flagR s, flagOk s, true, flagC s, c2⟩, ?_⟩))
     | (with_reducible refine Br.mk (fun hb => ?_) (fun hb => ?_) <;> (try rw [hb]) <;> (try simp only [List.length_map, decide_eq_true_eq, decide_eq_false_iff_not, Bool.not_eq_true', Bool.not_eq_false', Int.ofNat_lt, Int.ofNat_le, Int.not_lt, Int.not_le, Int.toNat_natCast] at hb))
     | ((with_reducible first | refine Or.inl (And.intro ?_ ?_) | refine And.intro ?_ ?_); (focus (first | with_reducible rfl | exact trivial | (exact ⟨rfl, trivial⟩) | (exact ⟨rfl, rfl, trivial⟩) | omega | (intro r hr; simp only [List.mem_singleton] at hr; subst hr; rfl)  | ((simp only [in64, maxLen] at *; omega)) | ((have := TK.numR_lt _; simp only [in64]; omega)) | (simp only [in64]; omega) | assumption | (simp; done) | (simp [V.cells]; done) | (simp [in64, maxLen, limK] at *; omega) | ((show confB _ _ = true); kernel_rfl) | rfl)))
     | (intro row hrow; (try simp only [Int.toNat_natCast, List.length_map, toNat_pred, toNat_succ', toNat_zero', toNat_one'] at hrow); (first | (have hsm := same_map (by assumption) hrow; subst hsm; clear hrow) | (obtain ⟨p, hp, rfl⟩ := of_map hrow; clear hrow)))))
    all_goals (conv => whnf)
    all_goals (refine ⟨[0], ?_⟩)
    all_goals (repeat' (first | (with_reducible rfl) | exact trivial | ((conv => whnf); (first | (with_reducible refine And.intro ?_ ?_) | exact trivial | (intro hb; first | (exfalso; simp_all; done) | skip)))))
    all_goals (first | rfl | (show V.int IntKind.i64 0 = V.int IntKind.i64 ((takeV s : Nat) : Int); rw [takeV_bad (by simpa using hb)]; try rfl) | (show _ = V.str (textV s 255); rw [textV_bad (by simpa using hb)]; try rfl) | (show _ = V.bool (flagV s); rw [flagV_bad (by simpa using hb)]))
  · skip
    repeat' ((conv => whnf); (first
     | (with_reducible first | refine AW.seq ?_ | refine AW.region base (by kernel_rfl) ?_ | refine AW.cond ?_ | refine AW.block ?_ | refine AW.ret ?_ | refine AW.exit ?_ | refine AW.skip ?_ | refine Br.t ?_ | refine Br.f ?_)
     | ((with_reducible refine Or.inl ?_); (conv => whnf); (with_reducible refine And.intro LitSl.mk ?_))
     | refine Br.t ?_
     | refine Br.f ?_
     | ((with_reducible refine Or.inl ?_); (conv => whnf); (first | (with_reducible first | refine ⟨_, flag_u _ c2, ?_⟩)))
     | (with_reducible refine Or.inr ⟨[?_], _, _, _, _, tigoes_fn ⟨s, ?_, b2, c, c2⟩ ⟨flagR s, flagOk s, true, flagC s, c2⟩, ?_⟩)
     | (with_reducible refine Or.inr (Or.inr ⟨[?_], _, _, _, _, tigoes_fn ⟨s, ?_, b2, c, c2⟩ ⟨flagR s, flagOk s, true, flagC s, c2⟩, ?_⟩))
     | (with_reducible refine Br.mk (fun hb => ?_) (fun hb => ?_) <;> (try rw [hb]) <;> (try simp only [List.length_map, decide_eq_true_eq, decide_eq_false_iff_not, Bool.not_eq_true', Bool.not_eq_false', Int.ofNat_lt, Int.ofNat_le, Int.not_lt, Int.not_le, Int.toNat_natCast] at hb))
     | ((with_reducible first | refine Or.inl (And.intro ?_ ?_) | refine And.intro ?_ ?_); (focus (first | with_reducible rfl | exact trivial | (exact ⟨rfl, trivial⟩) | (exact ⟨rfl, rfl, trivial⟩) | omega | (intro r hr; simp only [List.mem_singleton] at hr; subst hr; rfl)  | ((simp only [in64, maxLen] at *; omega)) | ((have := TK.numR_lt _; simp only [in64]; omega)) | (simp only [in64]; omega) | assumption | (simp; done) | (simp [V.cells]; done) | (simp [in64, maxLen, limK] at *; omega) | ((show confB _ _ = true); kernel_rfl) | rfl)))
     | (intro row hrow; (try simp only [Int.toNat_natCast, List.length_map, toNat_pred, toNat_succ', toNat_zero', toNat_one'] at hrow); (first | (have hsm := same_map (by assumption) hrow; subst hsm; clear hrow) | (obtain ⟨p, hp, rfl⟩ := of_map hrow; clear hrow)))))
    all_goals (conv => whnf)
    all_goals (refine ⟨[0], ?_⟩)
    all_goals (repeat' (first | (with_reducible rfl) | exact trivial | ((conv => whnf); (first | (with_reducible refine And.intro ?_ ?_) | exact trivial | (intro hb; first | (exfalso; simp_all; done) | skip)))))
    all_goals (first | rfl | (show V.int IntKind.i64 0 = V.int IntKind.i64 ((takeV s : Nat) : Int); rw [takeV_bad (by simpa using hb)]; try rfl) | (show _ = V.str (textV s 255); rw [textV_bad (by simpa using hb)]; try rfl) | (show _ = V.bool (flagV s); rw [flagV_bad (by simpa using hb)]))

set_option maxRecDepth 100000 in
set_option maxHeartbeats 400000 in
theorem tmany_fn (t : TK) (m : Int) (hm : 0 ≤ m) : FnM Tryz.prog 146 [.ptr 0 0, .int .i64 m] [.cells (encTK t)] (.int .i64 (t.manyR m 13 : Int)) [.cells (encTK (t.many m 13))] := by
  refine FnM.mk' base Tryz.func146 rfl rfl rfl rfl ?_
  obtain ⟨s, b, b2, c, c2⟩ := t
  repeat' ((conv => whnf); (first
   | ((with_reducible show AW _ _ _ (Code.seq (Code.seq (Code.region 4 _ _) _) _) _ _ _); (refine AW.weakC 0 1 (v := errV [] 13) (v' := errT false false (TK.num ⟨s, b, b2, c, c2⟩).c 13) rfl rfl (errT_bare _ _) ?_))
   | (with_reducible first | refine AW.seq ?_ | refine AW.region base (by kernel_rfl) ?_ | refine AW.cond ?_ | refine AW.block ?_ | refine AW.ret ?_ | refine AW.exit ?_ | refine AW.skip ?_ | refine Br.t ?_ | refine Br.f ?_)
   | ((with_reducible refine Or.inl ?_); (conv => whnf); (with_reducible refine And.intro LitSl.mk ?_))
   | refine Br.t ?_
   | refine Br.f ?_
   | (with_reducible refine Or.inr ⟨[?_], _, _, _, _, tnum_fn ?_, ?_⟩)
   | (with_reducible refine Or.inr (Or.inr ⟨[?_], _, _, _, _, tnum_fn ?_, ?_⟩))
   | (with_reducible refine Br.mk (fun hb => ?_) (fun hb => ?_) <;> (try rw [hb]) <;> (try simp only [List.length_map, decide_eq_true_eq, decide_eq_false_iff_not, Bool.not_eq_true', Bool.not_eq_false', Int.ofNat_lt, Int.ofNat_le, Int.not_lt, Int.not_le, Int.toNat_natCast] at hb))
   | ((with_reducible first | refine Or.inl (And.intro ?_ ?_) | refine And.intro ?_ ?_); (focus (first | with_reducible rfl | exact trivial | (exact ⟨rfl, trivial⟩) | (exact ⟨rfl, rfl, trivial⟩) | omega | (intro r hr; simp only [List.mem_singleton] at hr; subst hr; rfl)  | ((simp only [in64, maxLen] at *; omega)) | ((have := TK.numR_lt _; simp only [in64]; omega)) | (simp only [in64]; omega) | assumption | (simp; done) | (simp [V.cells]; done) | (simp [in64, maxLen, limK] at *; omega) | ((show confB _ _ = true); kernel_rfl) | rfl)))
   | (intro row hrow; (try simp only [Int.toNat_natCast, List.length_map, toNat_pred, toNat_succ', toNat_zero', toNat_one'] at hrow); (first | (have hsm := same_map (by assumption) hrow; subst hsm; clear hrow) | (obtain ⟨p, hp, rfl⟩ := of_map hrow; clear hrow)))))
  all_goals (conv => whnf)
  all_goals (refine ⟨[0], ?_⟩)
  all_goals (repeat' (first | (with_reducible rfl) | exact trivial | ((conv => whnf); (first | (with_reducible refine And.intro ?_ ?_) | exact trivial | (intro hb; first | (exfalso; simp_all; done) | skip)))))
  all_goals (first | rfl | (rw [(TK.many_large (t := ⟨s, b, b2, c, c2⟩) (m := m) (code := 13) (by assumption) (by assumption)).1]; first | done | rfl | (rw [show (TK.num ⟨s, b, b2, c, c2⟩).b = true by assumption]; try rfl)) | (rw [(TK.many_large (t := ⟨s, b, b2, c, c2⟩) (m := m) (code := 13) (by assumption) (by assumption)).2]; first | done | rfl | (rw [show (TK.num ⟨s, b, b2, c, c2⟩).b = true by assumption]; try rfl)) | (rw [(TK.many_large (t := ⟨s, b, b2, c, c2⟩) (m := m) (code := 13) (TK.num_pos (by omega)) (by assumption)).1]; first | done | rfl | (rw [show (TK.num ⟨s, b, b2, c, c2⟩).b = true by assumption]; try rfl)) | (rw [(TK.many_large (t := ⟨s, b, b2, c, c2⟩) (m := m) (code := 13) (TK.num_pos (by omega)) (by assumption)).2]; first | done | rfl | (rw [show (TK.num ⟨s, b, b2, c, c2⟩).b = true by assumption]; try rfl)) | (rw [(TK.many_fine (t := ⟨s, b, b2, c, c2⟩) (m := m) (code := 13) (by assumption) (by assumption)).1]; first | done | rfl | (rw [show (TK.num ⟨s, b, b2, c, c2⟩).b = true by assumption]; try rfl)) | (rw [(TK.many_fine (t := ⟨s, b, b2, c, c2⟩) (m := m) (code := 13) (by assumption) (by assumption)).2]; first | done | rfl | (rw [show (TK.num ⟨s, b, b2, c, c2⟩).b = true by assumption]; try rfl)) | (rw [(TK.many_bad (t := ⟨s, b, b2, c, c2⟩) (m := m) (code := 13) (by assumption)).1]; first | done | rfl | (rw [show (TK.num ⟨s, b, b2, c, c2⟩).b = false by assumption]; try rfl)) | (rw [(TK.many_bad (t := ⟨s, b, b2, c, c2⟩) (m := m) (code := 13) (by assumption)).2]; first | done | rfl | (rw [show (TK.num ⟨s, b, b2, c, c2⟩).b = false by assumption]; try rfl)))

end Go.Proofs.YtnblecdpkbempaaGreatDoor
