/-
  Walks of package op: bytes that are read. No conditions.
-/
import Derived.Test.YtnblecdpkbempaaGreatDoorOpB
namespace Go.Proofs.YtnblecdpkbempaaGreatDoor
open Go.RowKit
set_option linter.unusedSimpArgs false
set_option linter.unusedVariables false

abbrev tk0 (s : Bs) : TK := ⟨s, true, true, 0, 0⟩
def zeroO : OpV := ⟨0, [], [], [], 0, []⟩
def zeroA : AnV := ⟨0, [], 0, []⟩
def readWs : Nat → TK → List Wr → TK × List Wr
  | 0, t, l => (t, l)
  | n + 1, t, l => readWs n t.text.text.flag (l ++ [⟨t.textR, t.text.textR, t.text.text.flagR⟩])
def readRs : Nat → TK → List Rw → TK × List Rw
  | 0, t, l => (t, l)
  | n + 1, t, l => readRs n t.text.text.num (l ++ [⟨t.textR, t.text.textR, (t.text.text.numR : Int)⟩])
def TK.o5 (t : TK) : TK := t.num.text.text.text.num
def rawO (s : Bs) : TK × OpV :=
  let t := tk0 s
  let r := readWs (t.o5.manyR 4 13) (t.o5.many 4 13) []
  (r.1, ⟨t.numR, t.num.textR, t.num.text.textR, t.num.text.text.textR, (t.num.text.text.text.numR : Int), r.2⟩)
def readO (s : Bs) : TK × OpV := if (rawO s).1.b then (if opB (rawO s).2 then rawO s else (⟨s, false, false, (rawO s).1.c, 10⟩, zeroO)) else (⟨s, false, (rawO s).1.b2, (rawO s).1.c, (rawO s).1.c2⟩, zeroO)
def TK.a3 (t : TK) : TK := t.num.text.num
def rawA (s : Bs) : TK × AnV :=
  let t := tk0 s
  let r := readRs (t.a3.manyR 16 13) (t.a3.many 16 13) []
  (r.1, ⟨t.numR, t.num.textR, (t.num.text.numR : Int), r.2⟩)
def readA (s : Bs) : TK × AnV := if (rawA s).1.b then rawA s else (⟨s, false, (rawA s).1.b2, (rawA s).1.c, (rawA s).1.c2⟩, zeroA)
section
variable {P : Program} {N na : Nat} {h : Hp} {e : Env} {Q : Exit → Env → Hp → Prop}
/-- what a slot holds stands for more -/
theorem AW.weakS {c : Code} (t : Nat) {v v' : V} (ht : e t = v) (hv : ∀ (w : World) (R : Nat → Prop) (ρ : Rho) (x : Value), Rep w R ρ v x → Rep w R ρ v' x) (K : AW P N na c (e.set t v') h Q) : AW P N na c e h Q := by
  refine ⟨fun cx an R ρ a w hn hs hth ha he => ?_⟩
  refine K.run cx an R ρ a w hn hs hth ha ⟨he.size, fun s => ?_, he.defers⟩
  by_cases hst : s = t
  · subst hst
    have := he.rep s
    rw [ht] at this
    rw [Env.set_same]
    exact hv w R ρ _ this
  · rw [Env.set_other _ _ hst]; exact he.rep s
end

set_option maxRecDepth 100000 in
set_option maxHeartbeats 2000000 in
theorem anRead_fn (s : Bs) : Fn Tryz.prog 128 [.str s] (.tup [.agg (encA (readA s).2), .str (readA s).1.s, errT (readA s).1.b (readA s).1.b2 (readA s).1.c (readA s).1.c2]) := by
  refine Fn.mk' base Tryz.func128 rfl rfl rfl ?_
  obtain ⟨T, hT⟩ : ∃ T : TK, T = tk0 s := ⟨_, rfl⟩
  repeat' ((conv => whnf); (first
   | ((with_reducible show AW _ _ _ (Code.seq (Code.region 2 _ _) _) _ _ _); (refine AW.weakC 2002 1 (v := noErr) (v' := errT T.b T.b2 T.c T.c2) rfl rfl (fun w R ρ x hx => by rw [hT]; exact errT_nil _ _ _ w R ρ x hx) ?_); (refine AW.weakC 2002 0 (v := .str s) (v' := .str T.s) rfl rfl (fun w R ρ x hx => by rw [hT]; exact hx) ?_))
   | ((with_reducible show AW _ _ _ Code.ret _ _ _); (refine AW.nilC 0 3 rfl rfl ?_))
   | ((with_reducible show AW _ _ _ Code.ret _ _ _); (refine AW.weakS 4 (v := noErr) (v' := errT true tk.b2 tk.c tk.c2) rfl (errT_nil _ _ _) ?_))
   | ((with_reducible show AW _ _ _ Code.ret _ _ _); (refine AW.weakS 4 (v := errV [] 10) (v' := errT false false tk.c 10) rfl (errT_bare _ _) ?_))
   | (with_reducible first | refine AW.seq ?_ | refine AW.region base (by kernel_rfl) ?_ | refine AW.cond ?_ | refine AW.block ?_ | refine AW.ret ?_ | refine AW.exit ?_ | refine AW.skip ?_ | refine Br.t ?_ | refine Br.f ?_)
   | (with_reducible refine Br.mkT (fun hb => (by (first | (simp at hb; done) | omega | (simp at hb; omega) | (simp only [List.length_map] at hb; omega) | fail))) (fun hb => ?_))
   | (with_reducible refine Br.mkF (fun hb => (by (first | (simp at hb; done) | omega | (simp at hb; omega) | (simp only [List.length_map] at hb; omega) | fail))) (fun hb => ?_))
   | ((with_reducible refine Or.inl ?_); (conv => whnf); (with_reducible refine And.intro LitSl.mk ?_))
   | refine Br.t ?_
   | refine Br.f ?_
   | (with_reducible refine Or.inr ⟨[?_], _, _, _, _, tnum_fn ?_, ?_⟩)
   | (with_reducible refine Or.inr (Or.inr ⟨[?_], _, _, _, _, tnum_fn ?_, ?_⟩))
   | (with_reducible refine Or.inr ⟨[?_], _, _, _, _, ttext_fn ?_, ?_⟩)
   | (with_reducible refine Or.inr (Or.inr ⟨[?_], _, _, _, _, ttext_fn ?_, ?_⟩))
   | (with_reducible refine Or.inr ⟨[?_], _, _, _, _, tflag_fn ?_, ?_⟩)
   | (with_reducible refine Or.inr (Or.inr ⟨[?_], _, _, _, _, tflag_fn ?_, ?_⟩))
   | (with_reducible refine Or.inr ⟨[?_], _, _, _, _, tmany_fn ?_ 16 (by omega), ?_⟩)
   | (with_reducible refine Or.inr (Or.inr ⟨[?_], _, _, _, _, tmany_fn ?_ 16 (by omega), ?_⟩))
   | (with_reducible refine Br.mk (fun hb => ?_) (fun hb => ?_) <;> (try rw [hb]) <;> (try simp only [List.length_map, decide_eq_true_eq, decide_eq_false_iff_not, Bool.not_eq_true', Bool.not_eq_false', Int.ofNat_lt, Int.ofNat_le, Int.not_lt, Int.not_le, Int.toNat_natCast] at hb))
   | ((with_reducible first | refine Or.inl (And.intro ?_ ?_) | refine And.intro ?_ ?_); (focus (first | with_reducible rfl | exact trivial | (exact ⟨rfl, trivial⟩) | (exact ⟨rfl, rfl, trivial⟩) | omega | (intro r hr; simp only [List.mem_singleton] at hr; subst hr; rfl)  | ((simp only [in64, maxLen] at *; omega)) | ((simp only [List.length_map, List.length_cons, List.length_nil]; omega)) | ((simp only [List.length_append, List.length_cons, List.length_nil]; omega)) | (simp only [in64]; omega) | assumption | (simp; done) | (simp [V.cells]; done) | (simp [in64, maxLen, limK] at *; omega) | ((show confB _ _ = true); kernel_rfl) | rfl)))
   | (intro row hrow; (try simp only [Int.toNat_natCast, List.length_map, toNat_pred, toNat_succ', toNat_zero', toNat_one'] at hrow); (first | (have hsm := same_map (by assumption) hrow; subst hsm; clear hrow) | (obtain ⟨p, hp, rfl⟩ := of_map hrow; clear hrow)))))
  refine AW.adoptC 3007 3 999999999 (el := 138) rfl rfl rfl (rows_of 47 rfl) ?_
  generalize hn : (TK.num (TK.text (TK.num T))).manyR 16 13 = n
  have hn4 : (n : Int) ≤ 16 := by rw [← hn]; exact TK.manyR_le _ _ _ (by omega)
  refine AW.loop (fun (⟨i, tk, l⟩ : Nat × TK × List Rw) => i ≤ n ∧ readRs (n - i) tk l = readRs n ((TK.num (TK.text (TK.num T))).many 16 13) [] ∧ l.length = i) (fun (⟨i, tk, l⟩ : Nat × TK × List Rw) => ⟨[(0, .str s), (2, .ptr 0 0), (5, .ptr 1 0), (6, .ptr 2 0), (18, .int .i64 (n : Int)), (19, .int .i64 (i : Int))], [.cells [.int .i64 0, .str [], .int .i64 0, .nils], .cells (encTK tk), .cells [.int .i64 (T.numR : Int), .str (TK.num T).textR, .int .i64 ((TK.num T).text.numR : Int), .own 3], .rows 138 (l.map encRw)]⟩) (fun (⟨i, tk, l⟩ : Nat × TK × List Rw) => n - i) (0, (TK.num (TK.text (TK.num T))).many 16 13, []) ?_ ?_ ?_
  · (exact ⟨Nat.zero_le _, rfl, rfl⟩)
  · (refine ⟨⟨[1000, 2002, 3007, 999999999], ?_⟩⟩; repeat' (first | (with_reducible rfl) | exact trivial | ((conv => whnf); (first | (with_reducible refine And.intro ?_ ?_) | (first | with_reducible rfl | ((first | refine congrArg V.str ?_ | refine congrArg (V.int _) ?_ | refine congrArg V.bool ?_ | refine congrArg V.sl ?_); (first | with_reducible rfl | omega | (rw [List.map_append]; rfl) | rfl | (simp; done))) | (first | with_reducible rfl | omega | (rw [List.map_append]; rfl) | rfl | (simp; done)) | rfl)))))
  · rintro ⟨i, tk, l⟩ hk
    obtain ⟨hk1, hk2, hk3⟩ := hk
    rcases (by omega : i = n ∨ i < n) with hi | hi
    · subst hi
      rw [Nat.sub_self, readRs] at hk2
      have hraw : rawA s = (tk, ⟨T.numR, (TK.num T).textR, ((TK.num T).text.numR : Int), l⟩) := by
        rw [← hn] at hk2
        subst hT
        unfold rawA
        simp only [TK.o5, TK.a3, ← hk2]
      have hrd : readA s = if tk.b then (tk, ⟨T.numR, (TK.num T).textR, ((TK.num T).text.numR : Int), l⟩) else (⟨s, false, tk.b2, tk.c, tk.c2⟩, zeroA) := by unfold readA; rw [hraw]
      repeat' ((conv => whnf); (first
       | ((with_reducible show AW _ _ _ (Code.seq (Code.region 2 _ _) _) _ _ _); (refine AW.weakC 2002 1 (v := noErr) (v' := errT T.b T.b2 T.c T.c2) rfl rfl (fun w R ρ x hx => by rw [hT]; exact errT_nil _ _ _ w R ρ x hx) ?_); (refine AW.weakC 2002 0 (v := .str s) (v' := .str T.s) rfl rfl (fun w R ρ x hx => by rw [hT]; exact hx) ?_))
       | ((with_reducible show AW _ _ _ Code.ret _ _ _); (refine AW.nilC 0 3 rfl rfl ?_))
       | ((with_reducible show AW _ _ _ Code.ret _ _ _); (refine AW.weakS 4 (v := noErr) (v' := errT true tk.b2 tk.c tk.c2) rfl (errT_nil _ _ _) ?_))
       | ((with_reducible show AW _ _ _ Code.ret _ _ _); (refine AW.weakS 4 (v := errV [] 10) (v' := errT false false tk.c 10) rfl (errT_bare _ _) ?_))
       | (with_reducible first | refine AW.seq ?_ | refine AW.region base (by kernel_rfl) ?_ | refine AW.cond ?_ | refine AW.block ?_ | refine AW.ret ?_ | refine AW.exit ?_ | refine AW.skip ?_ | refine Br.t ?_ | refine Br.f ?_)
       | (with_reducible refine Br.mkT (fun hb => (by (first | (simp at hb; done) | omega | (simp at hb; omega) | (simp only [List.length_map] at hb; omega) | fail))) (fun hb => ?_))
       | (with_reducible refine Br.mkF (fun hb => (by (first | (simp at hb; done) | omega | (simp at hb; omega) | (simp only [List.length_map] at hb; omega) | fail))) (fun hb => ?_))
       | ((with_reducible refine Or.inl ?_); (conv => whnf); (with_reducible refine And.intro LitSl.mk ?_))
       | refine Br.t ?_
       | refine Br.f ?_
       | (with_reducible refine Or.inr ⟨[?_], _, _, _, _, tnum_fn ?_, ?_⟩)
       | (with_reducible refine Or.inr (Or.inr ⟨[?_], _, _, _, _, tnum_fn ?_, ?_⟩))
       | (with_reducible refine Or.inr ⟨[?_], _, _, _, _, ttext_fn ?_, ?_⟩)
       | (with_reducible refine Or.inr (Or.inr ⟨[?_], _, _, _, _, ttext_fn ?_, ?_⟩))
       | (with_reducible refine Or.inr ⟨[?_], _, _, _, _, tflag_fn ?_, ?_⟩)
       | (with_reducible refine Or.inr (Or.inr ⟨[?_], _, _, _, _, tflag_fn ?_, ?_⟩))
       | (with_reducible refine Or.inr ⟨[?_], _, _, _, _, tmany_fn ?_ 16 (by omega), ?_⟩)
       | (with_reducible refine Or.inr (Or.inr ⟨[?_], _, _, _, _, tmany_fn ?_ 16 (by omega), ?_⟩))
       | (with_reducible refine Br.mk (fun hb => ?_) (fun hb => ?_) <;> (try rw [hb]) <;> (try simp only [List.length_map, decide_eq_true_eq, decide_eq_false_iff_not, Bool.not_eq_true', Bool.not_eq_false', Int.ofNat_lt, Int.ofNat_le, Int.not_lt, Int.not_le, Int.toNat_natCast] at hb))
       | ((with_reducible first | refine Or.inl (And.intro ?_ ?_) | refine And.intro ?_ ?_); (focus (first | with_reducible rfl | exact trivial | (exact ⟨rfl, trivial⟩) | (exact ⟨rfl, rfl, trivial⟩) | omega | (intro r hr; simp only [List.mem_singleton] at hr; subst hr; rfl)  | ((simp only [in64, maxLen] at *; omega)) | ((simp only [List.length_map, List.length_cons, List.length_nil]; omega)) | ((simp only [List.length_append, List.length_cons, List.length_nil]; omega)) | (simp only [in64]; omega) | assumption | (simp; done) | (simp [V.cells]; done) | (simp [in64, maxLen, limK] at *; omega) | ((show confB _ _ = true); kernel_rfl) | rfl)))
       | (intro row hrow; (try simp only [Int.toNat_natCast, List.length_map, toNat_pred, toNat_succ', toNat_zero', toNat_one'] at hrow); (first | (have hsm := same_map (by assumption) hrow; subst hsm; clear hrow) | (obtain ⟨p, hp, rfl⟩ := of_map hrow; clear hrow)))))
      all_goals ((conv => whnf); first | (rw [hrd, if_neg (show ¬ tk.b = true by rw [show tk.b = false by assumption]; decide), show tk.b = false by assumption]; rfl) | (rw [hrd, if_pos (show tk.b = true by assumption)]; dsimp only; rw [(show tk.b = true by assumption)]; rfl) | skip)
    rw [show n - i = (n - (i + 1)) + 1 by omega, readRs] at hk2
    repeat' ((conv => whnf); (first
     | (with_reducible first | refine AW.seq ?_ | refine AW.region base (by kernel_rfl) ?_ | refine AW.cond ?_ | refine AW.block ?_ | refine AW.ret ?_ | refine AW.exit ?_ | refine AW.skip ?_ | refine Br.t ?_ | refine Br.f ?_)
     | (with_reducible refine Br.mkT (fun hb => (by (first | (simp at hb; done) | omega | (simp at hb; omega) | (simp only [List.length_map] at hb; omega) | fail))) (fun hb => ?_))
     | (with_reducible refine Br.mkF (fun hb => (by (first | (simp at hb; done) | omega | (simp at hb; omega) | (simp only [List.length_map] at hb; omega) | fail))) (fun hb => ?_))
     | ((with_reducible refine Or.inl ?_); (conv => whnf); (with_reducible refine And.intro LitSl.mk ?_))
     | refine Br.t ?_
     | refine Br.f ?_
     | (with_reducible refine Or.inr ⟨[?_], _, _, _, _, tnum_fn ?_, ?_⟩)
     | (with_reducible refine Or.inr (Or.inr ⟨[?_], _, _, _, _, tnum_fn ?_, ?_⟩))
     | (with_reducible refine Or.inr ⟨[?_], _, _, _, _, ttext_fn ?_, ?_⟩)
     | (with_reducible refine Or.inr (Or.inr ⟨[?_], _, _, _, _, ttext_fn ?_, ?_⟩))
     | (with_reducible refine Or.inr ⟨[?_], _, _, _, _, tflag_fn ?_, ?_⟩)
     | (with_reducible refine Or.inr (Or.inr ⟨[?_], _, _, _, _, tflag_fn ?_, ?_⟩))
     | (with_reducible refine Or.inr ⟨[?_], _, _, _, _, tmany_fn ?_ 16 (by omega), ?_⟩)
     | (with_reducible refine Or.inr (Or.inr ⟨[?_], _, _, _, _, tmany_fn ?_ 16 (by omega), ?_⟩))
     | (with_reducible refine Br.mk (fun hb => ?_) (fun hb => ?_) <;> (try rw [hb]) <;> (try simp only [List.length_map, decide_eq_true_eq, decide_eq_false_iff_not, Bool.not_eq_true', Bool.not_eq_false', Int.ofNat_lt, Int.ofNat_le, Int.not_lt, Int.not_le, Int.toNat_natCast] at hb))
     | ((with_reducible first | refine Or.inl (And.intro ?_ ?_) | refine And.intro ?_ ?_); (focus (first | with_reducible rfl | exact trivial | (exact ⟨rfl, trivial⟩) | (exact ⟨rfl, rfl, trivial⟩) | omega | (intro r hr; simp only [List.mem_singleton] at hr; subst hr; rfl)  | ((simp only [in64, maxLen] at *; omega)) | ((simp only [List.length_map, List.length_cons, List.length_nil]; omega)) | ((simp only [List.length_append, List.length_cons, List.length_nil]; omega)) | (simp only [in64]; omega) | assumption | (simp; done) | (simp [V.cells]; done) | (simp [in64, maxLen, limK] at *; omega) | ((show confB _ _ = true); kernel_rfl) | rfl)))
     | (intro row hrow; (try simp only [Int.toNat_natCast, List.length_map, toNat_pred, toNat_succ', toNat_zero', toNat_one'] at hrow); (first | (have hsm := same_map (by assumption) hrow; subst hsm; clear hrow) | (obtain ⟨p, hp, rfl⟩ := of_map hrow; clear hrow)))))
    all_goals (try first | with_reducible assumption | ((first | show (_ : Int) ≤ _ | show (_ : Nat) ≤ _ | show (_ : Int) < _ | show ¬ (_ : Int) = _); (first | omega | (simp at *; omega))) | ((show in64 _); (simp only [in64] at *; (first | omega | (simp at *; omega)))) | ((with_reducible refine And.intro ?_ ?_) <;> (first | omega | (simp at *; omega))))
    all_goals (first
      | (with_reducible exact absurd rfl (by assumption))
      | ((conv => whnf); (refine ⟨(i + 1, ?_, l ++ [⟨tk.textR, tk.text.textR, (tk.text.text.numR : Int)⟩]), ?_⟩); (rotate_left 1); (refine And.intro ?_ (And.intro ?_ ?_)); (focus (refine ⟨⟨[0, 1, 2, ?_], ?_⟩⟩; rotate_left 1; repeat' (first | (with_reducible rfl) | exact trivial | ((conv => whnf); (first | (with_reducible refine And.intro ?_ ?_) | (first | with_reducible rfl | ((first | refine congrArg V.str ?_ | refine congrArg (V.int _) ?_ | refine congrArg V.bool ?_ | refine congrArg V.sl ?_); (first | with_reducible rfl | omega | (rw [List.map_append]; rfl) | rfl | (simp; done))) | (first | with_reducible rfl | omega | (rw [List.map_append]; rfl) | rfl | (simp; done)) | rfl)))))); (focus (exact ⟨by omega, hk2, by simp; omega⟩)); (focus (first | omega | (dsimp only; omega) | (simp; done) | (simp; omega) | (simp at *; omega))))
      | ((conv => whnf); (try (first | rfl | (exfalso; simp_all; done) | (exfalso; simp at *; omega))); done))

end Go.Proofs.YtnblecdpkbempaaGreatDoor
