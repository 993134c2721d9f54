/-
  Walks of package image: a shard that is taken of bytes. No conditions.
-/
import Derived.Test.YtnblecdpkbempaaGreatDoorImgC
namespace Go.Proofs.YtnblecdpkbempaaGreatDoor
open Go.RowKit
set_option linter.unusedSimpArgs false
set_option linter.unusedVariables false

def TK.manyI (t : TK) : TK := if t.num.b && decide (t.num.s.length < t.numR) then ⟨t.num.s, false, false, t.num.c, 10⟩ else t.num
def TK.manyIR (t : TK) : Nat := if t.manyI.b then t.numR else 0
theorem TK.manyI_large {t : TK} (h1 : t.num.b = true) (h2 : t.num.s.length < t.numR) : t.manyI = ⟨t.num.s, false, false, t.num.c, 10⟩ ∧ t.manyIR = 0 := by
  have e : t.manyI = ⟨t.num.s, false, false, t.num.c, 10⟩ := by unfold TK.manyI; rw [h1, decide_eq_true h2]; rfl
  exact ⟨e, by unfold TK.manyIR; rw [e]; rfl⟩
theorem TK.manyI_fine {t : TK} (h1 : t.num.b = true) (h2 : t.numR ≤ t.num.s.length) : t.manyI = t.num ∧ t.manyIR = t.numR := by
  have e : t.manyI = t.num := by unfold TK.manyI; rw [h1, decide_eq_false (by omega)]; rfl
  exact ⟨e, by unfold TK.manyIR; rw [e, h1]; rfl⟩
theorem TK.manyI_bad {t : TK} (h1 : t.num.b = false) : t.manyI = t.num ∧ t.manyIR = 0 := by
  have e : t.manyI = t.num := by unfold TK.manyI; rw [h1]; rfl
  exact ⟨e, by unfold TK.manyIR; rw [e, h1]; rfl⟩
def TK.ans (t : TK) : TK := if t.b then (readA t.s).1 else t
def TK.ansR (t : TK) : AnV := if t.b then (readA t.s).2 else zeroA
theorem readA_bad {s : Bs} (h : (readA s).1.b = false) : (readA s).2 = zeroA := by
  unfold readA at *
  split at h
  · rename_i h1; rw [h1] at h; cases h
  · rename_i h1; rw [if_neg h1]
def readC : Nat → TK → List Cel → TK × List Cel
  | 0, t, l => (t, l)
  | n + 1, t, l => readC n t.text.text.num.flag.num (l ++ [⟨t.textR, t.text.textR, (t.text.text.numR : Int), t.text.text.num.flagR, (t.text.text.num.flag.numR : Int)⟩])
def readD : Nat → TK → List Dn → TK × List Dn
  | 0, t, l => (t, l)
  | n + 1, t, l => readD n t.num.num.ans (l ++ [⟨(t.numR : Int), (t.num.numR : Int), t.num.num.ansR⟩])

section
variable {P : Program} {N na : Nat} {h : Hp} {e : Env} {Q : Exit → Env → Hp → Prop}
/-- a list that was given up, in a cell -/
theorem AW.ownC {c : Code} (b i k : Nat) {cs : List V} {v : V} (hb : h b = some (.cells cs)) (hi : cs[i]? = some (.own k)) (hk : h k = some (.rd v)) (K : AW P N na c e (h.set b (some (.cells (cs.set i v)))) Q) : AW P N na c e h Q :=
  ⟨fun cx an R ρ a w hn hs ht ha he => K.run cx an R ρ a w hn (hs.recell hb fun xs hr => hr.setAt hi fun x hx => by
    cases hx with
    | own hq =>
      have := hs.brep k _ _ hq hk
      exact Rep.mono this (fun _ h => h) (fun _ _ => rfl) (fun _ _ h => by cases h)) (fun j o hj => Hp.mono_set h b _ j (ht j o hj)) ha he⟩
end

set_option maxRecDepth 100000 in
set_option maxHeartbeats 400000 in
theorem timany_fn (t : TK) : FnM Tryz.prog 91 [.ptr 0 0] [.cells (encTK t)] (.int .i64 (t.manyIR : Int)) [.cells (encTK t.manyI)] := by
  refine FnM.mk' base Tryz.func91 rfl rfl rfl rfl ?_
  obtain ⟨s, b, b2, c, c2⟩ := t
  repeat' ((conv => whnf); (first
   | ((with_reducible show AW _ _ _ (Code.seq (Code.seq (Code.region 4 _ _) _) _) _ _ _); (refine AW.weakC 0 1 (v := errV [] 10) (v' := errT false false (TK.num ⟨s, b, b2, c, c2⟩).c 10) rfl rfl (errT_bare _ _) ?_))
   | (with_reducible first | refine AW.seq ?_ | refine AW.region base (by kernel_rfl) ?_ | refine AW.cond ?_ | refine AW.block ?_ | refine AW.ret ?_ | refine AW.exit ?_ | refine AW.skip ?_ | refine Br.t ?_ | refine Br.f ?_)
   | ((with_reducible refine Or.inl ?_); (conv => whnf); (with_reducible refine And.intro LitSl.mk ?_))
   | refine Br.t ?_
   | refine Br.f ?_
   | (with_reducible refine Or.inr ⟨[?_], _, _, _, _, tinum_fn ?_, ?_⟩)
   | (with_reducible refine Or.inr (Or.inr ⟨[?_], _, _, _, _, tinum_fn ?_, ?_⟩))
   | (with_reducible refine Br.mk (fun hb => ?_) (fun hb => ?_) <;> (try rw [hb]) <;> (try simp only [List.length_map, decide_eq_true_eq, decide_eq_false_iff_not, Bool.not_eq_true', Bool.not_eq_false', Int.ofNat_lt, Int.ofNat_le, Int.not_lt, Int.not_le, Int.toNat_natCast] at hb))
   | ((with_reducible first | refine Or.inl (And.intro ?_ ?_) | refine And.intro ?_ ?_); (focus (first | with_reducible rfl | exact trivial | (exact ⟨rfl, trivial⟩) | (exact ⟨rfl, rfl, trivial⟩) | omega | (intro r hr; simp only [List.mem_singleton] at hr; subst hr; rfl)  | ((simp only [in64, maxLen] at *; omega)) | ((have := TK.numR_lt _; simp only [in64]; omega)) | ((simp only [List.length_map, List.length_cons, List.length_nil]; omega)) | ((simp only [List.length_append, List.length_cons, List.length_nil]; omega)) | (simp only [in64]; omega) | assumption | (simp; done) | (simp [V.cells]; done) | (simp [in64, maxLen, limK] at *; omega) | ((show confB _ _ = true); kernel_rfl) | rfl)))
   | (intro row hrow; (try simp only [Int.toNat_natCast, List.length_map, toNat_pred, toNat_succ', toNat_zero', toNat_one'] at hrow); (first | (have hsm := same_map (by assumption) hrow; subst hsm; clear hrow) | (obtain ⟨p, hp, rfl⟩ := of_map hrow; clear hrow)))))
  all_goals (conv => whnf)
  all_goals (refine ⟨[0], ?_⟩)
  all_goals (repeat' (first | (with_reducible rfl) | exact trivial | ((conv => whnf); (first | (with_reducible refine And.intro ?_ ?_) | exact trivial | (intro hb; first | (exfalso; simp_all; done) | skip)))))
  all_goals (first | rfl | (rw [(TK.manyI_large (t := ⟨s, b, b2, c, c2⟩) (by assumption) (by omega)).1]; first | done | rfl | (rw [show (TK.num ⟨s, b, b2, c, c2⟩).b = true by assumption]; try rfl)) | (rw [(TK.manyI_large (t := ⟨s, b, b2, c, c2⟩) (by assumption) (by omega)).2]; first | done | rfl | (rw [show (TK.num ⟨s, b, b2, c, c2⟩).b = true by assumption]; try rfl)) | (rw [(TK.manyI_large (t := ⟨s, b, b2, c, c2⟩) (TK.num_pos (by omega)) (by omega)).1]; first | done | rfl | (rw [show (TK.num ⟨s, b, b2, c, c2⟩).b = true by assumption]; try rfl)) | (rw [(TK.manyI_large (t := ⟨s, b, b2, c, c2⟩) (TK.num_pos (by omega)) (by omega)).2]; first | done | rfl | (rw [show (TK.num ⟨s, b, b2, c, c2⟩).b = true by assumption]; try rfl)) | (rw [(TK.manyI_fine (t := ⟨s, b, b2, c, c2⟩) (by assumption) (by omega)).1]; first | done | rfl | (rw [show (TK.num ⟨s, b, b2, c, c2⟩).b = true by assumption]; try rfl)) | (rw [(TK.manyI_fine (t := ⟨s, b, b2, c, c2⟩) (by assumption) (by omega)).2]; first | done | rfl | (rw [show (TK.num ⟨s, b, b2, c, c2⟩).b = true by assumption]; try rfl)) | (rw [(TK.manyI_bad (t := ⟨s, b, b2, c, c2⟩) (by assumption)).1]; first | done | rfl | (rw [show (TK.num ⟨s, b, b2, c, c2⟩).b = false by assumption]; try rfl)) | (rw [(TK.manyI_bad (t := ⟨s, b, b2, c, c2⟩) (by assumption)).2]; first | done | rfl | (rw [show (TK.num ⟨s, b, b2, c, c2⟩).b = false by assumption]; try rfl)))

set_option maxRecDepth 100000 in
set_option maxHeartbeats 400000 in
theorem tianswer_fn (t : TK) : FnM Tryz.prog 92 [.ptr 0 0] [.cells (encTK t)] (.agg (encA t.ansR)) [.cells (encTK t.ans)] := by
  refine FnM.mk' base Tryz.func92 rfl rfl rfl rfl ?_
  obtain ⟨s, b, b2, c, c2⟩ := t
  cases b
  · skip
    repeat' ((conv => whnf); (first
     | ((with_reducible show AW _ _ _ Code.ret _ _ _); (refine AW.nilC 1000 3 rfl rfl ?_); (with_reducible refine AW.ret ?_))
     | (with_reducible first | refine AW.seq ?_ | refine AW.region base (by kernel_rfl) ?_ | refine AW.cond ?_ | refine AW.block ?_ | refine AW.ret ?_ | refine AW.exit ?_ | refine AW.skip ?_ | refine Br.t ?_ | refine Br.f ?_)
     | ((with_reducible refine Or.inl ?_); (conv => whnf); (with_reducible refine And.intro LitSl.mk ?_))
     | refine Br.t ?_
     | refine Br.f ?_
     | ((with_reducible refine Or.inl ?_); (conv => whnf); (first | (with_reducible first | refine ⟨_, anRead_fn _, ?_⟩)))
     | (with_reducible refine Or.inr ⟨[?_], _, _, _, _, tigoes_fn ⟨s, false, b2, c, c2⟩ (readA s).1, ?_⟩)
     | (with_reducible refine Or.inr (Or.inr ⟨[?_], _, _, _, _, tigoes_fn ⟨s, false, b2, c, c2⟩ (readA s).1, ?_⟩))
     | (with_reducible refine Br.mk (fun hb => ?_) (fun hb => ?_) <;> (try rw [hb]) <;> (try simp only [List.length_map, decide_eq_true_eq, decide_eq_false_iff_not, Bool.not_eq_true', Bool.not_eq_false', Int.ofNat_lt, Int.ofNat_le, Int.not_lt, Int.not_le, Int.toNat_natCast] at hb))
     | ((with_reducible first | refine Or.inl (And.intro ?_ ?_) | refine And.intro ?_ ?_); (focus (first | with_reducible rfl | exact trivial | (exact ⟨rfl, trivial⟩) | (exact ⟨rfl, rfl, trivial⟩) | omega | (intro r hr; simp only [List.mem_singleton] at hr; subst hr; rfl)  | ((simp only [in64, maxLen] at *; omega)) | ((have := TK.numR_lt _; simp only [in64]; omega)) | ((simp only [List.length_map, List.length_cons, List.length_nil]; omega)) | ((simp only [List.length_append, List.length_cons, List.length_nil]; omega)) | (simp only [in64]; omega) | assumption | (simp; done) | (simp [V.cells]; done) | (simp [in64, maxLen, limK] at *; omega) | ((show confB _ _ = true); kernel_rfl) | rfl)))
     | (intro row hrow; (try simp only [Int.toNat_natCast, List.length_map, toNat_pred, toNat_succ', toNat_zero', toNat_one'] at hrow); (first | (have hsm := same_map (by assumption) hrow; subst hsm; clear hrow) | (obtain ⟨p, hp, rfl⟩ := of_map hrow; clear hrow)))))
    all_goals (conv => whnf)
    all_goals (refine ⟨[0], ?_⟩)
    all_goals (repeat' (first | (with_reducible rfl) | exact trivial | ((conv => whnf); (first | (with_reducible refine And.intro ?_ ?_) | exact trivial | (intro hb; first | (exfalso; simp_all; done) | skip)))))
    all_goals (first | rfl | (show V.agg (encA (readA s).2) = _; rfl) | (rw [show TK.ansR ⟨s, true, b2, c, c2⟩ = zeroA from readA_bad (by assumption)]; rfl) | (rw [show TK.ansR ⟨s, true, b2, c, c2⟩ = zeroA from readA_bad (by simpa using hb)]; rfl))
  · skip
    repeat' ((conv => whnf); (first
     | ((with_reducible show AW _ _ _ Code.ret _ _ _); (refine AW.nilC 1000 3 rfl rfl ?_); (with_reducible refine AW.ret ?_))
     | (with_reducible first | refine AW.seq ?_ | refine AW.region base (by kernel_rfl) ?_ | refine AW.cond ?_ | refine AW.block ?_ | refine AW.ret ?_ | refine AW.exit ?_ | refine AW.skip ?_ | refine Br.t ?_ | refine Br.f ?_)
     | ((with_reducible refine Or.inl ?_); (conv => whnf); (with_reducible refine And.intro LitSl.mk ?_))
     | refine Br.t ?_
     | refine Br.f ?_
     | ((with_reducible refine Or.inl ?_); (conv => whnf); (first | (with_reducible first | refine ⟨_, anRead_fn _, ?_⟩)))
     | (with_reducible refine Or.inr ⟨[?_], _, _, _, _, tigoes_fn ⟨s, true, b2, c, c2⟩ (readA s).1, ?_⟩)
     | (with_reducible refine Or.inr (Or.inr ⟨[?_], _, _, _, _, tigoes_fn ⟨s, true, b2, c, c2⟩ (readA s).1, ?_⟩))
     | (with_reducible refine Br.mk (fun hb => ?_) (fun hb => ?_) <;> (try rw [hb]) <;> (try simp only [List.length_map, decide_eq_true_eq, decide_eq_false_iff_not, Bool.not_eq_true', Bool.not_eq_false', Int.ofNat_lt, Int.ofNat_le, Int.not_lt, Int.not_le, Int.toNat_natCast] at hb))
     | ((with_reducible first | refine Or.inl (And.intro ?_ ?_) | refine And.intro ?_ ?_); (focus (first | with_reducible rfl | exact trivial | (exact ⟨rfl, trivial⟩) | (exact ⟨rfl, rfl, trivial⟩) | omega | (intro r hr; simp only [List.mem_singleton] at hr; subst hr; rfl)  | ((simp only [in64, maxLen] at *; omega)) | ((have := TK.numR_lt _; simp only [in64]; omega)) | ((simp only [List.length_map, List.length_cons, List.length_nil]; omega)) | ((simp only [List.length_append, List.length_cons, List.length_nil]; omega)) | (simp only [in64]; omega) | assumption | (simp; done) | (simp [V.cells]; done) | (simp [in64, maxLen, limK] at *; omega) | ((show confB _ _ = true); kernel_rfl) | rfl)))
     | (intro row hrow; (try simp only [Int.toNat_natCast, List.length_map, toNat_pred, toNat_succ', toNat_zero', toNat_one'] at hrow); (first | (have hsm := same_map (by assumption) hrow; subst hsm; clear hrow) | (obtain ⟨p, hp, rfl⟩ := of_map hrow; clear hrow)))))
    all_goals (conv => whnf)
    all_goals (refine ⟨[0], ?_⟩)
    all_goals (repeat' (first | (with_reducible rfl) | exact trivial | ((conv => whnf); (first | (with_reducible refine And.intro ?_ ?_) | exact trivial | (intro hb; first | (exfalso; simp_all; done) | skip)))))
    all_goals (first | rfl | (show V.agg (encA (readA s).2) = _; rfl) | (rw [show TK.ansR ⟨s, true, b2, c, c2⟩ = zeroA from readA_bad (by assumption)]; rfl) | (rw [show TK.ansR ⟨s, true, b2, c, c2⟩ = zeroA from readA_bad (by simpa using hb)]; rfl))

set_option maxRecDepth 100000 in
set_option maxHeartbeats 2000000 in
theorem tishard_fn (T T1 T2 T3 : TK) (L1 : List Cel) (L2 : List Evt) (L3 : List Dn) (h1 : readC (TK.manyIR (T.num.num.text.text.flag)) ((T.num.num.text.text.flag).manyI) [] = (T1, L1)) (h2 : readEv (TK.manyIR T1) (TK.manyI T1) [] = (T2, L2)) (h3 : readD (TK.manyIR T2) (TK.manyI T2) [] = (T3, L3)) (g1 : (TK.manyIR (T.num.num.text.text.flag)) ≤ 1000000) (g2 : (TK.manyIR T1) ≤ 1000000) (g3 : (TK.manyIR T2) ≤ 1000000) : FnM Tryz.prog 42 [.ptr 0 0] [.cells (encTK T)] (.agg (encS ⟨(T.numR : Int), (T.num.numR : Int), T.num.num.textR, T.num.num.text.textR, T.num.num.text.text.flagR, L1, L2, L3⟩)) [.cells (encTK T3)] := by
  refine FnM.mk' base Tryz.func42 rfl rfl rfl rfl ?_
  repeat' ((conv => whnf); (first
   | ((with_reducible show AW _ _ _ (Code.seq (Code.seq (Code.region 2 _ _) _) _) _ _ _); (refine AW.join (fun (_ : Unit) => True) (fun _ => ⟨[(0, .ptr 0 0), (2, .ptr 1 0), (3, .ptr 2 0)], [.cells (encTK T1), .cells [.int .i64 0, .int .i64 0, .str [], .str [], .bool false, .nils, .nils, .nils], .cells [.int .i64 (T.numR : Int), .int .i64 (T.num.numR : Int), .str T.num.num.textR, .str T.num.num.text.textR, .bool T.num.num.text.text.flagR, .own 3, .nils, .nils], .rows 83 (L1.map encC)]⟩) ?_ (fun _ _ => ?_)))
   | ((with_reducible show AW _ _ _ (Code.seq (Code.seq (Code.region 6 _ _) _) _) _ _ _); (refine AW.join (fun (_ : Unit) => True) (fun _ => ⟨[(0, .ptr 0 0), (2, .ptr 1 0), (3, .ptr 2 0)], [.cells (encTK T2), .cells [.int .i64 0, .int .i64 0, .str [], .str [], .bool false, .nils, .nils, .nils], .cells [.int .i64 (T.numR : Int), .int .i64 (T.num.numR : Int), .str T.num.num.textR, .str T.num.num.text.textR, .bool T.num.num.text.text.flagR, .own 3, .own 4, .nils], .rows 83 (L1.map encC), .rows 65 (L2.map encE)]⟩) ?_ (fun _ _ => ?_)))
   | ((with_reducible show AW _ _ _ (Code.seq (Code.seq (Code.region 10 _ _) _) _) _ _ _); (refine AW.join (fun (_ : Unit) => True) (fun _ => ⟨[(0, .ptr 0 0), (2, .ptr 1 0), (3, .ptr 2 0)], [.cells (encTK T3), .cells [.int .i64 0, .int .i64 0, .str [], .str [], .bool false, .nils, .nils, .nils], .cells [.int .i64 (T.numR : Int), .int .i64 (T.num.numR : Int), .str T.num.num.textR, .str T.num.num.text.textR, .bool T.num.num.text.text.flagR, .own 3, .own 4, .own 5], .rows 83 (L1.map encC), .rows 65 (L2.map encE), .rows 92 (L3.map encD)]⟩) ?_ (fun _ _ => ?_)))
   | ((with_reducible show AW _ _ _ Code.ret _ _ _); (refine AW.freeze 3 rfl ?_); (refine AW.freeze 4 rfl ?_); (refine AW.freeze 5 rfl ?_); (refine AW.ownC 1 5 3 rfl rfl rfl ?_); (refine AW.ownC 1 6 4 rfl rfl rfl ?_); (refine AW.ownC 1 7 5 rfl rfl rfl ?_); (with_reducible refine AW.ret ?_))
   | (with_reducible first | refine AW.seq ?_ | refine AW.region base (by kernel_rfl) ?_ | refine AW.cond ?_ | refine AW.block ?_ | refine AW.ret ?_ | refine AW.exit ?_ | refine AW.skip ?_ | refine Br.t ?_ | refine Br.f ?_)
   | (with_reducible refine Br.mkT (fun hb => (by (first | (simp at hb; done) | omega | (simp at hb; omega) | (simp only [List.length_map, decide_eq_true_eq, decide_eq_false_iff_not] at hb; omega) | fail))) (fun hb => ?_))
   | (with_reducible refine Br.mkF (fun hb => (by (first | (simp at hb; done) | omega | (simp at hb; omega) | (simp only [List.length_map, decide_eq_true_eq, decide_eq_false_iff_not] at hb; omega) | fail))) (fun hb => ?_))
   | ((with_reducible refine Or.inl ?_); (conv => whnf); (with_reducible refine And.intro LitSl.mk ?_))
   | refine Br.t ?_
   | refine Br.f ?_
   | (with_reducible refine Or.inr ⟨[?_], _, _, _, _, tinum_fn ?_, ?_⟩)
   | (with_reducible refine Or.inr (Or.inr ⟨[?_], _, _, _, _, tinum_fn ?_, ?_⟩))
   | (with_reducible refine Or.inr ⟨[?_], _, _, _, _, titext_fn ?_, ?_⟩)
   | (with_reducible refine Or.inr (Or.inr ⟨[?_], _, _, _, _, titext_fn ?_, ?_⟩))
   | (with_reducible refine Or.inr ⟨[?_], _, _, _, _, tiflag_fn ?_, ?_⟩)
   | (with_reducible refine Or.inr (Or.inr ⟨[?_], _, _, _, _, tiflag_fn ?_, ?_⟩))
   | (with_reducible refine Or.inr ⟨[?_], _, _, _, _, timany_fn ?_, ?_⟩)
   | (with_reducible refine Or.inr (Or.inr ⟨[?_], _, _, _, _, timany_fn ?_, ?_⟩))
   | (with_reducible refine Or.inr ⟨[?_], _, _, _, _, tianswer_fn ?_, ?_⟩)
   | (with_reducible refine Or.inr (Or.inr ⟨[?_], _, _, _, _, tianswer_fn ?_, ?_⟩))
   | (with_reducible refine Br.mk (fun hb => ?_) (fun hb => ?_) <;> (try rw [hb]) <;> (try simp only [List.length_map, decide_eq_true_eq, decide_eq_false_iff_not, Bool.not_eq_true', Bool.not_eq_false', Int.ofNat_lt, Int.ofNat_le, Int.not_lt, Int.not_le, Int.toNat_natCast] at hb))
   | ((with_reducible first | refine Or.inl (And.intro ?_ ?_) | refine And.intro ?_ ?_); (focus (first | with_reducible rfl | exact trivial | (exact ⟨rfl, trivial⟩) | (exact ⟨rfl, rfl, trivial⟩) | omega | (intro r hr; simp only [List.mem_singleton] at hr; subst hr; rfl)  | ((simp only [in64, maxLen] at *; omega)) | ((have := TK.numR_lt _; simp only [in64]; omega)) | ((simp only [List.length_map, List.length_cons, List.length_nil]; omega)) | ((simp only [List.length_append, List.length_cons, List.length_nil]; omega)) | (simp only [in64]; omega) | assumption | (simp; done) | (simp [V.cells]; done) | (simp [in64, maxLen, limK] at *; omega) | ((show confB _ _ = true); kernel_rfl) | rfl)))
   | (intro row hrow; (try simp only [Int.toNat_natCast, List.length_map, toNat_pred, toNat_succ', toNat_zero', toNat_one'] at hrow); (first | (have hsm := same_map (by assumption) hrow; subst hsm; clear hrow) | (obtain ⟨p, hp, rfl⟩ := of_map hrow; clear hrow)))))
  · refine AW.adoptC 2012 5 999999999 (el := 83) rfl rfl rfl (rows_of 24 rfl) ?_
    refine AW.loop (fun (⟨i, tk, l⟩ : Nat × TK × List Cel) => i ≤ (TK.manyIR (T.num.num.text.text.flag)) ∧ readC ((TK.manyIR (T.num.num.text.text.flag)) - i) tk l = (T1, L1) ∧ l.length = i) (fun (⟨i, tk, l⟩ : Nat × TK × List Cel) => ⟨[(0, .ptr 0 0), (2, .ptr 1 0), (3, .ptr 2 0), (17, .int .i64 ((TK.manyIR (T.num.num.text.text.flag)) : Int)), (18, .int .i64 (i : Int))], [.cells (encTK tk), .cells [.int .i64 0, .int .i64 0, .str [], .str [], .bool false, .nils, .nils, .nils], .cells [.int .i64 (T.numR : Int), .int .i64 (T.num.numR : Int), .str T.num.num.textR, .str T.num.num.text.textR, .bool T.num.num.text.text.flagR, .own 3, .nils, .nils], .rows 83 (l.map encC)]⟩) (fun (⟨i, tk, l⟩ : Nat × TK × List Cel) => (TK.manyIR (T.num.num.text.text.flag)) - i) (0, (T.num.num.text.text.flag).manyI, []) ?_ ?_ ?_
    · exact ⟨Nat.zero_le _, (by assumption), rfl⟩
    · (refine ⟨⟨[0, 1000, 2012, 999999999], ?_⟩⟩; repeat' (first | (with_reducible rfl) | exact trivial | ((conv => whnf); (first | (with_reducible refine And.intro ?_ ?_) | (first | with_reducible rfl | ((first | refine congrArg V.str ?_ | refine congrArg (V.int _) ?_ | refine congrArg V.bool ?_ | refine congrArg V.sl ?_); (first | with_reducible rfl | omega | rfl | (simp; done))) | (first | with_reducible rfl | omega | rfl | (simp; done)) | rfl)))))
    · rintro ⟨i, tk, l⟩ hk
      obtain ⟨hk1, hk2, hk3⟩ := hk
      rcases (by omega : i = (TK.manyIR (T.num.num.text.text.flag)) ∨ i < (TK.manyIR (T.num.num.text.text.flag))) with hi | hi
      · subst hi
        rw [Nat.sub_self, readC] at hk2
        obtain ⟨rfl, rfl⟩ := Prod.mk.inj hk2
        repeat' ((conv => whnf); (first
         | (with_reducible first | refine AW.seq ?_ | refine AW.region base (by kernel_rfl) ?_ | refine AW.cond ?_ | refine AW.block ?_ | refine AW.ret ?_ | refine AW.exit ?_ | refine AW.skip ?_ | refine Br.t ?_ | refine Br.f ?_)
         | (with_reducible refine Br.mkT (fun hb => (by (first | (simp at hb; done) | omega | (simp at hb; omega) | (simp only [List.length_map, decide_eq_true_eq, decide_eq_false_iff_not] at hb; omega) | fail))) (fun hb => ?_))
         | (with_reducible refine Br.mkF (fun hb => (by (first | (simp at hb; done) | omega | (simp at hb; omega) | (simp only [List.length_map, decide_eq_true_eq, decide_eq_false_iff_not] at hb; omega) | fail))) (fun hb => ?_))
         | ((with_reducible refine Or.inl ?_); (conv => whnf); (with_reducible refine And.intro LitSl.mk ?_))
         | refine Br.t ?_
         | refine Br.f ?_
         | (with_reducible refine Or.inr ⟨[?_], _, _, _, _, tinum_fn ?_, ?_⟩)
         | (with_reducible refine Or.inr (Or.inr ⟨[?_], _, _, _, _, tinum_fn ?_, ?_⟩))
         | (with_reducible refine Or.inr ⟨[?_], _, _, _, _, titext_fn ?_, ?_⟩)
         | (with_reducible refine Or.inr (Or.inr ⟨[?_], _, _, _, _, titext_fn ?_, ?_⟩))
         | (with_reducible refine Or.inr ⟨[?_], _, _, _, _, tiflag_fn ?_, ?_⟩)
         | (with_reducible refine Or.inr (Or.inr ⟨[?_], _, _, _, _, tiflag_fn ?_, ?_⟩))
         | (with_reducible refine Or.inr ⟨[?_], _, _, _, _, timany_fn ?_, ?_⟩)
         | (with_reducible refine Or.inr (Or.inr ⟨[?_], _, _, _, _, timany_fn ?_, ?_⟩))
         | (with_reducible refine Or.inr ⟨[?_], _, _, _, _, tianswer_fn ?_, ?_⟩)
         | (with_reducible refine Or.inr (Or.inr ⟨[?_], _, _, _, _, tianswer_fn ?_, ?_⟩))
         | (with_reducible refine Br.mk (fun hb => ?_) (fun hb => ?_) <;> (try rw [hb]) <;> (try simp only [List.length_map, decide_eq_true_eq, decide_eq_false_iff_not, Bool.not_eq_true', Bool.not_eq_false', Int.ofNat_lt, Int.ofNat_le, Int.not_lt, Int.not_le, Int.toNat_natCast] at hb))
         | ((with_reducible first | refine Or.inl (And.intro ?_ ?_) | refine And.intro ?_ ?_); (focus (first | with_reducible rfl | exact trivial | (exact ⟨rfl, trivial⟩) | (exact ⟨rfl, rfl, trivial⟩) | omega | (intro r hr; simp only [List.mem_singleton] at hr; subst hr; rfl)  | ((simp only [in64, maxLen] at *; omega)) | ((have := TK.numR_lt _; simp only [in64]; omega)) | ((simp only [List.length_map, List.length_cons, List.length_nil]; omega)) | ((simp only [List.length_append, List.length_cons, List.length_nil]; omega)) | (simp only [in64]; omega) | assumption | (simp; done) | (simp [V.cells]; done) | (simp [in64, maxLen, limK] at *; omega) | ((show confB _ _ = true); kernel_rfl) | rfl)))
         | (intro row hrow; (try simp only [Int.toNat_natCast, List.length_map, toNat_pred, toNat_succ', toNat_zero', toNat_one'] at hrow); (first | (have hsm := same_map (by assumption) hrow; subst hsm; clear hrow) | (obtain ⟨p, hp, rfl⟩ := of_map hrow; clear hrow)))))
        all_goals ((conv => whnf); (refine ⟨(), ?_, trivial⟩; (refine ⟨⟨[0, 1, 2, 3], ?_⟩⟩; repeat' (first | (with_reducible rfl) | exact trivial | ((conv => whnf); (first | (with_reducible refine And.intro ?_ ?_) | (first | with_reducible rfl | ((first | refine congrArg V.str ?_ | refine congrArg (V.int _) ?_ | refine congrArg V.bool ?_ | refine congrArg V.sl ?_); (first | with_reducible rfl | omega | rfl | (simp; done))) | (first | with_reducible rfl | omega | rfl | (simp; done)) | rfl)))))))
      rw [show (TK.manyIR (T.num.num.text.text.flag)) - i = ((TK.manyIR (T.num.num.text.text.flag)) - (i + 1)) + 1 by omega, readC] at hk2
      repeat' ((conv => whnf); (first
       | (with_reducible first | refine AW.seq ?_ | refine AW.region base (by kernel_rfl) ?_ | refine AW.cond ?_ | refine AW.block ?_ | refine AW.ret ?_ | refine AW.exit ?_ | refine AW.skip ?_ | refine Br.t ?_ | refine Br.f ?_)
       | (with_reducible refine Br.mkT (fun hb => (by (first | (simp at hb; done) | omega | (simp at hb; omega) | (simp only [List.length_map, decide_eq_true_eq, decide_eq_false_iff_not] at hb; omega) | fail))) (fun hb => ?_))
       | (with_reducible refine Br.mkF (fun hb => (by (first | (simp at hb; done) | omega | (simp at hb; omega) | (simp only [List.length_map, decide_eq_true_eq, decide_eq_false_iff_not] at hb; omega) | fail))) (fun hb => ?_))
       | ((with_reducible refine Or.inl ?_); (conv => whnf); (with_reducible refine And.intro LitSl.mk ?_))
       | refine Br.t ?_
       | refine Br.f ?_
       | (with_reducible refine Or.inr ⟨[?_], _, _, _, _, tinum_fn ?_, ?_⟩)
       | (with_reducible refine Or.inr (Or.inr ⟨[?_], _, _, _, _, tinum_fn ?_, ?_⟩))
       | (with_reducible refine Or.inr ⟨[?_], _, _, _, _, titext_fn ?_, ?_⟩)
       | (with_reducible refine Or.inr (Or.inr ⟨[?_], _, _, _, _, titext_fn ?_, ?_⟩))
       | (with_reducible refine Or.inr ⟨[?_], _, _, _, _, tiflag_fn ?_, ?_⟩)
       | (with_reducible refine Or.inr (Or.inr ⟨[?_], _, _, _, _, tiflag_fn ?_, ?_⟩))
       | (with_reducible refine Or.inr ⟨[?_], _, _, _, _, timany_fn ?_, ?_⟩)
       | (with_reducible refine Or.inr (Or.inr ⟨[?_], _, _, _, _, timany_fn ?_, ?_⟩))
       | (with_reducible refine Or.inr ⟨[?_], _, _, _, _, tianswer_fn ?_, ?_⟩)
       | (with_reducible refine Or.inr (Or.inr ⟨[?_], _, _, _, _, tianswer_fn ?_, ?_⟩))
       | (with_reducible refine Br.mk (fun hb => ?_) (fun hb => ?_) <;> (try rw [hb]) <;> (try simp only [List.length_map, decide_eq_true_eq, decide_eq_false_iff_not, Bool.not_eq_true', Bool.not_eq_false', Int.ofNat_lt, Int.ofNat_le, Int.not_lt, Int.not_le, Int.toNat_natCast] at hb))
       | ((with_reducible first | refine Or.inl (And.intro ?_ ?_) | refine And.intro ?_ ?_); (focus (first | with_reducible rfl | exact trivial | (exact ⟨rfl, trivial⟩) | (exact ⟨rfl, rfl, trivial⟩) | omega | (intro r hr; simp only [List.mem_singleton] at hr; subst hr; rfl)  | ((simp only [in64, maxLen] at *; omega)) | ((have := TK.numR_lt _; simp only [in64]; omega)) | ((simp only [List.length_map, List.length_cons, List.length_nil]; omega)) | ((simp only [List.length_append, List.length_cons, List.length_nil]; omega)) | (simp only [in64]; omega) | assumption | (simp; done) | (simp [V.cells]; done) | (simp [in64, maxLen, limK] at *; omega) | ((show confB _ _ = true); kernel_rfl) | rfl)))
       | (intro row hrow; (try simp only [Int.toNat_natCast, List.length_map, toNat_pred, toNat_succ', toNat_zero', toNat_one'] at hrow); (first | (have hsm := same_map (by assumption) hrow; subst hsm; clear hrow) | (obtain ⟨p, hp, rfl⟩ := of_map hrow; clear hrow)))))
      all_goals (try first | with_reducible assumption | ((first | show (_ : Int) ≤ _ | show (_ : Nat) ≤ _ | show (_ : Int) < _ | show ¬ (_ : Int) = _); (first | omega | (simp at *; omega) | (simp; done) | (simp [maxLen]; done))) | ((show in64 _); (simp only [in64] at *; (first | omega | (simp at *; omega) | (simp; done) | (simp [maxLen]; done)))) | ((with_reducible refine And.intro ?_ ?_) <;> (first | omega | (simp at *; omega) | (simp; done) | (simp [maxLen]; done))))
      all_goals (first
        | (with_reducible exact absurd rfl (by assumption))
        | ((conv => whnf); (refine ⟨(i + 1, ?_, l ++ [⟨tk.textR, tk.text.textR, (tk.text.text.numR : Int), tk.text.text.num.flagR, (tk.text.text.num.flag.numR : Int)⟩]), ?_⟩); (rotate_left 1); (refine And.intro ?_ (And.intro ?_ ?_)); (focus (refine ⟨⟨[0, 1, 2, ?_], ?_⟩⟩; rotate_left 1; repeat' (first | (with_reducible rfl) | exact trivial | ((conv => whnf); (first | (with_reducible refine And.intro ?_ ?_) | (first | with_reducible rfl | ((first | refine congrArg V.str ?_ | refine congrArg (V.int _) ?_ | refine congrArg V.bool ?_ | refine congrArg V.sl ?_); (first | with_reducible rfl | omega | (rw [List.map_append]; rfl) | rfl | (simp; done))) | (first | with_reducible rfl | omega | (rw [List.map_append]; rfl) | rfl | (simp; done)) | rfl)))))); (focus (exact ⟨by omega, hk2, by simp; omega⟩)); (focus (first | omega | (dsimp only; omega) | (simp; done) | (simp; omega) | (simp at *; omega))))
        | ((conv => whnf); (try (first | rfl | (exfalso; simp_all; done) | (exfalso; simp at *; omega))); done))

  · refine AW.adoptC 2 6 999999999 (el := 65) rfl rfl rfl (rows_of 25 rfl) ?_
    refine AW.loop (fun (⟨i, tk, l⟩ : Nat × TK × List Evt) => i ≤ (TK.manyIR T1) ∧ readEv ((TK.manyIR T1) - i) tk l = (T2, L2) ∧ l.length = i) (fun (⟨i, tk, l⟩ : Nat × TK × List Evt) => ⟨[(0, .ptr 0 0), (2, .ptr 1 0), (3, .ptr 2 0), (38, .int .i64 ((TK.manyIR T1) : Int)), (39, .int .i64 (i : Int))], [.cells (encTK tk), .cells [.int .i64 0, .int .i64 0, .str [], .str [], .bool false, .nils, .nils, .nils], .cells [.int .i64 (T.numR : Int), .int .i64 (T.num.numR : Int), .str T.num.num.textR, .str T.num.num.text.textR, .bool T.num.num.text.text.flagR, .own 3, .own 4, .nils], .rows 83 (L1.map encC), .rows 65 (l.map encE)]⟩) (fun (⟨i, tk, l⟩ : Nat × TK × List Evt) => (TK.manyIR T1) - i) (0, TK.manyI T1, []) ?_ ?_ ?_
    · exact ⟨Nat.zero_le _, (by assumption), rfl⟩
    · (refine ⟨⟨[0, 1, 2, 3, 999999999], ?_⟩⟩; repeat' (first | (with_reducible rfl) | exact trivial | ((conv => whnf); (first | (with_reducible refine And.intro ?_ ?_) | (first | with_reducible rfl | ((first | refine congrArg V.str ?_ | refine congrArg (V.int _) ?_ | refine congrArg V.bool ?_ | refine congrArg V.sl ?_); (first | with_reducible rfl | omega | rfl | (simp; done))) | (first | with_reducible rfl | omega | rfl | (simp; done)) | rfl)))))
    · rintro ⟨i, tk, l⟩ hk
      obtain ⟨hk1, hk2, hk3⟩ := hk
      rcases (by omega : i = (TK.manyIR T1) ∨ i < (TK.manyIR T1)) with hi | hi
      · subst hi
        rw [Nat.sub_self, readEv] at hk2
        obtain ⟨rfl, rfl⟩ := Prod.mk.inj hk2
        repeat' ((conv => whnf); (first
         | (with_reducible first | refine AW.seq ?_ | refine AW.region base (by kernel_rfl) ?_ | refine AW.cond ?_ | refine AW.block ?_ | refine AW.ret ?_ | refine AW.exit ?_ | refine AW.skip ?_ | refine Br.t ?_ | refine Br.f ?_)
         | (with_reducible refine Br.mkT (fun hb => (by (first | (simp at hb; done) | omega | (simp at hb; omega) | (simp only [List.length_map, decide_eq_true_eq, decide_eq_false_iff_not] at hb; omega) | fail))) (fun hb => ?_))
         | (with_reducible refine Br.mkF (fun hb => (by (first | (simp at hb; done) | omega | (simp at hb; omega) | (simp only [List.length_map, decide_eq_true_eq, decide_eq_false_iff_not] at hb; omega) | fail))) (fun hb => ?_))
         | ((with_reducible refine Or.inl ?_); (conv => whnf); (with_reducible refine And.intro LitSl.mk ?_))
         | refine Br.t ?_
         | refine Br.f ?_
         | (with_reducible refine Or.inr ⟨[?_], _, _, _, _, tinum_fn ?_, ?_⟩)
         | (with_reducible refine Or.inr (Or.inr ⟨[?_], _, _, _, _, tinum_fn ?_, ?_⟩))
         | (with_reducible refine Or.inr ⟨[?_], _, _, _, _, titext_fn ?_, ?_⟩)
         | (with_reducible refine Or.inr (Or.inr ⟨[?_], _, _, _, _, titext_fn ?_, ?_⟩))
         | (with_reducible refine Or.inr ⟨[?_], _, _, _, _, tiflag_fn ?_, ?_⟩)
         | (with_reducible refine Or.inr (Or.inr ⟨[?_], _, _, _, _, tiflag_fn ?_, ?_⟩))
         | (with_reducible refine Or.inr ⟨[?_], _, _, _, _, timany_fn ?_, ?_⟩)
         | (with_reducible refine Or.inr (Or.inr ⟨[?_], _, _, _, _, timany_fn ?_, ?_⟩))
         | (with_reducible refine Or.inr ⟨[?_], _, _, _, _, tianswer_fn ?_, ?_⟩)
         | (with_reducible refine Or.inr (Or.inr ⟨[?_], _, _, _, _, tianswer_fn ?_, ?_⟩))
         | (with_reducible refine Br.mk (fun hb => ?_) (fun hb => ?_) <;> (try rw [hb]) <;> (try simp only [List.length_map, decide_eq_true_eq, decide_eq_false_iff_not, Bool.not_eq_true', Bool.not_eq_false', Int.ofNat_lt, Int.ofNat_le, Int.not_lt, Int.not_le, Int.toNat_natCast] at hb))
         | ((with_reducible first | refine Or.inl (And.intro ?_ ?_) | refine And.intro ?_ ?_); (focus (first | with_reducible rfl | exact trivial | (exact ⟨rfl, trivial⟩) | (exact ⟨rfl, rfl, trivial⟩) | omega | (intro r hr; simp only [List.mem_singleton] at hr; subst hr; rfl)  | ((simp only [in64, maxLen] at *; omega)) | ((have := TK.numR_lt _; simp only [in64]; omega)) | ((simp only [List.length_map, List.length_cons, List.length_nil]; omega)) | ((simp only [List.length_append, List.length_cons, List.length_nil]; omega)) | (simp only [in64]; omega) | assumption | (simp; done) | (simp [V.cells]; done) | (simp [in64, maxLen, limK] at *; omega) | ((show confB _ _ = true); kernel_rfl) | rfl)))
         | (intro row hrow; (try simp only [Int.toNat_natCast, List.length_map, toNat_pred, toNat_succ', toNat_zero', toNat_one'] at hrow); (first | (have hsm := same_map (by assumption) hrow; subst hsm; clear hrow) | (obtain ⟨p, hp, rfl⟩ := of_map hrow; clear hrow)))))
        all_goals ((conv => whnf); (refine ⟨(), ?_, trivial⟩; (refine ⟨⟨[0, 1, 2, 3, 4], ?_⟩⟩; repeat' (first | (with_reducible rfl) | exact trivial | ((conv => whnf); (first | (with_reducible refine And.intro ?_ ?_) | (first | with_reducible rfl | ((first | refine congrArg V.str ?_ | refine congrArg (V.int _) ?_ | refine congrArg V.bool ?_ | refine congrArg V.sl ?_); (first | with_reducible rfl | omega | rfl | (simp; done))) | (first | with_reducible rfl | omega | rfl | (simp; done)) | rfl)))))))
      rw [show (TK.manyIR T1) - i = ((TK.manyIR T1) - (i + 1)) + 1 by omega, readEv] at hk2
      repeat' ((conv => whnf); (first
       | (with_reducible first | refine AW.seq ?_ | refine AW.region base (by kernel_rfl) ?_ | refine AW.cond ?_ | refine AW.block ?_ | refine AW.ret ?_ | refine AW.exit ?_ | refine AW.skip ?_ | refine Br.t ?_ | refine Br.f ?_)
       | (with_reducible refine Br.mkT (fun hb => (by (first | (simp at hb; done) | omega | (simp at hb; omega) | (simp only [List.length_map, decide_eq_true_eq, decide_eq_false_iff_not] at hb; omega) | fail))) (fun hb => ?_))
       | (with_reducible refine Br.mkF (fun hb => (by (first | (simp at hb; done) | omega | (simp at hb; omega) | (simp only [List.length_map, decide_eq_true_eq, decide_eq_false_iff_not] at hb; omega) | fail))) (fun hb => ?_))
       | ((with_reducible refine Or.inl ?_); (conv => whnf); (with_reducible refine And.intro LitSl.mk ?_))
       | refine Br.t ?_
       | refine Br.f ?_
       | (with_reducible refine Or.inr ⟨[?_], _, _, _, _, tinum_fn ?_, ?_⟩)
       | (with_reducible refine Or.inr (Or.inr ⟨[?_], _, _, _, _, tinum_fn ?_, ?_⟩))
       | (with_reducible refine Or.inr ⟨[?_], _, _, _, _, titext_fn ?_, ?_⟩)
       | (with_reducible refine Or.inr (Or.inr ⟨[?_], _, _, _, _, titext_fn ?_, ?_⟩))
       | (with_reducible refine Or.inr ⟨[?_], _, _, _, _, tiflag_fn ?_, ?_⟩)
       | (with_reducible refine Or.inr (Or.inr ⟨[?_], _, _, _, _, tiflag_fn ?_, ?_⟩))
       | (with_reducible refine Or.inr ⟨[?_], _, _, _, _, timany_fn ?_, ?_⟩)
       | (with_reducible refine Or.inr (Or.inr ⟨[?_], _, _, _, _, timany_fn ?_, ?_⟩))
       | (with_reducible refine Or.inr ⟨[?_], _, _, _, _, tianswer_fn ?_, ?_⟩)
       | (with_reducible refine Or.inr (Or.inr ⟨[?_], _, _, _, _, tianswer_fn ?_, ?_⟩))
       | (with_reducible refine Br.mk (fun hb => ?_) (fun hb => ?_) <;> (try rw [hb]) <;> (try simp only [List.length_map, decide_eq_true_eq, decide_eq_false_iff_not, Bool.not_eq_true', Bool.not_eq_false', Int.ofNat_lt, Int.ofNat_le, Int.not_lt, Int.not_le, Int.toNat_natCast] at hb))
       | ((with_reducible first | refine Or.inl (And.intro ?_ ?_) | refine And.intro ?_ ?_); (focus (first | with_reducible rfl | exact trivial | (exact ⟨rfl, trivial⟩) | (exact ⟨rfl, rfl, trivial⟩) | omega | (intro r hr; simp only [List.mem_singleton] at hr; subst hr; rfl)  | ((simp only [in64, maxLen] at *; omega)) | ((have := TK.numR_lt _; simp only [in64]; omega)) | ((simp only [List.length_map, List.length_cons, List.length_nil]; omega)) | ((simp only [List.length_append, List.length_cons, List.length_nil]; omega)) | (simp only [in64]; omega) | assumption | (simp; done) | (simp [V.cells]; done) | (simp [in64, maxLen, limK] at *; omega) | ((show confB _ _ = true); kernel_rfl) | rfl)))
       | (intro row hrow; (try simp only [Int.toNat_natCast, List.length_map, toNat_pred, toNat_succ', toNat_zero', toNat_one'] at hrow); (first | (have hsm := same_map (by assumption) hrow; subst hsm; clear hrow) | (obtain ⟨p, hp, rfl⟩ := of_map hrow; clear hrow)))))
      all_goals (try first | with_reducible assumption | ((first | show (_ : Int) ≤ _ | show (_ : Nat) ≤ _ | show (_ : Int) < _ | show ¬ (_ : Int) = _); (first | omega | (simp at *; omega) | (simp; done) | (simp [maxLen]; done))) | ((show in64 _); (simp only [in64] at *; (first | omega | (simp at *; omega) | (simp; done) | (simp [maxLen]; done)))) | ((with_reducible refine And.intro ?_ ?_) <;> (first | omega | (simp at *; omega) | (simp; done) | (simp [maxLen]; done))))
      all_goals (first
        | (with_reducible exact absurd rfl (by assumption))
        | ((conv => whnf); (refine ⟨(i + 1, ?_, l ++ [⟨tk.textR, (tk.text.numR : Int), tk.text.num.textR, tk.text.num.text.flagR⟩]), ?_⟩); (rotate_left 1); (refine And.intro ?_ (And.intro ?_ ?_)); (focus (refine ⟨⟨[0, 1, 2, 3, ?_], ?_⟩⟩; rotate_left 1; repeat' (first | (with_reducible rfl) | exact trivial | ((conv => whnf); (first | (with_reducible refine And.intro ?_ ?_) | (first | with_reducible rfl | ((first | refine congrArg V.str ?_ | refine congrArg (V.int _) ?_ | refine congrArg V.bool ?_ | refine congrArg V.sl ?_); (first | with_reducible rfl | omega | (rw [List.map_append]; rfl) | rfl | (simp; done))) | (first | with_reducible rfl | omega | (rw [List.map_append]; rfl) | rfl | (simp; done)) | rfl)))))); (focus (exact ⟨by omega, hk2, by simp; omega⟩)); (focus (first | omega | (dsimp only; omega) | (simp; done) | (simp; omega) | (simp at *; omega))))
        | ((conv => whnf); (try (first | rfl | (exfalso; simp_all; done) | (exfalso; simp at *; omega))); done))

  · refine AW.adoptC 2 7 999999999 (el := 92) rfl rfl rfl (rows_of 26 rfl) ?_
    refine AW.loop (fun (⟨i, tk, l⟩ : Nat × TK × List Dn) => i ≤ (TK.manyIR T2) ∧ readD ((TK.manyIR T2) - i) tk l = (T3, L3) ∧ l.length = i) (fun (⟨i, tk, l⟩ : Nat × TK × List Dn) => ⟨[(0, .ptr 0 0), (2, .ptr 1 0), (3, .ptr 2 0), (57, .int .i64 ((TK.manyIR T2) : Int)), (58, .int .i64 (i : Int))], [.cells (encTK tk), .cells [.int .i64 0, .int .i64 0, .str [], .str [], .bool false, .nils, .nils, .nils], .cells [.int .i64 (T.numR : Int), .int .i64 (T.num.numR : Int), .str T.num.num.textR, .str T.num.num.text.textR, .bool T.num.num.text.text.flagR, .own 3, .own 4, .own 5], .rows 83 (L1.map encC), .rows 65 (L2.map encE), .rows 92 (l.map encD)]⟩) (fun (⟨i, tk, l⟩ : Nat × TK × List Dn) => (TK.manyIR T2) - i) (0, TK.manyI T2, []) ?_ ?_ ?_
    · exact ⟨Nat.zero_le _, (by assumption), rfl⟩
    · (refine ⟨⟨[0, 1, 2, 3, 4, 999999999], ?_⟩⟩; repeat' (first | (with_reducible rfl) | exact trivial | ((conv => whnf); (first | (with_reducible refine And.intro ?_ ?_) | (first | with_reducible rfl | ((first | refine congrArg V.str ?_ | refine congrArg (V.int _) ?_ | refine congrArg V.bool ?_ | refine congrArg V.sl ?_); (first | with_reducible rfl | omega | rfl | (simp; done))) | (first | with_reducible rfl | omega | rfl | (simp; done)) | rfl)))))
    · rintro ⟨i, tk, l⟩ hk
      obtain ⟨hk1, hk2, hk3⟩ := hk
      rcases (by omega : i = (TK.manyIR T2) ∨ i < (TK.manyIR T2)) with hi | hi
      · subst hi
        rw [Nat.sub_self, readD] at hk2
        obtain ⟨rfl, rfl⟩ := Prod.mk.inj hk2
        repeat' ((conv => whnf); (first
         | (with_reducible first | refine AW.seq ?_ | refine AW.region base (by kernel_rfl) ?_ | refine AW.cond ?_ | refine AW.block ?_ | refine AW.ret ?_ | refine AW.exit ?_ | refine AW.skip ?_ | refine Br.t ?_ | refine Br.f ?_)
         | (with_reducible refine Br.mkT (fun hb => (by (first | (simp at hb; done) | omega | (simp at hb; omega) | (simp only [List.length_map, decide_eq_true_eq, decide_eq_false_iff_not] at hb; omega) | fail))) (fun hb => ?_))
         | (with_reducible refine Br.mkF (fun hb => (by (first | (simp at hb; done) | omega | (simp at hb; omega) | (simp only [List.length_map, decide_eq_true_eq, decide_eq_false_iff_not] at hb; omega) | fail))) (fun hb => ?_))
         | ((with_reducible refine Or.inl ?_); (conv => whnf); (with_reducible refine And.intro LitSl.mk ?_))
         | refine Br.t ?_
         | refine Br.f ?_
         | (with_reducible refine Or.inr ⟨[?_], _, _, _, _, tinum_fn ?_, ?_⟩)
         | (with_reducible refine Or.inr (Or.inr ⟨[?_], _, _, _, _, tinum_fn ?_, ?_⟩))
         | (with_reducible refine Or.inr ⟨[?_], _, _, _, _, titext_fn ?_, ?_⟩)
         | (with_reducible refine Or.inr (Or.inr ⟨[?_], _, _, _, _, titext_fn ?_, ?_⟩))
         | (with_reducible refine Or.inr ⟨[?_], _, _, _, _, tiflag_fn ?_, ?_⟩)
         | (with_reducible refine Or.inr (Or.inr ⟨[?_], _, _, _, _, tiflag_fn ?_, ?_⟩))
         | (with_reducible refine Or.inr ⟨[?_], _, _, _, _, timany_fn ?_, ?_⟩)
         | (with_reducible refine Or.inr (Or.inr ⟨[?_], _, _, _, _, timany_fn ?_, ?_⟩))
         | (with_reducible refine Or.inr ⟨[?_], _, _, _, _, tianswer_fn ?_, ?_⟩)
         | (with_reducible refine Or.inr (Or.inr ⟨[?_], _, _, _, _, tianswer_fn ?_, ?_⟩))
         | (with_reducible refine Br.mk (fun hb => ?_) (fun hb => ?_) <;> (try rw [hb]) <;> (try simp only [List.length_map, decide_eq_true_eq, decide_eq_false_iff_not, Bool.not_eq_true', Bool.not_eq_false', Int.ofNat_lt, Int.ofNat_le, Int.not_lt, Int.not_le, Int.toNat_natCast] at hb))
         | ((with_reducible first | refine Or.inl (And.intro ?_ ?_) | refine And.intro ?_ ?_); (focus (first | with_reducible rfl | exact trivial | (exact ⟨rfl, trivial⟩) | (exact ⟨rfl, rfl, trivial⟩) | omega | (intro r hr; simp only [List.mem_singleton] at hr; subst hr; rfl)  | ((simp only [in64, maxLen] at *; omega)) | ((have := TK.numR_lt _; simp only [in64]; omega)) | ((simp only [List.length_map, List.length_cons, List.length_nil]; omega)) | ((simp only [List.length_append, List.length_cons, List.length_nil]; omega)) | (simp only [in64]; omega) | assumption | (simp; done) | (simp [V.cells]; done) | (simp [in64, maxLen, limK] at *; omega) | ((show confB _ _ = true); kernel_rfl) | rfl)))
         | (intro row hrow; (try simp only [Int.toNat_natCast, List.length_map, toNat_pred, toNat_succ', toNat_zero', toNat_one'] at hrow); (first | (have hsm := same_map (by assumption) hrow; subst hsm; clear hrow) | (obtain ⟨p, hp, rfl⟩ := of_map hrow; clear hrow)))))
        all_goals ((conv => whnf); (refine ⟨(), ?_, trivial⟩; (refine ⟨⟨[0, 1, 2, 3, 4, 5], ?_⟩⟩; repeat' (first | (with_reducible rfl) | exact trivial | ((conv => whnf); (first | (with_reducible refine And.intro ?_ ?_) | (first | with_reducible rfl | ((first | refine congrArg V.str ?_ | refine congrArg (V.int _) ?_ | refine congrArg V.bool ?_ | refine congrArg V.sl ?_); (first | with_reducible rfl | omega | rfl | (simp; done))) | (first | with_reducible rfl | omega | rfl | (simp; done)) | rfl)))))))
      rw [show (TK.manyIR T2) - i = ((TK.manyIR T2) - (i + 1)) + 1 by omega, readD] at hk2
      repeat' ((conv => whnf); (first
       | (with_reducible first | refine AW.seq ?_ | refine AW.region base (by kernel_rfl) ?_ | refine AW.cond ?_ | refine AW.block ?_ | refine AW.ret ?_ | refine AW.exit ?_ | refine AW.skip ?_ | refine Br.t ?_ | refine Br.f ?_)
       | (with_reducible refine Br.mkT (fun hb => (by (first | (simp at hb; done) | omega | (simp at hb; omega) | (simp only [List.length_map, decide_eq_true_eq, decide_eq_false_iff_not] at hb; omega) | fail))) (fun hb => ?_))
       | (with_reducible refine Br.mkF (fun hb => (by (first | (simp at hb; done) | omega | (simp at hb; omega) | (simp only [List.length_map, decide_eq_true_eq, decide_eq_false_iff_not] at hb; omega) | fail))) (fun hb => ?_))
       | ((with_reducible refine Or.inl ?_); (conv => whnf); (with_reducible refine And.intro LitSl.mk ?_))
       | refine Br.t ?_
       | refine Br.f ?_
       | (with_reducible refine Or.inr ⟨[?_], _, _, _, _, tinum_fn ?_, ?_⟩)
       | (with_reducible refine Or.inr (Or.inr ⟨[?_], _, _, _, _, tinum_fn ?_, ?_⟩))
       | (with_reducible refine Or.inr ⟨[?_], _, _, _, _, titext_fn ?_, ?_⟩)
       | (with_reducible refine Or.inr (Or.inr ⟨[?_], _, _, _, _, titext_fn ?_, ?_⟩))
       | (with_reducible refine Or.inr ⟨[?_], _, _, _, _, tiflag_fn ?_, ?_⟩)
       | (with_reducible refine Or.inr (Or.inr ⟨[?_], _, _, _, _, tiflag_fn ?_, ?_⟩))
       | (with_reducible refine Or.inr ⟨[?_], _, _, _, _, timany_fn ?_, ?_⟩)
       | (with_reducible refine Or.inr (Or.inr ⟨[?_], _, _, _, _, timany_fn ?_, ?_⟩))
       | (with_reducible refine Or.inr ⟨[?_], _, _, _, _, tianswer_fn ?_, ?_⟩)
       | (with_reducible refine Or.inr (Or.inr ⟨[?_], _, _, _, _, tianswer_fn ?_, ?_⟩))
       | (with_reducible refine Br.mk (fun hb => ?_) (fun hb => ?_) <;> (try rw [hb]) <;> (try simp only [List.length_map, decide_eq_true_eq, decide_eq_false_iff_not, Bool.not_eq_true', Bool.not_eq_false', Int.ofNat_lt, Int.ofNat_le, Int.not_lt, Int.not_le, Int.toNat_natCast] at hb))
       | ((with_reducible first | refine Or.inl (And.intro ?_ ?_) | refine And.intro ?_ ?_); (focus (first | with_reducible rfl | exact trivial | (exact ⟨rfl, trivial⟩) | (exact ⟨rfl, rfl, trivial⟩) | omega | (intro r hr; simp only [List.mem_singleton] at hr; subst hr; rfl)  | ((simp only [in64, maxLen] at *; omega)) | ((have := TK.numR_lt _; simp only [in64]; omega)) | ((simp only [List.length_map, List.length_cons, List.length_nil]; omega)) | ((simp only [List.length_append, List.length_cons, List.length_nil]; omega)) | (simp only [in64]; omega) | assumption | (simp; done) | (simp [V.cells]; done) | (simp [in64, maxLen, limK] at *; omega) | ((show confB _ _ = true); kernel_rfl) | rfl)))
       | (intro row hrow; (try simp only [Int.toNat_natCast, List.length_map, toNat_pred, toNat_succ', toNat_zero', toNat_one'] at hrow); (first | (have hsm := same_map (by assumption) hrow; subst hsm; clear hrow) | (obtain ⟨p, hp, rfl⟩ := of_map hrow; clear hrow)))))
      all_goals (try first | with_reducible assumption | ((first | show (_ : Int) ≤ _ | show (_ : Nat) ≤ _ | show (_ : Int) < _ | show ¬ (_ : Int) = _); (first | omega | (simp at *; omega) | (simp; done) | (simp [maxLen]; done))) | ((show in64 _); (simp only [in64] at *; (first | omega | (simp at *; omega) | (simp; done) | (simp [maxLen]; done)))) | ((with_reducible refine And.intro ?_ ?_) <;> (first | omega | (simp at *; omega) | (simp; done) | (simp [maxLen]; done))))
      all_goals (first
        | (with_reducible exact absurd rfl (by assumption))
        | ((conv => whnf); (refine ⟨(i + 1, ?_, l ++ [⟨(tk.numR : Int), (tk.num.numR : Int), tk.num.num.ansR⟩]), ?_⟩); (rotate_left 1); (refine And.intro ?_ (And.intro ?_ ?_)); (focus (refine ⟨⟨[0, 1, 2, 3, 4, ?_], ?_⟩⟩; rotate_left 1; repeat' (first | (with_reducible rfl) | exact trivial | ((conv => whnf); (first | (with_reducible refine And.intro ?_ ?_) | (first | with_reducible rfl | ((first | refine congrArg V.str ?_ | refine congrArg (V.int _) ?_ | refine congrArg V.bool ?_ | refine congrArg V.sl ?_); (first | with_reducible rfl | omega | (rw [List.map_append]; rfl) | rfl | (simp; done))) | (first | with_reducible rfl | omega | (rw [List.map_append]; rfl) | rfl | (simp; done)) | rfl)))))); (focus (exact ⟨by omega, hk2, by simp; omega⟩)); (focus (first | omega | (dsimp only; omega) | (simp; done) | (simp; omega) | (simp at *; omega))))
        | ((conv => whnf); (try (first | rfl | (exfalso; simp_all; done) | (exfalso; simp at *; omega))); done))

  all_goals (conv => whnf)
  all_goals (refine ⟨[0], ?_⟩)
  all_goals (repeat' (first | (with_reducible rfl) | exact trivial | ((conv => whnf); (first | (with_reducible refine And.intro ?_ ?_) | exact trivial | (intro hb; first | (exfalso; simp_all; done) | skip)))))
  all_goals (first | rfl)

def rawS (b : Bs) : TK × ShV :=
  let t := tk0 b
  let t0 := t.num.num.text.text.flag
  let rc := readC t0.manyIR t0.manyI []
  let re := readEv rc.1.manyIR rc.1.manyI []
  let rd := readD re.1.manyIR re.1.manyI []
  (rd.1, ⟨(t.numR : Int), (t.num.numR : Int), t.num.num.textR, t.num.num.text.textR, t.num.num.text.text.flagR, rc.2, re.2, rd.2⟩)
theorem TK.manyI_of {t : TK} {k : Nat} {r : Bs} (hb : t.b = true) (hs : t.s = Go.Proofs.YtnblecdpkbempaaGreatDoor.num k ++ r) (hk : k < 281474976710656) (hm : k ≤ r.length) : t.manyI.s = r ∧ t.manyI.b = true ∧ t.manyIR = k := by
  obtain ⟨h1, h2, h3⟩ := TK.num_of hb hs hk
  obtain ⟨e1, e2⟩ := TK.manyI_fine h2 (by rw [h3, h1]; exact hm)
  rw [e1, e2]; exact ⟨h1, h2, h3⟩
theorem TK.ans_of {t : TK} {a : AnV} {r : Bs} (hb : t.b = true) (hs : t.s = bytesA a ++ r) (ha : anB a = true) : t.ans.s = r ∧ t.ans.b = true ∧ t.ansR = a := by
  obtain ⟨e1, e2, e3⟩ := readA_of a r ha
  unfold TK.ans TK.ansR
  rw [if_pos hb, if_pos hb, hs]
  exact ⟨e2, e3, e1⟩
theorem readC_of : ∀ (l : List Cel) (t : TK) (acc : List Cel) (r : Bs), t.b = true → t.s = csB l ++ r → (∀ x ∈ l, x.k.length ≤ 8 ∧ x.v.length ≤ 40 ∧ (0 ≤ x.n ∧ x.n ≤ 1000000000000) ∧ (0 ≤ x.f ∧ x.f ≤ 1000000000000)) → ∃ t', readC l.length t acc = (t', acc ++ l) ∧ t'.s = r ∧ t'.b = true
  | [], t, acc, r, hb, hs, _ => ⟨t, by simp [readC], by simpa [csB] using hs, hb⟩
  | w :: l, t, acc, r, hb, hs, hw => by
    obtain ⟨q1, q2, ⟨q3, q4⟩, q5, q6⟩ := hw w (List.mem_cons_self ..)
    have hs' : t.s = Go.Proofs.YtnblecdpkbempaaGreatDoor.text w.k ++ (Go.Proofs.YtnblecdpkbempaaGreatDoor.text w.v ++ (Go.Proofs.YtnblecdpkbempaaGreatDoor.num w.n.toNat ++ ((if w.d then [1] else [0]) ++ (Go.Proofs.YtnblecdpkbempaaGreatDoor.num w.f.toNat ++ (csB l ++ r))))) := by
      rw [hs]; simp [csB, bytesC, flagB, List.append_assoc]
    obtain ⟨a1, a2, a3⟩ := TK.text_of hb hs' (by omega)
    obtain ⟨b1, b2, b3⟩ := TK.text_of a2 a1 (by omega)
    obtain ⟨c1, c2, c3⟩ := TK.num_of b2 b1 (by omega)
    obtain ⟨d1, d2, d3⟩ := TK.flag_of c2 c1
    obtain ⟨e1, e2, e3⟩ := TK.num_of d2 d1 (by omega)
    obtain ⟨t', f1, f2, f3⟩ := readC_of l t.text.text.num.flag.num (acc ++ [w]) r e2 e1 fun w hw' => hw w (List.mem_cons_of_mem _ hw')
    refine ⟨t', ?_, f2, f3⟩
    rw [List.length_cons, readC, a3, b3, c3, d3, e3, Int.toNat_of_nonneg q3, Int.toNat_of_nonneg q5, f1, List.append_assoc]; rfl
theorem readE_of : ∀ (l : List Evt) (t : TK) (acc : List Evt) (r : Bs), t.b = true → t.s = esB l ++ r → (∀ w ∈ l, w.k.length ≤ 8 ∧ (0 ≤ w.n ∧ w.n ≤ 1000000000000) ∧ w.v.length ≤ 40) → ∃ t', readEv l.length t acc = (t', acc ++ l) ∧ t'.s = r ∧ t'.b = true
  | [], t, acc, r, hb, hs, _ => ⟨t, by simp [readEv], by simpa [esB] using hs, hb⟩
  | w :: l, t, acc, r, hb, hs, hw => by
    obtain ⟨q1, ⟨q2, q3⟩, q4⟩ := hw w (List.mem_cons_self ..)
    have hs' : t.s = Go.Proofs.YtnblecdpkbempaaGreatDoor.text w.k ++ (Go.Proofs.YtnblecdpkbempaaGreatDoor.num w.n.toNat ++ (Go.Proofs.YtnblecdpkbempaaGreatDoor.text w.v ++ ((if w.d then [1] else [0]) ++ (esB l ++ r)))) := by
      rw [hs]; simp [esB, bytesE, flagB, List.append_assoc]
    obtain ⟨a1, a2, a3⟩ := TK.text_of hb hs' (by omega)
    obtain ⟨b1, b2, b3⟩ := TK.num_of a2 a1 (by omega)
    obtain ⟨c1, c2, c3⟩ := TK.text_of b2 b1 (by omega)
    obtain ⟨e1, e2, e3⟩ := TK.flag_of c2 c1
    obtain ⟨t', d1, d2, d3⟩ := readE_of l t.text.num.text.flag (acc ++ [w]) r e2 e1 fun w hw' => hw w (List.mem_cons_of_mem _ hw')
    refine ⟨t', ?_, d2, d3⟩
    rw [List.length_cons, readEv, a3, b3, c3, e3, Int.toNat_of_nonneg q2, d1, List.append_assoc]; rfl
theorem readD_of : ∀ (l : List Dn) (t : TK) (acc : List Dn) (r : Bs), t.b = true → t.s = dsB l ++ r → (∀ x ∈ l, (0 ≤ x.s ∧ x.s < 3) ∧ (1 ≤ x.id ∧ x.id ≤ 1000000000000) ∧ anB x.an = true) → ∃ t', readD l.length t acc = (t', acc ++ l) ∧ t'.s = r ∧ t'.b = true
  | [], t, acc, r, hb, hs, _ => ⟨t, by simp [readD], by simpa [dsB] using hs, hb⟩
  | w :: l, t, acc, r, hb, hs, hw => by
    obtain ⟨⟨q1, q2⟩, ⟨q3, q4⟩, q5⟩ := hw w (List.mem_cons_self ..)
    have hs' : t.s = Go.Proofs.YtnblecdpkbempaaGreatDoor.num w.s.toNat ++ (Go.Proofs.YtnblecdpkbempaaGreatDoor.num w.id.toNat ++ (bytesA w.an ++ (dsB l ++ r))) := by
      rw [hs]; simp [dsB, bytesD, List.append_assoc]
    obtain ⟨a1, a2, a3⟩ := TK.num_of hb hs' (by omega)
    obtain ⟨b1, b2, b3⟩ := TK.num_of a2 a1 (by omega)
    obtain ⟨c1, c2, c3⟩ := TK.ans_of b2 b1 q5
    obtain ⟨t', d1, d2, d3⟩ := readD_of l t.num.num.ans (acc ++ [w]) r c2 c1 fun w hw' => hw w (List.mem_cons_of_mem _ hw')
    refine ⟨t', ?_, d2, d3⟩
    rw [List.length_cons, readD, a3, b3, c3, Int.toNat_of_nonneg q1, Int.toNat_of_nonneg (by omega), d1, List.append_assoc]; rfl
theorem flat_ge {α : Type} (f : α → Bs) (h : ∀ x, 1 ≤ (f x).length) : ∀ (l : List α), l.length ≤ ((l.map f).flatten).length
  | [] => by simp
  | a :: l => by rw [List.map_cons, List.flatten_cons, List.length_append, List.length_cons]; have := h a; have := flat_ge f h l; omega
theorem bytesC_pos (c : Cel) : 1 ≤ (bytesC c).length := by unfold bytesC; simp only [List.length_append]; have := text_pos c.k; omega
theorem bytesE_pos (c : Evt) : 1 ≤ (bytesE c).length := by unfold bytesE; simp only [List.length_append]; have := text_pos c.k; omega
theorem bytesD_pos (c : Dn) : 1 ≤ (bytesD c).length := by unfold bytesD; simp only [List.length_append]; have := num_pos c.s.toNat; omega
theorem imgTake_fn (s : ShV) (h : shB s = true) (hc : s.cs.length ≤ 30) : ∃ t', t'.b = true ∧ t'.s = [] ∧ (rawS (bodyS s)).2 = s ∧ FnM Tryz.prog 42 [.ptr 0 0] [.cells (encTK (tk0 (bodyS s)))] (.agg (encS s)) [.cells (encTK t')] := by
  have ok := shOk h
  have hid := ok.id; have hep := ok.ep; have hf := ok.f; have ht := ok.t; have hel := ok.el; have hdl := ok.dl
  have hs : (tk0 (bodyS s)).s = num s.id.toNat ++ (num s.ep.toNat ++ (text s.f ++ (text s.t ++ ((if s.fz then [1] else [0]) ++ (num s.cs.length ++ (csB s.cs ++ (num s.ev.length ++ (esB s.ev ++ (num s.dn.length ++ (dsB s.dn ++ [])))))))))) := by
    show bodyS s = _
    simp only [bodyS, head3S, head2Q, head2S, head1P, head1S, flagB, List.append_assoc, List.append_nil]
  have z1 := flat_ge bytesC bytesC_pos s.cs
  have z2 := flat_ge bytesE bytesE_pos s.ev
  have z3 := flat_ge bytesD bytesD_pos s.dn
  obtain ⟨a1, a2, a3⟩ := TK.num_of (t := tk0 (bodyS s)) rfl hs (by omega)
  obtain ⟨b1, b2, b3⟩ := TK.num_of a2 a1 (by omega)
  obtain ⟨c1, c2, c3⟩ := TK.text_of b2 b1 (by omega)
  obtain ⟨d1, d2, d3⟩ := TK.text_of c2 c1 (by omega)
  obtain ⟨e1, e2, e3⟩ := TK.flag_of d2 d1
  obtain ⟨f1, f2, f3⟩ := TK.manyI_of e2 e1 (by omega) (by rw [List.length_append]; show s.cs.length ≤ ((s.cs.map bytesC).flatten).length + _; omega)
  obtain ⟨T1, g1, g2, g3⟩ := readC_of s.cs _ [] _ f2 f1 ok.c
  obtain ⟨k1, k2, k3⟩ := TK.manyI_of g3 g2 (by omega) (by rw [List.length_append]; show s.ev.length ≤ ((s.ev.map bytesE).flatten).length + _; omega)
  obtain ⟨T2, l1, l2, l3⟩ := readE_of s.ev _ [] _ k2 k1 ok.e
  obtain ⟨m1, m2, m3⟩ := TK.manyI_of l3 l2 (by omega) (by rw [List.length_append]; show s.dn.length ≤ ((s.dn.map bytesD).flatten).length + _; omega)
  obtain ⟨T3, n1, n2, n3⟩ := readD_of s.dn _ [] _ m2 m1 ok.d
  refine ⟨T3, n3, n2, ?_, ?_⟩
  · unfold rawS
    simp only
    rw [f3, g1]
    simp only
    rw [k3, l1]
    simp only
    rw [m3, n1]
    simp only
    rw [a3, b3, c3, d3, e3, Int.toNat_of_nonneg (by omega), Int.toNat_of_nonneg (by omega)]
    rfl
  have hw := tishard_fn (tk0 (bodyS s)) T1 T2 T3 s.cs s.ev s.dn (by rw [f3]; exact g1) (by rw [k3]; exact l1) (by rw [m3]; exact n1) (by rw [f3]; omega) (by rw [k3]; omega) (by rw [m3]; omega)
  rw [a3, b3, c3, d3, e3, Int.toNat_of_nonneg (by omega), Int.toNat_of_nonneg (by omega)] at hw
  exact hw
end Go.Proofs.YtnblecdpkbempaaGreatDoor
