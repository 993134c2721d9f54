/-
  Walks of package letter: what is taken of bytes. No conditions.
-/
import Derived.Test.YtnblecdpkbempaaGreatDoorLetK
namespace Go.Proofs.YtnblecdpkbempaaGreatDoor
open Go.RowKit
set_option linter.unusedSimpArgs false
set_option linter.unusedVariables false

section
variable {P : Program} {N na : Nat} {h : Hp} {e : Env} {Q : Exit → Env → Hp → Prop}
/-- a list that was given up, in a cell -/
theorem AW.ownC {c : Code} (b i k : Nat) {cs : List V} {v : V} (hb : h b = some (.cells cs)) (hi : cs[i]? = some (.own k)) (hk : h k = some (.rd v)) (K : AW P N na c e (h.set b (some (.cells (cs.set i v)))) Q) : AW P N na c e h Q :=
  ⟨fun cx an R ρ a w hn hs ht ha he => K.run cx an R ρ a w hn (hs.recell hb fun xs hr => hr.setAt hi fun x hx => by
    cases hx with
    | own hq =>
      have := hs.brep k _ _ hq hk
      exact Rep.mono this (fun _ h => h) (fun _ _ => rfl) (fun _ _ h => by cases h)) (fun j o hj => Hp.mono_set h b _ j (ht j o hj)) ha he⟩
end

set_option maxRecDepth 100000 in
set_option maxHeartbeats 1000000 in
theorem tlown_fn (t t' : TK) (k fr to n0 n1 n2 n3 n4 : Int) (o : OpV) (a : AnV) (h : t.own k = (t', o, a)) : FnM Tryz.prog 111 [.ptr 0 0, .ptr 1 0] [.cells (encTK t), .cells [.int .i64 k, .int .i64 fr, .int .i64 to, .int .i64 n0, .int .i64 n1, .int .i64 n2, .int .i64 n3, .int .i64 n4, .int .i64 0, .str [], .str [], .str [], .int .i64 0, .sl [], .int .i64 0, .str [], .int .i64 0, .sl [], .str [], .str [], .nils, .nils, .nils, .str []]] (.tup []) [.cells (encTK t'), .cells [.int .i64 k, .int .i64 fr, .int .i64 to, .int .i64 n0, .int .i64 n1, .int .i64 n2, .int .i64 n3, .int .i64 n4, .int .i64 o.kind, .str o.key, .str o.to, .str o.val, .int .i64 o.ver, .sl (o.ws.map encWr), .int .i64 a.code, .str a.val, .int .i64 a.ver, .sl (a.rows.map encRw), .str [], .str [], .nils, .nils, .nils, .str []]] := by
  refine FnM.mk' base Tryz.func111 rfl rfl rfl rfl ?_
  obtain ⟨s, b, b2, c, c2⟩ := t
  cases b
  · obtain ⟨rfl, rfl, rfl⟩ : (⟨s, false, b2, c, c2⟩ : TK) = t' ∧ zeroO = o ∧ zeroA = a := by
      have := Prod.mk.inj h; exact ⟨this.1, (Prod.mk.inj this.2).1, (Prod.mk.inj this.2).2⟩
    repeat' ((conv => whnf); (first
     | (with_reducible first | refine AW.seq ?_ | refine AW.region base (by kernel_rfl) ?_ | refine AW.cond ?_ | refine AW.block ?_ | refine AW.ret ?_ | refine AW.exit ?_ | refine AW.skip ?_ | refine Br.t ?_ | refine Br.f ?_)
     | (with_reducible refine Br.mkT (fun hb => (by (first | (simp at hb; done) | omega | (simp at hb; omega) | (simp only [List.length_map, decide_eq_true_eq, decide_eq_false_iff_not] at hb; omega) | fail))) (fun hb => ?_))
     | (with_reducible refine Br.mkF (fun hb => (by (first | (simp at hb; done) | omega | (simp at hb; omega) | (simp only [List.length_map, decide_eq_true_eq, decide_eq_false_iff_not] at hb; omega) | fail))) (fun hb => ?_))
     | ((with_reducible refine Or.inl ?_); (conv => whnf); (with_reducible refine And.intro LitSl.mk ?_))
     | refine Br.t ?_
     | refine Br.f ?_
     | ((with_reducible refine Or.inl ?_); (conv => whnf); (first | (with_reducible first | refine ⟨_, opRead_fn _, ?_⟩ | refine ⟨_, anRead_fn _, ?_⟩)))
     | (with_reducible refine Br.mk (fun hb => ?_) (fun hb => ?_) <;> (try rw [hb]) <;> (try simp only [List.length_map, decide_eq_true_eq, decide_eq_false_iff_not, Bool.not_eq_true', Bool.not_eq_false', Int.ofNat_lt, Int.ofNat_le, Int.not_lt, Int.not_le, Int.toNat_natCast] at hb))
     | ((with_reducible first | refine Or.inl (And.intro ?_ ?_) | refine And.intro ?_ ?_); (focus (first | with_reducible rfl | exact trivial | (exact ⟨rfl, trivial⟩) | (exact ⟨rfl, rfl, trivial⟩) | omega | (intro r hr; simp only [List.mem_singleton] at hr; subst hr; rfl)  | ((simp only [in64, maxLen] at *; omega)) | ((simp only [List.length_map, List.length_cons, List.length_nil]; omega)) | ((simp only [List.length_append, List.length_cons, List.length_nil]; omega)) | (simp only [in64]; omega) | assumption | (simp; done) | (simp [V.cells]; done) | (simp [in64, maxLen, limK] at *; omega) | ((show confB _ _ = true); kernel_rfl) | rfl)))
     | (intro row hrow; (try simp only [Int.toNat_natCast, List.length_map, toNat_pred, toNat_succ', toNat_zero', toNat_one'] at hrow); (first | (have hsm := same_map (by assumption) hrow; subst hsm; clear hrow) | (obtain ⟨p, hp, rfl⟩ := of_map hrow; clear hrow)))))
    all_goals (conv => whnf)
    all_goals (refine ⟨[0, 1], ?_⟩)
    all_goals (repeat' (first | (with_reducible rfl) | exact trivial | ((conv => whnf); (first | (with_reducible refine And.intro ?_ ?_) | exact trivial | (intro hb; first | (exfalso; simp_all; done) | skip)))))
    all_goals (first | rfl)
  · by_cases h1 : k = 1
    · obtain ⟨rfl, rfl, rfl⟩ : (readO s).1 = t' ∧ (readO s).2 = o ∧ zeroA = a := by
        unfold TK.own at h; rw [if_pos rfl, if_pos h1] at h
        have := Prod.mk.inj h; exact ⟨this.1, (Prod.mk.inj this.2).1, (Prod.mk.inj this.2).2⟩
      repeat' ((conv => whnf); (first
       | (with_reducible first | refine AW.seq ?_ | refine AW.region base (by kernel_rfl) ?_ | refine AW.cond ?_ | refine AW.block ?_ | refine AW.ret ?_ | refine AW.exit ?_ | refine AW.skip ?_ | refine Br.t ?_ | refine Br.f ?_)
       | (with_reducible refine Br.mkT (fun hb => (by (first | (simp at hb; done) | omega | (simp at hb; omega) | (simp only [List.length_map, decide_eq_true_eq, decide_eq_false_iff_not] at hb; omega) | fail))) (fun hb => ?_))
       | (with_reducible refine Br.mkF (fun hb => (by (first | (simp at hb; done) | omega | (simp at hb; omega) | (simp only [List.length_map, decide_eq_true_eq, decide_eq_false_iff_not] at hb; omega) | fail))) (fun hb => ?_))
       | ((with_reducible refine Or.inl ?_); (conv => whnf); (with_reducible refine And.intro LitSl.mk ?_))
       | refine Br.t ?_
       | refine Br.f ?_
       | ((with_reducible refine Or.inl ?_); (conv => whnf); (first | (with_reducible first | refine ⟨_, opRead_fn _, ?_⟩ | refine ⟨_, anRead_fn _, ?_⟩)))
       | (with_reducible refine Br.mk (fun hb => ?_) (fun hb => ?_) <;> (try rw [hb]) <;> (try simp only [List.length_map, decide_eq_true_eq, decide_eq_false_iff_not, Bool.not_eq_true', Bool.not_eq_false', Int.ofNat_lt, Int.ofNat_le, Int.not_lt, Int.not_le, Int.toNat_natCast] at hb))
       | ((with_reducible first | refine Or.inl (And.intro ?_ ?_) | refine And.intro ?_ ?_); (focus (first | with_reducible rfl | exact trivial | (exact ⟨rfl, trivial⟩) | (exact ⟨rfl, rfl, trivial⟩) | omega | (intro r hr; simp only [List.mem_singleton] at hr; subst hr; rfl)  | ((simp only [in64, maxLen] at *; omega)) | ((simp only [List.length_map, List.length_cons, List.length_nil]; omega)) | ((simp only [List.length_append, List.length_cons, List.length_nil]; omega)) | (simp only [in64]; omega) | assumption | (simp; done) | (simp [V.cells]; done) | (simp [in64, maxLen, limK] at *; omega) | ((show confB _ _ = true); kernel_rfl) | rfl)))
       | (intro row hrow; (try simp only [Int.toNat_natCast, List.length_map, toNat_pred, toNat_succ', toNat_zero', toNat_one'] at hrow); (first | (have hsm := same_map (by assumption) hrow; subst hsm; clear hrow) | (obtain ⟨p, hp, rfl⟩ := of_map hrow; clear hrow)))))
      all_goals (conv => whnf)
      all_goals (refine ⟨[0, 1], ?_⟩)
      all_goals (repeat' (first | (with_reducible rfl) | exact trivial | ((conv => whnf); (first | (with_reducible refine And.intro ?_ ?_) | exact trivial | (intro hb; first | (exfalso; simp_all; done) | skip)))))
      all_goals (first | rfl)
    · by_cases h2 : k = 2
      · obtain ⟨rfl, rfl, rfl⟩ : (readA s).1 = t' ∧ zeroO = o ∧ (readA s).2 = a := by
          unfold TK.own at h; rw [if_pos rfl, if_neg h1, if_pos h2] at h
          have := Prod.mk.inj h; exact ⟨this.1, (Prod.mk.inj this.2).1, (Prod.mk.inj this.2).2⟩
        repeat' ((conv => whnf); (first
         | (with_reducible first | refine AW.seq ?_ | refine AW.region base (by kernel_rfl) ?_ | refine AW.cond ?_ | refine AW.block ?_ | refine AW.ret ?_ | refine AW.exit ?_ | refine AW.skip ?_ | refine Br.t ?_ | refine Br.f ?_)
         | (with_reducible refine Br.mkT (fun hb => (by (first | (simp at hb; done) | omega | (simp at hb; omega) | (simp only [List.length_map, decide_eq_true_eq, decide_eq_false_iff_not] at hb; omega) | fail))) (fun hb => ?_))
         | (with_reducible refine Br.mkF (fun hb => (by (first | (simp at hb; done) | omega | (simp at hb; omega) | (simp only [List.length_map, decide_eq_true_eq, decide_eq_false_iff_not] at hb; omega) | fail))) (fun hb => ?_))
         | ((with_reducible refine Or.inl ?_); (conv => whnf); (with_reducible refine And.intro LitSl.mk ?_))
         | refine Br.t ?_
         | refine Br.f ?_
         | ((with_reducible refine Or.inl ?_); (conv => whnf); (first | (with_reducible first | refine ⟨_, opRead_fn _, ?_⟩ | refine ⟨_, anRead_fn _, ?_⟩)))
         | (with_reducible refine Br.mk (fun hb => ?_) (fun hb => ?_) <;> (try rw [hb]) <;> (try simp only [List.length_map, decide_eq_true_eq, decide_eq_false_iff_not, Bool.not_eq_true', Bool.not_eq_false', Int.ofNat_lt, Int.ofNat_le, Int.not_lt, Int.not_le, Int.toNat_natCast] at hb))
         | ((with_reducible first | refine Or.inl (And.intro ?_ ?_) | refine And.intro ?_ ?_); (focus (first | with_reducible rfl | exact trivial | (exact ⟨rfl, trivial⟩) | (exact ⟨rfl, rfl, trivial⟩) | omega | (intro r hr; simp only [List.mem_singleton] at hr; subst hr; rfl)  | ((simp only [in64, maxLen] at *; omega)) | ((simp only [List.length_map, List.length_cons, List.length_nil]; omega)) | ((simp only [List.length_append, List.length_cons, List.length_nil]; omega)) | (simp only [in64]; omega) | assumption | (simp; done) | (simp [V.cells]; done) | (simp [in64, maxLen, limK] at *; omega) | ((show confB _ _ = true); kernel_rfl) | rfl)))
         | (intro row hrow; (try simp only [Int.toNat_natCast, List.length_map, toNat_pred, toNat_succ', toNat_zero', toNat_one'] at hrow); (first | (have hsm := same_map (by assumption) hrow; subst hsm; clear hrow) | (obtain ⟨p, hp, rfl⟩ := of_map hrow; clear hrow)))))
        all_goals (conv => whnf)
        all_goals (refine ⟨[0, 1], ?_⟩)
        all_goals (repeat' (first | (with_reducible rfl) | exact trivial | ((conv => whnf); (first | (with_reducible refine And.intro ?_ ?_) | exact trivial | (intro hb; first | (exfalso; simp_all; done) | skip)))))
        all_goals (first | rfl)
      · obtain ⟨rfl, rfl, rfl⟩ : (⟨s, true, b2, c, c2⟩ : TK) = t' ∧ zeroO = o ∧ zeroA = a := by
          unfold TK.own at h; rw [if_pos rfl, if_neg h1, if_neg h2] at h
          have := Prod.mk.inj h; exact ⟨this.1, (Prod.mk.inj this.2).1, (Prod.mk.inj this.2).2⟩
        repeat' ((conv => whnf); (first
         | (with_reducible first | refine AW.seq ?_ | refine AW.region base (by kernel_rfl) ?_ | refine AW.cond ?_ | refine AW.block ?_ | refine AW.ret ?_ | refine AW.exit ?_ | refine AW.skip ?_ | refine Br.t ?_ | refine Br.f ?_)
         | (with_reducible refine Br.mkT (fun hb => (by (first | (simp at hb; done) | omega | (simp at hb; omega) | (simp only [List.length_map, decide_eq_true_eq, decide_eq_false_iff_not] at hb; omega) | fail))) (fun hb => ?_))
         | (with_reducible refine Br.mkF (fun hb => (by (first | (simp at hb; done) | omega | (simp at hb; omega) | (simp only [List.length_map, decide_eq_true_eq, decide_eq_false_iff_not] at hb; omega) | fail))) (fun hb => ?_))
         | ((with_reducible refine Or.inl ?_); (conv => whnf); (with_reducible refine And.intro LitSl.mk ?_))
         | refine Br.t ?_
         | refine Br.f ?_
         | ((with_reducible refine Or.inl ?_); (conv => whnf); (first | (with_reducible first | refine ⟨_, opRead_fn _, ?_⟩ | refine ⟨_, anRead_fn _, ?_⟩)))
         | (with_reducible refine Br.mk (fun hb => ?_) (fun hb => ?_) <;> (try rw [hb]) <;> (try simp only [List.length_map, decide_eq_true_eq, decide_eq_false_iff_not, Bool.not_eq_true', Bool.not_eq_false', Int.ofNat_lt, Int.ofNat_le, Int.not_lt, Int.not_le, Int.toNat_natCast] at hb))
         | ((with_reducible first | refine Or.inl (And.intro ?_ ?_) | refine And.intro ?_ ?_); (focus (first | with_reducible rfl | exact trivial | (exact ⟨rfl, trivial⟩) | (exact ⟨rfl, rfl, trivial⟩) | omega | (intro r hr; simp only [List.mem_singleton] at hr; subst hr; rfl)  | ((simp only [in64, maxLen] at *; omega)) | ((simp only [List.length_map, List.length_cons, List.length_nil]; omega)) | ((simp only [List.length_append, List.length_cons, List.length_nil]; omega)) | (simp only [in64]; omega) | assumption | (simp; done) | (simp [V.cells]; done) | (simp [in64, maxLen, limK] at *; omega) | ((show confB _ _ = true); kernel_rfl) | rfl)))
         | (intro row hrow; (try simp only [Int.toNat_natCast, List.length_map, toNat_pred, toNat_succ', toNat_zero', toNat_one'] at hrow); (first | (have hsm := same_map (by assumption) hrow; subst hsm; clear hrow) | (obtain ⟨p, hp, rfl⟩ := of_map hrow; clear hrow)))))
        all_goals (conv => whnf)
        all_goals (refine ⟨[0, 1], ?_⟩)
        all_goals (repeat' (first | (with_reducible rfl) | exact trivial | ((conv => whnf); (first | (with_reducible refine And.intro ?_ ?_) | exact trivial | (intro hb; first | (exfalso; simp_all; done) | skip)))))
        all_goals (first | rfl)


set_option maxRecDepth 100000 in
set_option maxHeartbeats 2000000 in
theorem tlletter_fn (T T1 T2 T3 T4 T5 : TK) (X1 : N5) (o2 : OpV) (a2 : AnV) (L3 : List Sn) (L4 : List Evt) (L5 : List Plc) (h1 : readN (TK.manyR (T.num.num.num) 5 10) 0 ((T.num.num.num).many 5 10) ⟨0, 0, 0, 0, 0⟩ = (T1, X1)) (h2 : T1.own (T.numR : Int) = (T2, o2, a2)) (h3 : readSn (TK.manyR (T2.text.text) 60 10) ((T2.text.text).many 60 10) [] = (T3, L3)) (h4 : readEv (TK.manyR T3 8 10) (TK.many T3 8 10) [] = (T4, L4)) (h5 : readPl (TK.manyR T4 8 10) (TK.many T4 8 10) [] = (T5, L5)) : FnM Tryz.prog 64 [.ptr 0 0] [.cells (encTK T)] (.agg (encL ⟨(T.numR : Int), (T.num.numR : Int), (T.num.num.numR : Int), X1.a, X1.b, X1.c, X1.d, X1.e, o2, a2, T2.textR, T2.text.textR, L3, L4, L5, T5.textR⟩)) [.cells (encTK T5.text)] := by
  refine FnM.mk' base Tryz.func64 rfl rfl rfl rfl ?_
  have g0 : ((TK.manyR (T.num.num.num) 5 10) : Int) ≤ 5 := TK.manyR_le _ _ _ (by omega)
  have g1 : ((TK.manyR (T2.text.text) 60 10) : Int) ≤ 60 := TK.manyR_le _ _ _ (by omega)
  have g2 : ((TK.manyR T3 8 10) : Int) ≤ 8 := TK.manyR_le _ _ _ (by omega)
  have g3 : ((TK.manyR T4 8 10) : Int) ≤ 8 := TK.manyR_le _ _ _ (by omega)
  repeat' ((conv => whnf); (first
   | ((with_reducible show AW _ _ _ (Code.seq (Code.region 7 _ _) _) _ _ _); (refine AW.nilC 2 13 rfl rfl ?_); (refine AW.nilC 2 17 rfl rfl ?_))
   | ((with_reducible show AW _ _ _ (Code.seq (Code.seq (Code.region 2 _ _) _) _) _ _ _); (refine AW.join (fun (_ : Unit) => True) (fun _ => ⟨[(0, .ptr 0 0), (2, .ptr 1 0), (3, .ptr 2 0)], [.cells (encTK T1), .cells [.int .i64 0, .int .i64 0, .int .i64 0, .int .i64 0, .int .i64 0, .int .i64 0, .int .i64 0, .int .i64 0, .int .i64 0, .str [], .str [], .str [], .int .i64 0, .nils, .int .i64 0, .str [], .int .i64 0, .nils, .str [], .str [], .nils, .nils, .nils, .str []], .cells [.int .i64 (T.numR : Int), .int .i64 (T.num.numR : Int), .int .i64 (T.num.num.numR : Int), .int .i64 X1.a, .int .i64 X1.b, .int .i64 X1.c, .int .i64 X1.d, .int .i64 X1.e, .int .i64 0, .str [], .str [], .str [], .int .i64 0, .nils, .int .i64 0, .str [], .int .i64 0, .nils, .str [], .str [], .nils, .nils, .nils, .str []]]⟩) ?_ (fun _ _ => ?_)))
   | ((with_reducible show AW _ _ _ (Code.seq (Code.seq (Code.region 9 _ _) _) _) _ _ _); (refine AW.join (fun (_ : Unit) => True) (fun _ => ⟨[(0, .ptr 0 0), (2, .ptr 1 0), (3, .ptr 2 0)], [.cells (encTK T3), .cells [.int .i64 0, .int .i64 0, .int .i64 0, .int .i64 0, .int .i64 0, .int .i64 0, .int .i64 0, .int .i64 0, .int .i64 0, .str [], .str [], .str [], .int .i64 0, .nils, .int .i64 0, .str [], .int .i64 0, .nils, .str [], .str [], .nils, .nils, .nils, .str []], .cells [.int .i64 (T.numR : Int), .int .i64 (T.num.numR : Int), .int .i64 (T.num.num.numR : Int), .int .i64 X1.a, .int .i64 X1.b, .int .i64 X1.c, .int .i64 X1.d, .int .i64 X1.e, .int .i64 o2.kind, .str o2.key, .str o2.to, .str o2.val, .int .i64 o2.ver, .sl (o2.ws.map encWr), .int .i64 a2.code, .str a2.val, .int .i64 a2.ver, .sl (a2.rows.map encRw), .str T2.textR, .str T2.text.textR, .own 3, .nils, .nils, .str []], .rows 69 (L3.map encN)]⟩) ?_ (fun _ _ => ?_)))
   | ((with_reducible show AW _ _ _ (Code.seq (Code.seq (Code.region 13 _ _) _) _) _ _ _); (refine AW.join (fun (_ : Unit) => True) (fun _ => ⟨[(0, .ptr 0 0), (2, .ptr 1 0), (3, .ptr 2 0)], [.cells (encTK T4), .cells [.int .i64 0, .int .i64 0, .int .i64 0, .int .i64 0, .int .i64 0, .int .i64 0, .int .i64 0, .int .i64 0, .int .i64 0, .str [], .str [], .str [], .int .i64 0, .nils, .int .i64 0, .str [], .int .i64 0, .nils, .str [], .str [], .nils, .nils, .nils, .str []], .cells [.int .i64 (T.numR : Int), .int .i64 (T.num.numR : Int), .int .i64 (T.num.num.numR : Int), .int .i64 X1.a, .int .i64 X1.b, .int .i64 X1.c, .int .i64 X1.d, .int .i64 X1.e, .int .i64 o2.kind, .str o2.key, .str o2.to, .str o2.val, .int .i64 o2.ver, .sl (o2.ws.map encWr), .int .i64 a2.code, .str a2.val, .int .i64 a2.ver, .sl (a2.rows.map encRw), .str T2.textR, .str T2.text.textR, .own 3, .own 4, .nils, .str []], .rows 69 (L3.map encN), .rows 65 (L4.map encE)]⟩) ?_ (fun _ _ => ?_)))
   | ((with_reducible show AW _ _ _ (Code.seq (Code.seq (Code.region 17 _ _) _) _) _ _ _); (refine AW.join (fun (_ : Unit) => True) (fun _ => ⟨[(0, .ptr 0 0), (2, .ptr 1 0), (3, .ptr 2 0)], [.cells (encTK T5), .cells [.int .i64 0, .int .i64 0, .int .i64 0, .int .i64 0, .int .i64 0, .int .i64 0, .int .i64 0, .int .i64 0, .int .i64 0, .str [], .str [], .str [], .int .i64 0, .nils, .int .i64 0, .str [], .int .i64 0, .nils, .str [], .str [], .nils, .nils, .nils, .str []], .cells [.int .i64 (T.numR : Int), .int .i64 (T.num.numR : Int), .int .i64 (T.num.num.numR : Int), .int .i64 X1.a, .int .i64 X1.b, .int .i64 X1.c, .int .i64 X1.d, .int .i64 X1.e, .int .i64 o2.kind, .str o2.key, .str o2.to, .str o2.val, .int .i64 o2.ver, .sl (o2.ws.map encWr), .int .i64 a2.code, .str a2.val, .int .i64 a2.ver, .sl (a2.rows.map encRw), .str T2.textR, .str T2.text.textR, .own 3, .own 4, .own 5, .str []], .rows 69 (L3.map encN), .rows 65 (L4.map encE), .rows 67 (L5.map encP)]⟩) ?_ (fun _ _ => ?_)))
   | ((with_reducible show AW _ _ _ Code.ret _ _ _); (refine AW.freeze 3 rfl ?_); (refine AW.freeze 4 rfl ?_); (refine AW.freeze 5 rfl ?_); (refine AW.ownC 1 20 3 rfl rfl rfl ?_); (refine AW.ownC 1 21 4 rfl rfl rfl ?_); (refine AW.ownC 1 22 5 rfl rfl rfl ?_); (with_reducible refine AW.ret ?_))
   | (with_reducible first | refine AW.seq ?_ | refine AW.region base (by kernel_rfl) ?_ | refine AW.cond ?_ | refine AW.block ?_ | refine AW.ret ?_ | refine AW.exit ?_ | refine AW.skip ?_ | refine Br.t ?_ | refine Br.f ?_)
   | (with_reducible refine Br.mkT (fun hb => (by (first | (simp at hb; done) | omega | (simp at hb; omega) | (simp only [List.length_map, decide_eq_true_eq, decide_eq_false_iff_not] at hb; omega) | fail))) (fun hb => ?_))
   | (with_reducible refine Br.mkF (fun hb => (by (first | (simp at hb; done) | omega | (simp at hb; omega) | (simp only [List.length_map, decide_eq_true_eq, decide_eq_false_iff_not] at hb; omega) | fail))) (fun hb => ?_))
   | ((with_reducible refine Or.inl ?_); (conv => whnf); (with_reducible refine And.intro LitSl.mk ?_))
   | refine Br.t ?_
   | refine Br.f ?_
   | (with_reducible refine Or.inr ⟨[?_], _, _, _, _, tlnum_fn ?_, ?_⟩)
   | (with_reducible refine Or.inr (Or.inr ⟨[?_], _, _, _, _, tlnum_fn ?_, ?_⟩))
   | (with_reducible refine Or.inr ⟨[?_], _, _, _, _, tltext_fn ?_, ?_⟩)
   | (with_reducible refine Or.inr (Or.inr ⟨[?_], _, _, _, _, tltext_fn ?_, ?_⟩))
   | (with_reducible refine Or.inr ⟨[?_], _, _, _, _, tlflag_fn ?_, ?_⟩)
   | (with_reducible refine Or.inr (Or.inr ⟨[?_], _, _, _, _, tlflag_fn ?_, ?_⟩))
   | ((with_reducible refine Or.inr ⟨[?_], _, _, _, _, tlmany_fn ?_ ?_ ?_, ?_⟩); rotate_right; (repeat ((conv => whnf); (with_reducible refine And.intro ?_ ?_); (focus (first | with_reducible rfl | exact trivial | (exact ⟨rfl, trivial⟩) | (exact ⟨rfl, rfl, trivial⟩) | omega | (intro r hr; simp only [List.mem_singleton] at hr; subst hr; rfl)  | (simp only [in64]; omega) | assumption | (simp; done) | (simp [V.cells]; done) | (simp [in64, maxLen, limK] at *; omega) | ((show confB _ _ = true); kernel_rfl) | rfl)))); rotate_left; (focus (first | omega | fail)))
   | ((with_reducible refine Or.inr (Or.inr ⟨[?_], _, _, _, _, tlmany_fn ?_ ?_ ?_, ?_⟩)); rotate_right; (repeat ((conv => whnf); (with_reducible refine And.intro ?_ ?_); (focus (first | with_reducible rfl | exact trivial | (exact ⟨rfl, trivial⟩) | (exact ⟨rfl, rfl, trivial⟩) | omega | (intro r hr; simp only [List.mem_singleton] at hr; subst hr; rfl)  | (simp only [in64]; omega) | assumption | (simp; done) | (simp [V.cells]; done) | (simp [in64, maxLen, limK] at *; omega) | ((show confB _ _ = true); kernel_rfl) | rfl)))); rotate_left; (focus (first | omega | fail)))
   | (with_reducible refine Or.inr ⟨[?_, ?_], _, _, _, _, tlown_fn T1 T2 (T.numR : Int) (T.num.numR : Int) (T.num.num.numR : Int) X1.a X1.b X1.c X1.d X1.e o2 a2 h2, ?_⟩)
   | (with_reducible refine Or.inr (Or.inr ⟨[?_, ?_], _, _, _, _, tlown_fn T1 T2 (T.numR : Int) (T.num.numR : Int) (T.num.num.numR : Int) X1.a X1.b X1.c X1.d X1.e o2 a2 h2, ?_⟩))
   | (with_reducible refine Br.mk (fun hb => ?_) (fun hb => ?_) <;> (try rw [hb]) <;> (try simp only [List.length_map, decide_eq_true_eq, decide_eq_false_iff_not, Bool.not_eq_true', Bool.not_eq_false', Int.ofNat_lt, Int.ofNat_le, Int.not_lt, Int.not_le, Int.toNat_natCast] at hb))
   | ((with_reducible first | refine Or.inl (And.intro ?_ ?_) | refine And.intro ?_ ?_); (focus (first | with_reducible rfl | exact trivial | (exact ⟨rfl, trivial⟩) | (exact ⟨rfl, rfl, trivial⟩) | omega | (intro r hr; simp only [List.mem_singleton] at hr; subst hr; rfl)  | ((simp only [in64, maxLen] at *; omega)) | ((simp only [List.length_map, List.length_cons, List.length_nil]; omega)) | ((simp only [List.length_append, List.length_cons, List.length_nil]; omega)) | (simp only [in64]; omega) | assumption | (simp; done) | (simp [V.cells]; done) | (simp [in64, maxLen, limK] at *; omega) | ((show confB _ _ = true); kernel_rfl) | rfl)))
   | (intro row hrow; (try simp only [Int.toNat_natCast, List.length_map, toNat_pred, toNat_succ', toNat_zero', toNat_one'] at hrow); (first | (have hsm := same_map (by assumption) hrow; subst hsm; clear hrow) | (obtain ⟨p, hp, rfl⟩ := of_map hrow; clear hrow)))))
  · refine AW.loop (fun (⟨i, tk, x⟩ : Nat × TK × N5) => i ≤ (TK.manyR (T.num.num.num) 5 10) ∧ readN ((TK.manyR (T.num.num.num) 5 10) - i) i tk x = (T1, X1)) (fun (⟨i, tk, x⟩ : Nat × TK × N5) => ⟨[(0, .ptr 0 0), (2, .ptr 1 0), (3, .ptr 2 0), (13, .int .i64 ((TK.manyR (T.num.num.num) 5 10) : Int)), (14, .int .i64 (i : Int))], [.cells (encTK tk), .cells [.int .i64 0, .int .i64 0, .int .i64 0, .int .i64 0, .int .i64 0, .int .i64 0, .int .i64 0, .int .i64 0, .int .i64 0, .str [], .str [], .str [], .int .i64 0, .nils, .int .i64 0, .str [], .int .i64 0, .nils, .str [], .str [], .nils, .nils, .nils, .str []], .cells [.int .i64 (T.numR : Int), .int .i64 (T.num.numR : Int), .int .i64 (T.num.num.numR : Int), .int .i64 x.a, .int .i64 x.b, .int .i64 x.c, .int .i64 x.d, .int .i64 x.e, .int .i64 0, .str [], .str [], .str [], .int .i64 0, .nils, .int .i64 0, .str [], .int .i64 0, .nils, .str [], .str [], .nils, .nils, .nils, .str []]]⟩) (fun (⟨i, tk, x⟩ : Nat × TK × N5) => (TK.manyR (T.num.num.num) 5 10) - i) (0, (T.num.num.num).many 5 10, ⟨0, 0, 0, 0, 0⟩) ?_ ?_ ?_
    · exact ⟨Nat.zero_le _, h1⟩
    · (refine ⟨⟨[0, 1000, 2007], ?_⟩⟩; repeat' (first | (with_reducible rfl) | exact trivial | ((conv => whnf); (first | (with_reducible refine And.intro ?_ ?_) | (first | with_reducible rfl | ((first | refine congrArg V.str ?_ | refine congrArg (V.int _) ?_ | refine congrArg V.bool ?_ | refine congrArg V.sl ?_); (first | with_reducible rfl | omega | rfl | (simp; done))) | (first | with_reducible rfl | omega | rfl | (simp; done)) | rfl)))))
    · rintro ⟨i, tk, x⟩ hk
      obtain ⟨hk1, hk2⟩ := hk
      rcases (by omega : i = (TK.manyR (T.num.num.num) 5 10) ∨ i < (TK.manyR (T.num.num.num) 5 10)) with hi | hi
      · rw [hi, Nat.sub_self, readN] at hk2
        obtain ⟨rfl, rfl⟩ := Prod.mk.inj hk2
        repeat' ((conv => whnf); (first
         | (with_reducible first | refine AW.seq ?_ | refine AW.region base (by kernel_rfl) ?_ | refine AW.cond ?_ | refine AW.block ?_ | refine AW.ret ?_ | refine AW.exit ?_ | refine AW.skip ?_ | refine Br.t ?_ | refine Br.f ?_)
         | (with_reducible refine Br.mkT (fun hb => (by (first | (simp at hb; done) | omega | (simp at hb; omega) | (simp only [List.length_map, decide_eq_true_eq, decide_eq_false_iff_not] at hb; omega) | fail))) (fun hb => ?_))
         | (with_reducible refine Br.mkF (fun hb => (by (first | (simp at hb; done) | omega | (simp at hb; omega) | (simp only [List.length_map, decide_eq_true_eq, decide_eq_false_iff_not] at hb; omega) | fail))) (fun hb => ?_))
         | ((with_reducible refine Or.inl ?_); (conv => whnf); (with_reducible refine And.intro LitSl.mk ?_))
         | refine Br.t ?_
         | refine Br.f ?_
         | (with_reducible refine Or.inr ⟨[?_], _, _, _, _, tlnum_fn ?_, ?_⟩)
         | (with_reducible refine Or.inr (Or.inr ⟨[?_], _, _, _, _, tlnum_fn ?_, ?_⟩))
         | (with_reducible refine Or.inr ⟨[?_], _, _, _, _, tltext_fn ?_, ?_⟩)
         | (with_reducible refine Or.inr (Or.inr ⟨[?_], _, _, _, _, tltext_fn ?_, ?_⟩))
         | (with_reducible refine Or.inr ⟨[?_], _, _, _, _, tlflag_fn ?_, ?_⟩)
         | (with_reducible refine Or.inr (Or.inr ⟨[?_], _, _, _, _, tlflag_fn ?_, ?_⟩))
         | ((with_reducible refine Or.inr ⟨[?_], _, _, _, _, tlmany_fn ?_ ?_ ?_, ?_⟩); rotate_right; (repeat ((conv => whnf); (with_reducible refine And.intro ?_ ?_); (focus (first | with_reducible rfl | exact trivial | (exact ⟨rfl, trivial⟩) | (exact ⟨rfl, rfl, trivial⟩) | omega | (intro r hr; simp only [List.mem_singleton] at hr; subst hr; rfl)  | (simp only [in64]; omega) | assumption | (simp; done) | (simp [V.cells]; done) | (simp [in64, maxLen, limK] at *; omega) | ((show confB _ _ = true); kernel_rfl) | rfl)))); rotate_left; (focus (first | omega | fail)))
         | ((with_reducible refine Or.inr (Or.inr ⟨[?_], _, _, _, _, tlmany_fn ?_ ?_ ?_, ?_⟩)); rotate_right; (repeat ((conv => whnf); (with_reducible refine And.intro ?_ ?_); (focus (first | with_reducible rfl | exact trivial | (exact ⟨rfl, trivial⟩) | (exact ⟨rfl, rfl, trivial⟩) | omega | (intro r hr; simp only [List.mem_singleton] at hr; subst hr; rfl)  | (simp only [in64]; omega) | assumption | (simp; done) | (simp [V.cells]; done) | (simp [in64, maxLen, limK] at *; omega) | ((show confB _ _ = true); kernel_rfl) | rfl)))); rotate_left; (focus (first | omega | fail)))
         | (with_reducible refine Or.inr ⟨[?_, ?_], _, _, _, _, tlown_fn T1 T2 (T.numR : Int) (T.num.numR : Int) (T.num.num.numR : Int) X1.a X1.b X1.c X1.d X1.e o2 a2 h2, ?_⟩)
         | (with_reducible refine Or.inr (Or.inr ⟨[?_, ?_], _, _, _, _, tlown_fn T1 T2 (T.numR : Int) (T.num.numR : Int) (T.num.num.numR : Int) X1.a X1.b X1.c X1.d X1.e o2 a2 h2, ?_⟩))
         | (with_reducible refine Br.mk (fun hb => ?_) (fun hb => ?_) <;> (try rw [hb]) <;> (try simp only [List.length_map, decide_eq_true_eq, decide_eq_false_iff_not, Bool.not_eq_true', Bool.not_eq_false', Int.ofNat_lt, Int.ofNat_le, Int.not_lt, Int.not_le, Int.toNat_natCast] at hb))
         | ((with_reducible first | refine Or.inl (And.intro ?_ ?_) | refine And.intro ?_ ?_); (focus (first | with_reducible rfl | exact trivial | (exact ⟨rfl, trivial⟩) | (exact ⟨rfl, rfl, trivial⟩) | omega | (intro r hr; simp only [List.mem_singleton] at hr; subst hr; rfl)  | ((simp only [in64, maxLen] at *; omega)) | ((simp only [List.length_map, List.length_cons, List.length_nil]; omega)) | ((simp only [List.length_append, List.length_cons, List.length_nil]; omega)) | (simp only [in64]; omega) | assumption | (simp; done) | (simp [V.cells]; done) | (simp [in64, maxLen, limK] at *; omega) | ((show confB _ _ = true); kernel_rfl) | rfl)))
         | (intro row hrow; (try simp only [Int.toNat_natCast, List.length_map, toNat_pred, toNat_succ', toNat_zero', toNat_one'] at hrow); (first | (have hsm := same_map (by assumption) hrow; subst hsm; clear hrow) | (obtain ⟨p, hp, rfl⟩ := of_map hrow; clear hrow)))))
        all_goals ((conv => whnf); (refine ⟨(), ?_, trivial⟩; (refine ⟨⟨[0, 1, 2], ?_⟩⟩; repeat' (first | (with_reducible rfl) | exact trivial | ((conv => whnf); (first | (with_reducible refine And.intro ?_ ?_) | (first | with_reducible rfl | ((first | refine congrArg V.str ?_ | refine congrArg (V.int _) ?_ | refine congrArg V.bool ?_ | refine congrArg V.sl ?_); (first | with_reducible rfl | omega | rfl | (simp; done))) | (first | with_reducible rfl | omega | rfl | (simp; done)) | rfl)))))))
      rw [show (TK.manyR (T.num.num.num) 5 10) - i = ((TK.manyR (T.num.num.num) 5 10) - (i + 1)) + 1 by omega, readN] at hk2
      rcases (by omega : i = 0 ∨ i = 1 ∨ i = 2 ∨ i = 3 ∨ i = 4) with rfl | rfl | rfl | rfl | rfl
      · rw [N5.set] at hk2
        repeat' ((conv => whnf); (first
         | (with_reducible first | refine AW.seq ?_ | refine AW.region base (by kernel_rfl) ?_ | refine AW.cond ?_ | refine AW.block ?_ | refine AW.ret ?_ | refine AW.exit ?_ | refine AW.skip ?_ | refine Br.t ?_ | refine Br.f ?_)
         | (with_reducible refine Br.mkT (fun hb => (by (first | (simp at hb; done) | omega | (simp at hb; omega) | (simp only [List.length_map, decide_eq_true_eq, decide_eq_false_iff_not] at hb; omega) | fail))) (fun hb => ?_))
         | (with_reducible refine Br.mkF (fun hb => (by (first | (simp at hb; done) | omega | (simp at hb; omega) | (simp only [List.length_map, decide_eq_true_eq, decide_eq_false_iff_not] at hb; omega) | fail))) (fun hb => ?_))
         | ((with_reducible refine Or.inl ?_); (conv => whnf); (with_reducible refine And.intro LitSl.mk ?_))
         | refine Br.t ?_
         | refine Br.f ?_
         | (with_reducible refine Or.inr ⟨[?_], _, _, _, _, tlnum_fn ?_, ?_⟩)
         | (with_reducible refine Or.inr (Or.inr ⟨[?_], _, _, _, _, tlnum_fn ?_, ?_⟩))
         | (with_reducible refine Or.inr ⟨[?_], _, _, _, _, tltext_fn ?_, ?_⟩)
         | (with_reducible refine Or.inr (Or.inr ⟨[?_], _, _, _, _, tltext_fn ?_, ?_⟩))
         | (with_reducible refine Or.inr ⟨[?_], _, _, _, _, tlflag_fn ?_, ?_⟩)
         | (with_reducible refine Or.inr (Or.inr ⟨[?_], _, _, _, _, tlflag_fn ?_, ?_⟩))
         | ((with_reducible refine Or.inr ⟨[?_], _, _, _, _, tlmany_fn ?_ ?_ ?_, ?_⟩); rotate_right; (repeat ((conv => whnf); (with_reducible refine And.intro ?_ ?_); (focus (first | with_reducible rfl | exact trivial | (exact ⟨rfl, trivial⟩) | (exact ⟨rfl, rfl, trivial⟩) | omega | (intro r hr; simp only [List.mem_singleton] at hr; subst hr; rfl)  | (simp only [in64]; omega) | assumption | (simp; done) | (simp [V.cells]; done) | (simp [in64, maxLen, limK] at *; omega) | ((show confB _ _ = true); kernel_rfl) | rfl)))); rotate_left; (focus (first | omega | fail)))
         | ((with_reducible refine Or.inr (Or.inr ⟨[?_], _, _, _, _, tlmany_fn ?_ ?_ ?_, ?_⟩)); rotate_right; (repeat ((conv => whnf); (with_reducible refine And.intro ?_ ?_); (focus (first | with_reducible rfl | exact trivial | (exact ⟨rfl, trivial⟩) | (exact ⟨rfl, rfl, trivial⟩) | omega | (intro r hr; simp only [List.mem_singleton] at hr; subst hr; rfl)  | (simp only [in64]; omega) | assumption | (simp; done) | (simp [V.cells]; done) | (simp [in64, maxLen, limK] at *; omega) | ((show confB _ _ = true); kernel_rfl) | rfl)))); rotate_left; (focus (first | omega | fail)))
         | (with_reducible refine Or.inr ⟨[?_, ?_], _, _, _, _, tlown_fn T1 T2 (T.numR : Int) (T.num.numR : Int) (T.num.num.numR : Int) X1.a X1.b X1.c X1.d X1.e o2 a2 h2, ?_⟩)
         | (with_reducible refine Or.inr (Or.inr ⟨[?_, ?_], _, _, _, _, tlown_fn T1 T2 (T.numR : Int) (T.num.numR : Int) (T.num.num.numR : Int) X1.a X1.b X1.c X1.d X1.e o2 a2 h2, ?_⟩))
         | (with_reducible refine Br.mk (fun hb => ?_) (fun hb => ?_) <;> (try rw [hb]) <;> (try simp only [List.length_map, decide_eq_true_eq, decide_eq_false_iff_not, Bool.not_eq_true', Bool.not_eq_false', Int.ofNat_lt, Int.ofNat_le, Int.not_lt, Int.not_le, Int.toNat_natCast] at hb))
         | ((with_reducible first | refine Or.inl (And.intro ?_ ?_) | refine And.intro ?_ ?_); (focus (first | with_reducible rfl | exact trivial | (exact ⟨rfl, trivial⟩) | (exact ⟨rfl, rfl, trivial⟩) | omega | (intro r hr; simp only [List.mem_singleton] at hr; subst hr; rfl)  | ((simp only [in64, maxLen] at *; omega)) | ((simp only [List.length_map, List.length_cons, List.length_nil]; omega)) | ((simp only [List.length_append, List.length_cons, List.length_nil]; omega)) | (simp only [in64]; omega) | assumption | (simp; done) | (simp [V.cells]; done) | (simp [in64, maxLen, limK] at *; omega) | ((show confB _ _ = true); kernel_rfl) | rfl)))
         | (intro row hrow; (try simp only [Int.toNat_natCast, List.length_map, toNat_pred, toNat_succ', toNat_zero', toNat_one'] at hrow); (first | (have hsm := same_map (by assumption) hrow; subst hsm; clear hrow) | (obtain ⟨p, hp, rfl⟩ := of_map hrow; clear hrow)))))
        all_goals (try first | with_reducible assumption | ((first | show (_ : Int) ≤ _ | show (_ : Nat) ≤ _ | show (_ : Int) < _ | show ¬ (_ : Int) = _); (first | omega | (simp at *; omega) | (simp; done) | (simp [maxLen]; done))) | ((show in64 _); (simp only [in64] at *; (first | omega | (simp at *; omega) | (simp; done) | (simp [maxLen]; done)))) | ((with_reducible refine And.intro ?_ ?_) <;> (first | omega | (simp at *; omega) | (simp; done) | (simp [maxLen]; done))))
        all_goals (first
          | (with_reducible exact absurd rfl (by assumption))
          | ((conv => whnf); (refine ⟨(0 + 1, ?_, ⟨(tk.numR : Int), x.b, x.c, x.d, x.e⟩), ?_⟩); (rotate_left 1); (refine And.intro ?_ (And.intro ?_ ?_)); (focus (refine ⟨⟨[0, 1, 2], ?_⟩⟩; repeat' (first | (with_reducible rfl) | exact trivial | ((conv => whnf); (first | (with_reducible refine And.intro ?_ ?_) | (first | with_reducible rfl | ((first | refine congrArg V.str ?_ | refine congrArg (V.int _) ?_ | refine congrArg V.bool ?_ | refine congrArg V.sl ?_); (first | with_reducible rfl | omega | rfl | (simp; done))) | (first | with_reducible rfl | omega | rfl | (simp; done)) | rfl)))))); (focus (exact ⟨by omega, hk2⟩)); (focus (first | omega | (dsimp only; omega) | (simp; done) | (simp; omega) | (simp at *; omega))))
          | ((conv => whnf); (try (first | rfl | (exfalso; simp_all; done) | (exfalso; simp at *; omega))); done))

      · rw [N5.set] at hk2
        repeat' ((conv => whnf); (first
         | (with_reducible first | refine AW.seq ?_ | refine AW.region base (by kernel_rfl) ?_ | refine AW.cond ?_ | refine AW.block ?_ | refine AW.ret ?_ | refine AW.exit ?_ | refine AW.skip ?_ | refine Br.t ?_ | refine Br.f ?_)
         | (with_reducible refine Br.mkT (fun hb => (by (first | (simp at hb; done) | omega | (simp at hb; omega) | (simp only [List.length_map, decide_eq_true_eq, decide_eq_false_iff_not] at hb; omega) | fail))) (fun hb => ?_))
         | (with_reducible refine Br.mkF (fun hb => (by (first | (simp at hb; done) | omega | (simp at hb; omega) | (simp only [List.length_map, decide_eq_true_eq, decide_eq_false_iff_not] at hb; omega) | fail))) (fun hb => ?_))
         | ((with_reducible refine Or.inl ?_); (conv => whnf); (with_reducible refine And.intro LitSl.mk ?_))
         | refine Br.t ?_
         | refine Br.f ?_
         | (with_reducible refine Or.inr ⟨[?_], _, _, _, _, tlnum_fn ?_, ?_⟩)
         | (with_reducible refine Or.inr (Or.inr ⟨[?_], _, _, _, _, tlnum_fn ?_, ?_⟩))
         | (with_reducible refine Or.inr ⟨[?_], _, _, _, _, tltext_fn ?_, ?_⟩)
         | (with_reducible refine Or.inr (Or.inr ⟨[?_], _, _, _, _, tltext_fn ?_, ?_⟩))
         | (with_reducible refine Or.inr ⟨[?_], _, _, _, _, tlflag_fn ?_, ?_⟩)
         | (with_reducible refine Or.inr (Or.inr ⟨[?_], _, _, _, _, tlflag_fn ?_, ?_⟩))
         | ((with_reducible refine Or.inr ⟨[?_], _, _, _, _, tlmany_fn ?_ ?_ ?_, ?_⟩); rotate_right; (repeat ((conv => whnf); (with_reducible refine And.intro ?_ ?_); (focus (first | with_reducible rfl | exact trivial | (exact ⟨rfl, trivial⟩) | (exact ⟨rfl, rfl, trivial⟩) | omega | (intro r hr; simp only [List.mem_singleton] at hr; subst hr; rfl)  | (simp only [in64]; omega) | assumption | (simp; done) | (simp [V.cells]; done) | (simp [in64, maxLen, limK] at *; omega) | ((show confB _ _ = true); kernel_rfl) | rfl)))); rotate_left; (focus (first | omega | fail)))
         | ((with_reducible refine Or.inr (Or.inr ⟨[?_], _, _, _, _, tlmany_fn ?_ ?_ ?_, ?_⟩)); rotate_right; (repeat ((conv => whnf); (with_reducible refine And.intro ?_ ?_); (focus (first | with_reducible rfl | exact trivial | (exact ⟨rfl, trivial⟩) | (exact ⟨rfl, rfl, trivial⟩) | omega | (intro r hr; simp only [List.mem_singleton] at hr; subst hr; rfl)  | (simp only [in64]; omega) | assumption | (simp; done) | (simp [V.cells]; done) | (simp [in64, maxLen, limK] at *; omega) | ((show confB _ _ = true); kernel_rfl) | rfl)))); rotate_left; (focus (first | omega | fail)))
         | (with_reducible refine Or.inr ⟨[?_, ?_], _, _, _, _, tlown_fn T1 T2 (T.numR : Int) (T.num.numR : Int) (T.num.num.numR : Int) X1.a X1.b X1.c X1.d X1.e o2 a2 h2, ?_⟩)
         | (with_reducible refine Or.inr (Or.inr ⟨[?_, ?_], _, _, _, _, tlown_fn T1 T2 (T.numR : Int) (T.num.numR : Int) (T.num.num.numR : Int) X1.a X1.b X1.c X1.d X1.e o2 a2 h2, ?_⟩))
         | (with_reducible refine Br.mk (fun hb => ?_) (fun hb => ?_) <;> (try rw [hb]) <;> (try simp only [List.length_map, decide_eq_true_eq, decide_eq_false_iff_not, Bool.not_eq_true', Bool.not_eq_false', Int.ofNat_lt, Int.ofNat_le, Int.not_lt, Int.not_le, Int.toNat_natCast] at hb))
         | ((with_reducible first | refine Or.inl (And.intro ?_ ?_) | refine And.intro ?_ ?_); (focus (first | with_reducible rfl | exact trivial | (exact ⟨rfl, trivial⟩) | (exact ⟨rfl, rfl, trivial⟩) | omega | (intro r hr; simp only [List.mem_singleton] at hr; subst hr; rfl)  | ((simp only [in64, maxLen] at *; omega)) | ((simp only [List.length_map, List.length_cons, List.length_nil]; omega)) | ((simp only [List.length_append, List.length_cons, List.length_nil]; omega)) | (simp only [in64]; omega) | assumption | (simp; done) | (simp [V.cells]; done) | (simp [in64, maxLen, limK] at *; omega) | ((show confB _ _ = true); kernel_rfl) | rfl)))
         | (intro row hrow; (try simp only [Int.toNat_natCast, List.length_map, toNat_pred, toNat_succ', toNat_zero', toNat_one'] at hrow); (first | (have hsm := same_map (by assumption) hrow; subst hsm; clear hrow) | (obtain ⟨p, hp, rfl⟩ := of_map hrow; clear hrow)))))
        all_goals (try first | with_reducible assumption | ((first | show (_ : Int) ≤ _ | show (_ : Nat) ≤ _ | show (_ : Int) < _ | show ¬ (_ : Int) = _); (first | omega | (simp at *; omega) | (simp; done) | (simp [maxLen]; done))) | ((show in64 _); (simp only [in64] at *; (first | omega | (simp at *; omega) | (simp; done) | (simp [maxLen]; done)))) | ((with_reducible refine And.intro ?_ ?_) <;> (first | omega | (simp at *; omega) | (simp; done) | (simp [maxLen]; done))))
        all_goals (first
          | (with_reducible exact absurd rfl (by assumption))
          | ((conv => whnf); (refine ⟨(1 + 1, ?_, ⟨x.a, (tk.numR : Int), x.c, x.d, x.e⟩), ?_⟩); (rotate_left 1); (refine And.intro ?_ (And.intro ?_ ?_)); (focus (refine ⟨⟨[0, 1, 2], ?_⟩⟩; repeat' (first | (with_reducible rfl) | exact trivial | ((conv => whnf); (first | (with_reducible refine And.intro ?_ ?_) | (first | with_reducible rfl | ((first | refine congrArg V.str ?_ | refine congrArg (V.int _) ?_ | refine congrArg V.bool ?_ | refine congrArg V.sl ?_); (first | with_reducible rfl | omega | rfl | (simp; done))) | (first | with_reducible rfl | omega | rfl | (simp; done)) | rfl)))))); (focus (exact ⟨by omega, hk2⟩)); (focus (first | omega | (dsimp only; omega) | (simp; done) | (simp; omega) | (simp at *; omega))))
          | ((conv => whnf); (try (first | rfl | (exfalso; simp_all; done) | (exfalso; simp at *; omega))); done))

      · rw [N5.set] at hk2
        repeat' ((conv => whnf); (first
         | (with_reducible first | refine AW.seq ?_ | refine AW.region base (by kernel_rfl) ?_ | refine AW.cond ?_ | refine AW.block ?_ | refine AW.ret ?_ | refine AW.exit ?_ | refine AW.skip ?_ | refine Br.t ?_ | refine Br.f ?_)
         | (with_reducible refine Br.mkT (fun hb => (by (first | (simp at hb; done) | omega | (simp at hb; omega) | (simp only [List.length_map, decide_eq_true_eq, decide_eq_false_iff_not] at hb; omega) | fail))) (fun hb => ?_))
         | (with_reducible refine Br.mkF (fun hb => (by (first | (simp at hb; done) | omega | (simp at hb; omega) | (simp only [List.length_map, decide_eq_true_eq, decide_eq_false_iff_not] at hb; omega) | fail))) (fun hb => ?_))
         | ((with_reducible refine Or.inl ?_); (conv => whnf); (with_reducible refine And.intro LitSl.mk ?_))
         | refine Br.t ?_
         | refine Br.f ?_
         | (with_reducible refine Or.inr ⟨[?_], _, _, _, _, tlnum_fn ?_, ?_⟩)
         | (with_reducible refine Or.inr (Or.inr ⟨[?_], _, _, _, _, tlnum_fn ?_, ?_⟩))
         | (with_reducible refine Or.inr ⟨[?_], _, _, _, _, tltext_fn ?_, ?_⟩)
         | (with_reducible refine Or.inr (Or.inr ⟨[?_], _, _, _, _, tltext_fn ?_, ?_⟩))
         | (with_reducible refine Or.inr ⟨[?_], _, _, _, _, tlflag_fn ?_, ?_⟩)
         | (with_reducible refine Or.inr (Or.inr ⟨[?_], _, _, _, _, tlflag_fn ?_, ?_⟩))
         | ((with_reducible refine Or.inr ⟨[?_], _, _, _, _, tlmany_fn ?_ ?_ ?_, ?_⟩); rotate_right; (repeat ((conv => whnf); (with_reducible refine And.intro ?_ ?_); (focus (first | with_reducible rfl | exact trivial | (exact ⟨rfl, trivial⟩) | (exact ⟨rfl, rfl, trivial⟩) | omega | (intro r hr; simp only [List.mem_singleton] at hr; subst hr; rfl)  | (simp only [in64]; omega) | assumption | (simp; done) | (simp [V.cells]; done) | (simp [in64, maxLen, limK] at *; omega) | ((show confB _ _ = true); kernel_rfl) | rfl)))); rotate_left; (focus (first | omega | fail)))
         | ((with_reducible refine Or.inr (Or.inr ⟨[?_], _, _, _, _, tlmany_fn ?_ ?_ ?_, ?_⟩)); rotate_right; (repeat ((conv => whnf); (with_reducible refine And.intro ?_ ?_); (focus (first | with_reducible rfl | exact trivial | (exact ⟨rfl, trivial⟩) | (exact ⟨rfl, rfl, trivial⟩) | omega | (intro r hr; simp only [List.mem_singleton] at hr; subst hr; rfl)  | (simp only [in64]; omega) | assumption | (simp; done) | (simp [V.cells]; done) | (simp [in64, maxLen, limK] at *; omega) | ((show confB _ _ = true); kernel_rfl) | rfl)))); rotate_left; (focus (first | omega | fail)))
         | (with_reducible refine Or.inr ⟨[?_, ?_], _, _, _, _, tlown_fn T1 T2 (T.numR : Int) (T.num.numR : Int) (T.num.num.numR : Int) X1.a X1.b X1.c X1.d X1.e o2 a2 h2, ?_⟩)
         | (with_reducible refine Or.inr (Or.inr ⟨[?_, ?_], _, _, _, _, tlown_fn T1 T2 (T.numR : Int) (T.num.numR : Int) (T.num.num.numR : Int) X1.a X1.b X1.c X1.d X1.e o2 a2 h2, ?_⟩))
         | (with_reducible refine Br.mk (fun hb => ?_) (fun hb => ?_) <;> (try rw [hb]) <;> (try simp only [List.length_map, decide_eq_true_eq, decide_eq_false_iff_not, Bool.not_eq_true', Bool.not_eq_false', Int.ofNat_lt, Int.ofNat_le, Int.not_lt, Int.not_le, Int.toNat_natCast] at hb))
         | ((with_reducible first | refine Or.inl (And.intro ?_ ?_) | refine And.intro ?_ ?_); (focus (first | with_reducible rfl | exact trivial | (exact ⟨rfl, trivial⟩) | (exact ⟨rfl, rfl, trivial⟩) | omega | (intro r hr; simp only [List.mem_singleton] at hr; subst hr; rfl)  | ((simp only [in64, maxLen] at *; omega)) | ((simp only [List.length_map, List.length_cons, List.length_nil]; omega)) | ((simp only [List.length_append, List.length_cons, List.length_nil]; omega)) | (simp only [in64]; omega) | assumption | (simp; done) | (simp [V.cells]; done) | (simp [in64, maxLen, limK] at *; omega) | ((show confB _ _ = true); kernel_rfl) | rfl)))
         | (intro row hrow; (try simp only [Int.toNat_natCast, List.length_map, toNat_pred, toNat_succ', toNat_zero', toNat_one'] at hrow); (first | (have hsm := same_map (by assumption) hrow; subst hsm; clear hrow) | (obtain ⟨p, hp, rfl⟩ := of_map hrow; clear hrow)))))
        all_goals (try first | with_reducible assumption | ((first | show (_ : Int) ≤ _ | show (_ : Nat) ≤ _ | show (_ : Int) < _ | show ¬ (_ : Int) = _); (first | omega | (simp at *; omega) | (simp; done) | (simp [maxLen]; done))) | ((show in64 _); (simp only [in64] at *; (first | omega | (simp at *; omega) | (simp; done) | (simp [maxLen]; done)))) | ((with_reducible refine And.intro ?_ ?_) <;> (first | omega | (simp at *; omega) | (simp; done) | (simp [maxLen]; done))))
        all_goals (first
          | (with_reducible exact absurd rfl (by assumption))
          | ((conv => whnf); (refine ⟨(2 + 1, ?_, ⟨x.a, x.b, (tk.numR : Int), x.d, x.e⟩), ?_⟩); (rotate_left 1); (refine And.intro ?_ (And.intro ?_ ?_)); (focus (refine ⟨⟨[0, 1, 2], ?_⟩⟩; repeat' (first | (with_reducible rfl) | exact trivial | ((conv => whnf); (first | (with_reducible refine And.intro ?_ ?_) | (first | with_reducible rfl | ((first | refine congrArg V.str ?_ | refine congrArg (V.int _) ?_ | refine congrArg V.bool ?_ | refine congrArg V.sl ?_); (first | with_reducible rfl | omega | rfl | (simp; done))) | (first | with_reducible rfl | omega | rfl | (simp; done)) | rfl)))))); (focus (exact ⟨by omega, hk2⟩)); (focus (first | omega | (dsimp only; omega) | (simp; done) | (simp; omega) | (simp at *; omega))))
          | ((conv => whnf); (try (first | rfl | (exfalso; simp_all; done) | (exfalso; simp at *; omega))); done))

      · rw [N5.set] at hk2
        repeat' ((conv => whnf); (first
         | (with_reducible first | refine AW.seq ?_ | refine AW.region base (by kernel_rfl) ?_ | refine AW.cond ?_ | refine AW.block ?_ | refine AW.ret ?_ | refine AW.exit ?_ | refine AW.skip ?_ | refine Br.t ?_ | refine Br.f ?_)
         | (with_reducible refine Br.mkT (fun hb => (by (first | (simp at hb; done) | omega | (simp at hb; omega) | (simp only [List.length_map, decide_eq_true_eq, decide_eq_false_iff_not] at hb; omega) | fail))) (fun hb => ?_))
         | (with_reducible refine Br.mkF (fun hb => (by (first | (simp at hb; done) | omega | (simp at hb; omega) | (simp only [List.length_map, decide_eq_true_eq, decide_eq_false_iff_not] at hb; omega) | fail))) (fun hb => ?_))
         | ((with_reducible refine Or.inl ?_); (conv => whnf); (with_reducible refine And.intro LitSl.mk ?_))
         | refine Br.t ?_
         | refine Br.f ?_
         | (with_reducible refine Or.inr ⟨[?_], _, _, _, _, tlnum_fn ?_, ?_⟩)
         | (with_reducible refine Or.inr (Or.inr ⟨[?_], _, _, _, _, tlnum_fn ?_, ?_⟩))
         | (with_reducible refine Or.inr ⟨[?_], _, _, _, _, tltext_fn ?_, ?_⟩)
         | (with_reducible refine Or.inr (Or.inr ⟨[?_], _, _, _, _, tltext_fn ?_, ?_⟩))
         | (with_reducible refine Or.inr ⟨[?_], _, _, _, _, tlflag_fn ?_, ?_⟩)
         | (with_reducible refine Or.inr (Or.inr ⟨[?_], _, _, _, _, tlflag_fn ?_, ?_⟩))
         | ((with_reducible refine Or.inr ⟨[?_], _, _, _, _, tlmany_fn ?_ ?_ ?_, ?_⟩); rotate_right; (repeat ((conv => whnf); (with_reducible refine And.intro ?_ ?_); (focus (first | with_reducible rfl | exact trivial | (exact ⟨rfl, trivial⟩) | (exact ⟨rfl, rfl, trivial⟩) | omega | (intro r hr; simp only [List.mem_singleton] at hr; subst hr; rfl)  | (simp only [in64]; omega) | assumption | (simp; done) | (simp [V.cells]; done) | (simp [in64, maxLen, limK] at *; omega) | ((show confB _ _ = true); kernel_rfl) | rfl)))); rotate_left; (focus (first | omega | fail)))
         | ((with_reducible refine Or.inr (Or.inr ⟨[?_], _, _, _, _, tlmany_fn ?_ ?_ ?_, ?_⟩)); rotate_right; (repeat ((conv => whnf); (with_reducible refine And.intro ?_ ?_); (focus (first | with_reducible rfl | exact trivial | (exact ⟨rfl, trivial⟩) | (exact ⟨rfl, rfl, trivial⟩) | omega | (intro r hr; simp only [List.mem_singleton] at hr; subst hr; rfl)  | (simp only [in64]; omega) | assumption | (simp; done) | (simp [V.cells]; done) | (simp [in64, maxLen, limK] at *; omega) | ((show confB _ _ = true); kernel_rfl) | rfl)))); rotate_left; (focus (first | omega | fail)))
         | (with_reducible refine Or.inr ⟨[?_, ?_], _, _, _, _, tlown_fn T1 T2 (T.numR : Int) (T.num.numR : Int) (T.num.num.numR : Int) X1.a X1.b X1.c X1.d X1.e o2 a2 h2, ?_⟩)
         | (with_reducible refine Or.inr (Or.inr ⟨[?_, ?_], _, _, _, _, tlown_fn T1 T2 (T.numR : Int) (T.num.numR : Int) (T.num.num.numR : Int) X1.a X1.b X1.c X1.d X1.e o2 a2 h2, ?_⟩))
         | (with_reducible refine Br.mk (fun hb => ?_) (fun hb => ?_) <;> (try rw [hb]) <;> (try simp only [List.length_map, decide_eq_true_eq, decide_eq_false_iff_not, Bool.not_eq_true', Bool.not_eq_false', Int.ofNat_lt, Int.ofNat_le, Int.not_lt, Int.not_le, Int.toNat_natCast] at hb))
         | ((with_reducible first | refine Or.inl (And.intro ?_ ?_) | refine And.intro ?_ ?_); (focus (first | with_reducible rfl | exact trivial | (exact ⟨rfl, trivial⟩) | (exact ⟨rfl, rfl, trivial⟩) | omega | (intro r hr; simp only [List.mem_singleton] at hr; subst hr; rfl)  | ((simp only [in64, maxLen] at *; omega)) | ((simp only [List.length_map, List.length_cons, List.length_nil]; omega)) | ((simp only [List.length_append, List.length_cons, List.length_nil]; omega)) | (simp only [in64]; omega) | assumption | (simp; done) | (simp [V.cells]; done) | (simp [in64, maxLen, limK] at *; omega) | ((show confB _ _ = true); kernel_rfl) | rfl)))
         | (intro row hrow; (try simp only [Int.toNat_natCast, List.length_map, toNat_pred, toNat_succ', toNat_zero', toNat_one'] at hrow); (first | (have hsm := same_map (by assumption) hrow; subst hsm; clear hrow) | (obtain ⟨p, hp, rfl⟩ := of_map hrow; clear hrow)))))
        all_goals (try first | with_reducible assumption | ((first | show (_ : Int) ≤ _ | show (_ : Nat) ≤ _ | show (_ : Int) < _ | show ¬ (_ : Int) = _); (first | omega | (simp at *; omega) | (simp; done) | (simp [maxLen]; done))) | ((show in64 _); (simp only [in64] at *; (first | omega | (simp at *; omega) | (simp; done) | (simp [maxLen]; done)))) | ((with_reducible refine And.intro ?_ ?_) <;> (first | omega | (simp at *; omega) | (simp; done) | (simp [maxLen]; done))))
        all_goals (first
          | (with_reducible exact absurd rfl (by assumption))
          | ((conv => whnf); (refine ⟨(3 + 1, ?_, ⟨x.a, x.b, x.c, (tk.numR : Int), x.e⟩), ?_⟩); (rotate_left 1); (refine And.intro ?_ (And.intro ?_ ?_)); (focus (refine ⟨⟨[0, 1, 2], ?_⟩⟩; repeat' (first | (with_reducible rfl) | exact trivial | ((conv => whnf); (first | (with_reducible refine And.intro ?_ ?_) | (first | with_reducible rfl | ((first | refine congrArg V.str ?_ | refine congrArg (V.int _) ?_ | refine congrArg V.bool ?_ | refine congrArg V.sl ?_); (first | with_reducible rfl | omega | rfl | (simp; done))) | (first | with_reducible rfl | omega | rfl | (simp; done)) | rfl)))))); (focus (exact ⟨by omega, hk2⟩)); (focus (first | omega | (dsimp only; omega) | (simp; done) | (simp; omega) | (simp at *; omega))))
          | ((conv => whnf); (try (first | rfl | (exfalso; simp_all; done) | (exfalso; simp at *; omega))); done))

      · rw [N5.set] at hk2
        repeat' ((conv => whnf); (first
         | (with_reducible first | refine AW.seq ?_ | refine AW.region base (by kernel_rfl) ?_ | refine AW.cond ?_ | refine AW.block ?_ | refine AW.ret ?_ | refine AW.exit ?_ | refine AW.skip ?_ | refine Br.t ?_ | refine Br.f ?_)
         | (with_reducible refine Br.mkT (fun hb => (by (first | (simp at hb; done) | omega | (simp at hb; omega) | (simp only [List.length_map, decide_eq_true_eq, decide_eq_false_iff_not] at hb; omega) | fail))) (fun hb => ?_))
         | (with_reducible refine Br.mkF (fun hb => (by (first | (simp at hb; done) | omega | (simp at hb; omega) | (simp only [List.length_map, decide_eq_true_eq, decide_eq_false_iff_not] at hb; omega) | fail))) (fun hb => ?_))
         | ((with_reducible refine Or.inl ?_); (conv => whnf); (with_reducible refine And.intro LitSl.mk ?_))
         | refine Br.t ?_
         | refine Br.f ?_
         | (with_reducible refine Or.inr ⟨[?_], _, _, _, _, tlnum_fn ?_, ?_⟩)
         | (with_reducible refine Or.inr (Or.inr ⟨[?_], _, _, _, _, tlnum_fn ?_, ?_⟩))
         | (with_reducible refine Or.inr ⟨[?_], _, _, _, _, tltext_fn ?_, ?_⟩)
         | (with_reducible refine Or.inr (Or.inr ⟨[?_], _, _, _, _, tltext_fn ?_, ?_⟩))
         | (with_reducible refine Or.inr ⟨[?_], _, _, _, _, tlflag_fn ?_, ?_⟩)
         | (with_reducible refine Or.inr (Or.inr ⟨[?_], _, _, _, _, tlflag_fn ?_, ?_⟩))
         | ((with_reducible refine Or.inr ⟨[?_], _, _, _, _, tlmany_fn ?_ ?_ ?_, ?_⟩); rotate_right; (repeat ((conv => whnf); (with_reducible refine And.intro ?_ ?_); (focus (first | with_reducible rfl | exact trivial | (exact ⟨rfl, trivial⟩) | (exact ⟨rfl, rfl, trivial⟩) | omega | (intro r hr; simp only [List.mem_singleton] at hr; subst hr; rfl)  | (simp only [in64]; omega) | assumption | (simp; done) | (simp [V.cells]; done) | (simp [in64, maxLen, limK] at *; omega) | ((show confB _ _ = true); kernel_rfl) | rfl)))); rotate_left; (focus (first | omega | fail)))
         | ((with_reducible refine Or.inr (Or.inr ⟨[?_], _, _, _, _, tlmany_fn ?_ ?_ ?_, ?_⟩)); rotate_right; (repeat ((conv => whnf); (with_reducible refine And.intro ?_ ?_); (focus (first | with_reducible rfl | exact trivial | (exact ⟨rfl, trivial⟩) | (exact ⟨rfl, rfl, trivial⟩) | omega | (intro r hr; simp only [List.mem_singleton] at hr; subst hr; rfl)  | (simp only [in64]; omega) | assumption | (simp; done) | (simp [V.cells]; done) | (simp [in64, maxLen, limK] at *; omega) | ((show confB _ _ = true); kernel_rfl) | rfl)))); rotate_left; (focus (first | omega | fail)))
         | (with_reducible refine Or.inr ⟨[?_, ?_], _, _, _, _, tlown_fn T1 T2 (T.numR : Int) (T.num.numR : Int) (T.num.num.numR : Int) X1.a X1.b X1.c X1.d X1.e o2 a2 h2, ?_⟩)
         | (with_reducible refine Or.inr (Or.inr ⟨[?_, ?_], _, _, _, _, tlown_fn T1 T2 (T.numR : Int) (T.num.numR : Int) (T.num.num.numR : Int) X1.a X1.b X1.c X1.d X1.e o2 a2 h2, ?_⟩))
         | (with_reducible refine Br.mk (fun hb => ?_) (fun hb => ?_) <;> (try rw [hb]) <;> (try simp only [List.length_map, decide_eq_true_eq, decide_eq_false_iff_not, Bool.not_eq_true', Bool.not_eq_false', Int.ofNat_lt, Int.ofNat_le, Int.not_lt, Int.not_le, Int.toNat_natCast] at hb))
         | ((with_reducible first | refine Or.inl (And.intro ?_ ?_) | refine And.intro ?_ ?_); (focus (first | with_reducible rfl | exact trivial | (exact ⟨rfl, trivial⟩) | (exact ⟨rfl, rfl, trivial⟩) | omega | (intro r hr; simp only [List.mem_singleton] at hr; subst hr; rfl)  | ((simp only [in64, maxLen] at *; omega)) | ((simp only [List.length_map, List.length_cons, List.length_nil]; omega)) | ((simp only [List.length_append, List.length_cons, List.length_nil]; omega)) | (simp only [in64]; omega) | assumption | (simp; done) | (simp [V.cells]; done) | (simp [in64, maxLen, limK] at *; omega) | ((show confB _ _ = true); kernel_rfl) | rfl)))
         | (intro row hrow; (try simp only [Int.toNat_natCast, List.length_map, toNat_pred, toNat_succ', toNat_zero', toNat_one'] at hrow); (first | (have hsm := same_map (by assumption) hrow; subst hsm; clear hrow) | (obtain ⟨p, hp, rfl⟩ := of_map hrow; clear hrow)))))
        all_goals (try first | with_reducible assumption | ((first | show (_ : Int) ≤ _ | show (_ : Nat) ≤ _ | show (_ : Int) < _ | show ¬ (_ : Int) = _); (first | omega | (simp at *; omega) | (simp; done) | (simp [maxLen]; done))) | ((show in64 _); (simp only [in64] at *; (first | omega | (simp at *; omega) | (simp; done) | (simp [maxLen]; done)))) | ((with_reducible refine And.intro ?_ ?_) <;> (first | omega | (simp at *; omega) | (simp; done) | (simp [maxLen]; done))))
        all_goals (first
          | (with_reducible exact absurd rfl (by assumption))
          | ((conv => whnf); (refine ⟨(4 + 1, ?_, ⟨x.a, x.b, x.c, x.d, (tk.numR : Int)⟩), ?_⟩); (rotate_left 1); (refine And.intro ?_ (And.intro ?_ ?_)); (focus (refine ⟨⟨[0, 1, 2], ?_⟩⟩; repeat' (first | (with_reducible rfl) | exact trivial | ((conv => whnf); (first | (with_reducible refine And.intro ?_ ?_) | (first | with_reducible rfl | ((first | refine congrArg V.str ?_ | refine congrArg (V.int _) ?_ | refine congrArg V.bool ?_ | refine congrArg V.sl ?_); (first | with_reducible rfl | omega | rfl | (simp; done))) | (first | with_reducible rfl | omega | rfl | (simp; done)) | rfl)))))); (focus (exact ⟨by omega, hk2⟩)); (focus (first | omega | (dsimp only; omega) | (simp; done) | (simp; omega) | (simp at *; omega))))
          | ((conv => whnf); (try (first | rfl | (exfalso; simp_all; done) | (exfalso; simp at *; omega))); done))

  · refine AW.adoptC 2 20 999999999 (el := 69) rfl rfl rfl (rows_of 50 rfl) ?_
    refine AW.loop (fun (⟨i, tk, l⟩ : Nat × TK × List Sn) => i ≤ (TK.manyR (T2.text.text) 60 10) ∧ readSn ((TK.manyR (T2.text.text) 60 10) - i) tk l = (T3, L3) ∧ l.length = i) (fun (⟨i, tk, l⟩ : Nat × TK × List Sn) => ⟨[(0, .ptr 0 0), (2, .ptr 1 0), (3, .ptr 2 0), (32, .int .i64 ((TK.manyR (T2.text.text) 60 10) : Int)), (33, .int .i64 (i : Int))], [.cells (encTK tk), .cells [.int .i64 0, .int .i64 0, .int .i64 0, .int .i64 0, .int .i64 0, .int .i64 0, .int .i64 0, .int .i64 0, .int .i64 0, .str [], .str [], .str [], .int .i64 0, .nils, .int .i64 0, .str [], .int .i64 0, .nils, .str [], .str [], .nils, .nils, .nils, .str []], .cells [.int .i64 (T.numR : Int), .int .i64 (T.num.numR : Int), .int .i64 (T.num.num.numR : Int), .int .i64 X1.a, .int .i64 X1.b, .int .i64 X1.c, .int .i64 X1.d, .int .i64 X1.e, .int .i64 o2.kind, .str o2.key, .str o2.to, .str o2.val, .int .i64 o2.ver, .sl (o2.ws.map encWr), .int .i64 a2.code, .str a2.val, .int .i64 a2.ver, .sl (a2.rows.map encRw), .str T2.textR, .str T2.text.textR, .own 3, .nils, .nils, .str []], .rows 69 (l.map encN)]⟩) (fun (⟨i, tk, l⟩ : Nat × TK × List Sn) => (TK.manyR (T2.text.text) 60 10) - i) (0, (T2.text.text).many 60 10, []) ?_ ?_ ?_
    · exact ⟨Nat.zero_le _, h3, rfl⟩
    · (refine ⟨⟨[0, 1, 2, 999999999], ?_⟩⟩; repeat' (first | (with_reducible rfl) | exact trivial | ((conv => whnf); (first | (with_reducible refine And.intro ?_ ?_) | (first | with_reducible rfl | ((first | refine congrArg V.str ?_ | refine congrArg (V.int _) ?_ | refine congrArg V.bool ?_ | refine congrArg V.sl ?_); (first | with_reducible rfl | omega | rfl | (simp; done))) | (first | with_reducible rfl | omega | rfl | (simp; done)) | rfl)))))
    · rintro ⟨i, tk, l⟩ hk
      obtain ⟨hk1, hk2, hk3⟩ := hk
      rcases (by omega : i = (TK.manyR (T2.text.text) 60 10) ∨ i < (TK.manyR (T2.text.text) 60 10)) with hi | hi
      · subst hi
        rw [Nat.sub_self, readSn] at hk2
        obtain ⟨rfl, rfl⟩ := Prod.mk.inj hk2
        repeat' ((conv => whnf); (first
         | (with_reducible first | refine AW.seq ?_ | refine AW.region base (by kernel_rfl) ?_ | refine AW.cond ?_ | refine AW.block ?_ | refine AW.ret ?_ | refine AW.exit ?_ | refine AW.skip ?_ | refine Br.t ?_ | refine Br.f ?_)
         | (with_reducible refine Br.mkT (fun hb => (by (first | (simp at hb; done) | omega | (simp at hb; omega) | (simp only [List.length_map, decide_eq_true_eq, decide_eq_false_iff_not] at hb; omega) | fail))) (fun hb => ?_))
         | (with_reducible refine Br.mkF (fun hb => (by (first | (simp at hb; done) | omega | (simp at hb; omega) | (simp only [List.length_map, decide_eq_true_eq, decide_eq_false_iff_not] at hb; omega) | fail))) (fun hb => ?_))
         | ((with_reducible refine Or.inl ?_); (conv => whnf); (with_reducible refine And.intro LitSl.mk ?_))
         | refine Br.t ?_
         | refine Br.f ?_
         | (with_reducible refine Or.inr ⟨[?_], _, _, _, _, tlnum_fn ?_, ?_⟩)
         | (with_reducible refine Or.inr (Or.inr ⟨[?_], _, _, _, _, tlnum_fn ?_, ?_⟩))
         | (with_reducible refine Or.inr ⟨[?_], _, _, _, _, tltext_fn ?_, ?_⟩)
         | (with_reducible refine Or.inr (Or.inr ⟨[?_], _, _, _, _, tltext_fn ?_, ?_⟩))
         | (with_reducible refine Or.inr ⟨[?_], _, _, _, _, tlflag_fn ?_, ?_⟩)
         | (with_reducible refine Or.inr (Or.inr ⟨[?_], _, _, _, _, tlflag_fn ?_, ?_⟩))
         | ((with_reducible refine Or.inr ⟨[?_], _, _, _, _, tlmany_fn ?_ ?_ ?_, ?_⟩); rotate_right; (repeat ((conv => whnf); (with_reducible refine And.intro ?_ ?_); (focus (first | with_reducible rfl | exact trivial | (exact ⟨rfl, trivial⟩) | (exact ⟨rfl, rfl, trivial⟩) | omega | (intro r hr; simp only [List.mem_singleton] at hr; subst hr; rfl)  | (simp only [in64]; omega) | assumption | (simp; done) | (simp [V.cells]; done) | (simp [in64, maxLen, limK] at *; omega) | ((show confB _ _ = true); kernel_rfl) | rfl)))); rotate_left; (focus (first | omega | fail)))
         | ((with_reducible refine Or.inr (Or.inr ⟨[?_], _, _, _, _, tlmany_fn ?_ ?_ ?_, ?_⟩)); rotate_right; (repeat ((conv => whnf); (with_reducible refine And.intro ?_ ?_); (focus (first | with_reducible rfl | exact trivial | (exact ⟨rfl, trivial⟩) | (exact ⟨rfl, rfl, trivial⟩) | omega | (intro r hr; simp only [List.mem_singleton] at hr; subst hr; rfl)  | (simp only [in64]; omega) | assumption | (simp; done) | (simp [V.cells]; done) | (simp [in64, maxLen, limK] at *; omega) | ((show confB _ _ = true); kernel_rfl) | rfl)))); rotate_left; (focus (first | omega | fail)))
         | (with_reducible refine Or.inr ⟨[?_, ?_], _, _, _, _, tlown_fn T1 T2 (T.numR : Int) (T.num.numR : Int) (T.num.num.numR : Int) X1.a X1.b X1.c X1.d X1.e o2 a2 h2, ?_⟩)
         | (with_reducible refine Or.inr (Or.inr ⟨[?_, ?_], _, _, _, _, tlown_fn T1 T2 (T.numR : Int) (T.num.numR : Int) (T.num.num.numR : Int) X1.a X1.b X1.c X1.d X1.e o2 a2 h2, ?_⟩))
         | (with_reducible refine Br.mk (fun hb => ?_) (fun hb => ?_) <;> (try rw [hb]) <;> (try simp only [List.length_map, decide_eq_true_eq, decide_eq_false_iff_not, Bool.not_eq_true', Bool.not_eq_false', Int.ofNat_lt, Int.ofNat_le, Int.not_lt, Int.not_le, Int.toNat_natCast] at hb))
         | ((with_reducible first | refine Or.inl (And.intro ?_ ?_) | refine And.intro ?_ ?_); (focus (first | with_reducible rfl | exact trivial | (exact ⟨rfl, trivial⟩) | (exact ⟨rfl, rfl, trivial⟩) | omega | (intro r hr; simp only [List.mem_singleton] at hr; subst hr; rfl)  | ((simp only [in64, maxLen] at *; omega)) | ((simp only [List.length_map, List.length_cons, List.length_nil]; omega)) | ((simp only [List.length_append, List.length_cons, List.length_nil]; omega)) | (simp only [in64]; omega) | assumption | (simp; done) | (simp [V.cells]; done) | (simp [in64, maxLen, limK] at *; omega) | ((show confB _ _ = true); kernel_rfl) | rfl)))
         | (intro row hrow; (try simp only [Int.toNat_natCast, List.length_map, toNat_pred, toNat_succ', toNat_zero', toNat_one'] at hrow); (first | (have hsm := same_map (by assumption) hrow; subst hsm; clear hrow) | (obtain ⟨p, hp, rfl⟩ := of_map hrow; clear hrow)))))
        all_goals ((conv => whnf); (refine ⟨(), ?_, trivial⟩; (refine ⟨⟨[0, 1, 2, 3], ?_⟩⟩; repeat' (first | (with_reducible rfl) | exact trivial | ((conv => whnf); (first | (with_reducible refine And.intro ?_ ?_) | (first | with_reducible rfl | ((first | refine congrArg V.str ?_ | refine congrArg (V.int _) ?_ | refine congrArg V.bool ?_ | refine congrArg V.sl ?_); (first | with_reducible rfl | omega | rfl | (simp; done))) | (first | with_reducible rfl | omega | rfl | (simp; done)) | rfl)))))))
      rw [show (TK.manyR (T2.text.text) 60 10) - i = ((TK.manyR (T2.text.text) 60 10) - (i + 1)) + 1 by omega, readSn] at hk2
      repeat' ((conv => whnf); (first
       | (with_reducible first | refine AW.seq ?_ | refine AW.region base (by kernel_rfl) ?_ | refine AW.cond ?_ | refine AW.block ?_ | refine AW.ret ?_ | refine AW.exit ?_ | refine AW.skip ?_ | refine Br.t ?_ | refine Br.f ?_)
       | (with_reducible refine Br.mkT (fun hb => (by (first | (simp at hb; done) | omega | (simp at hb; omega) | (simp only [List.length_map, decide_eq_true_eq, decide_eq_false_iff_not] at hb; omega) | fail))) (fun hb => ?_))
       | (with_reducible refine Br.mkF (fun hb => (by (first | (simp at hb; done) | omega | (simp at hb; omega) | (simp only [List.length_map, decide_eq_true_eq, decide_eq_false_iff_not] at hb; omega) | fail))) (fun hb => ?_))
       | ((with_reducible refine Or.inl ?_); (conv => whnf); (with_reducible refine And.intro LitSl.mk ?_))
       | refine Br.t ?_
       | refine Br.f ?_
       | (with_reducible refine Or.inr ⟨[?_], _, _, _, _, tlnum_fn ?_, ?_⟩)
       | (with_reducible refine Or.inr (Or.inr ⟨[?_], _, _, _, _, tlnum_fn ?_, ?_⟩))
       | (with_reducible refine Or.inr ⟨[?_], _, _, _, _, tltext_fn ?_, ?_⟩)
       | (with_reducible refine Or.inr (Or.inr ⟨[?_], _, _, _, _, tltext_fn ?_, ?_⟩))
       | (with_reducible refine Or.inr ⟨[?_], _, _, _, _, tlflag_fn ?_, ?_⟩)
       | (with_reducible refine Or.inr (Or.inr ⟨[?_], _, _, _, _, tlflag_fn ?_, ?_⟩))
       | ((with_reducible refine Or.inr ⟨[?_], _, _, _, _, tlmany_fn ?_ ?_ ?_, ?_⟩); rotate_right; (repeat ((conv => whnf); (with_reducible refine And.intro ?_ ?_); (focus (first | with_reducible rfl | exact trivial | (exact ⟨rfl, trivial⟩) | (exact ⟨rfl, rfl, trivial⟩) | omega | (intro r hr; simp only [List.mem_singleton] at hr; subst hr; rfl)  | (simp only [in64]; omega) | assumption | (simp; done) | (simp [V.cells]; done) | (simp [in64, maxLen, limK] at *; omega) | ((show confB _ _ = true); kernel_rfl) | rfl)))); rotate_left; (focus (first | omega | fail)))
       | ((with_reducible refine Or.inr (Or.inr ⟨[?_], _, _, _, _, tlmany_fn ?_ ?_ ?_, ?_⟩)); rotate_right; (repeat ((conv => whnf); (with_reducible refine And.intro ?_ ?_); (focus (first | with_reducible rfl | exact trivial | (exact ⟨rfl, trivial⟩) | (exact ⟨rfl, rfl, trivial⟩) | omega | (intro r hr; simp only [List.mem_singleton] at hr; subst hr; rfl)  | (simp only [in64]; omega) | assumption | (simp; done) | (simp [V.cells]; done) | (simp [in64, maxLen, limK] at *; omega) | ((show confB _ _ = true); kernel_rfl) | rfl)))); rotate_left; (focus (first | omega | fail)))
       | (with_reducible refine Or.inr ⟨[?_, ?_], _, _, _, _, tlown_fn T1 T2 (T.numR : Int) (T.num.numR : Int) (T.num.num.numR : Int) X1.a X1.b X1.c X1.d X1.e o2 a2 h2, ?_⟩)
       | (with_reducible refine Or.inr (Or.inr ⟨[?_, ?_], _, _, _, _, tlown_fn T1 T2 (T.numR : Int) (T.num.numR : Int) (T.num.num.numR : Int) X1.a X1.b X1.c X1.d X1.e o2 a2 h2, ?_⟩))
       | (with_reducible refine Br.mk (fun hb => ?_) (fun hb => ?_) <;> (try rw [hb]) <;> (try simp only [List.length_map, decide_eq_true_eq, decide_eq_false_iff_not, Bool.not_eq_true', Bool.not_eq_false', Int.ofNat_lt, Int.ofNat_le, Int.not_lt, Int.not_le, Int.toNat_natCast] at hb))
       | ((with_reducible first | refine Or.inl (And.intro ?_ ?_) | refine And.intro ?_ ?_); (focus (first | with_reducible rfl | exact trivial | (exact ⟨rfl, trivial⟩) | (exact ⟨rfl, rfl, trivial⟩) | omega | (intro r hr; simp only [List.mem_singleton] at hr; subst hr; rfl)  | ((simp only [in64, maxLen] at *; omega)) | ((simp only [List.length_map, List.length_cons, List.length_nil]; omega)) | ((simp only [List.length_append, List.length_cons, List.length_nil]; omega)) | (simp only [in64]; omega) | assumption | (simp; done) | (simp [V.cells]; done) | (simp [in64, maxLen, limK] at *; omega) | ((show confB _ _ = true); kernel_rfl) | rfl)))
       | (intro row hrow; (try simp only [Int.toNat_natCast, List.length_map, toNat_pred, toNat_succ', toNat_zero', toNat_one'] at hrow); (first | (have hsm := same_map (by assumption) hrow; subst hsm; clear hrow) | (obtain ⟨p, hp, rfl⟩ := of_map hrow; clear hrow)))))
      all_goals (try first | with_reducible assumption | ((first | show (_ : Int) ≤ _ | show (_ : Nat) ≤ _ | show (_ : Int) < _ | show ¬ (_ : Int) = _); (first | omega | (simp at *; omega) | (simp; done) | (simp [maxLen]; done))) | ((show in64 _); (simp only [in64] at *; (first | omega | (simp at *; omega) | (simp; done) | (simp [maxLen]; done)))) | ((with_reducible refine And.intro ?_ ?_) <;> (first | omega | (simp at *; omega) | (simp; done) | (simp [maxLen]; done))))
      all_goals (first
        | (with_reducible exact absurd rfl (by assumption))
        | ((conv => whnf); (refine ⟨(i + 1, ?_, l ++ [⟨tk.textR, (tk.text.numR : Int)⟩]), ?_⟩); (rotate_left 1); (refine And.intro ?_ (And.intro ?_ ?_)); (focus (refine ⟨⟨[0, 1, 2, ?_], ?_⟩⟩; rotate_left 1; repeat' (first | (with_reducible rfl) | exact trivial | ((conv => whnf); (first | (with_reducible refine And.intro ?_ ?_) | (first | with_reducible rfl | ((first | refine congrArg V.str ?_ | refine congrArg (V.int _) ?_ | refine congrArg V.bool ?_ | refine congrArg V.sl ?_); (first | with_reducible rfl | omega | (rw [List.map_append]; rfl) | rfl | (simp; done))) | (first | with_reducible rfl | omega | (rw [List.map_append]; rfl) | rfl | (simp; done)) | rfl)))))); (focus (exact ⟨by omega, hk2, by simp; omega⟩)); (focus (first | omega | (dsimp only; omega) | (simp; done) | (simp; omega) | (simp at *; omega))))
        | ((conv => whnf); (try (first | rfl | (exfalso; simp_all; done) | (exfalso; simp at *; omega))); done))

  · refine AW.adoptC 2 21 999999999 (el := 65) rfl rfl rfl (rows_of 25 rfl) ?_
    refine AW.loop (fun (⟨i, tk, l⟩ : Nat × TK × List Evt) => i ≤ (TK.manyR T3 8 10) ∧ readEv ((TK.manyR T3 8 10) - i) tk l = (T4, L4) ∧ l.length = i) (fun (⟨i, tk, l⟩ : Nat × TK × List Evt) => ⟨[(0, .ptr 0 0), (2, .ptr 1 0), (3, .ptr 2 0), (47, .int .i64 ((TK.manyR T3 8 10) : Int)), (48, .int .i64 (i : Int))], [.cells (encTK tk), .cells [.int .i64 0, .int .i64 0, .int .i64 0, .int .i64 0, .int .i64 0, .int .i64 0, .int .i64 0, .int .i64 0, .int .i64 0, .str [], .str [], .str [], .int .i64 0, .nils, .int .i64 0, .str [], .int .i64 0, .nils, .str [], .str [], .nils, .nils, .nils, .str []], .cells [.int .i64 (T.numR : Int), .int .i64 (T.num.numR : Int), .int .i64 (T.num.num.numR : Int), .int .i64 X1.a, .int .i64 X1.b, .int .i64 X1.c, .int .i64 X1.d, .int .i64 X1.e, .int .i64 o2.kind, .str o2.key, .str o2.to, .str o2.val, .int .i64 o2.ver, .sl (o2.ws.map encWr), .int .i64 a2.code, .str a2.val, .int .i64 a2.ver, .sl (a2.rows.map encRw), .str T2.textR, .str T2.text.textR, .own 3, .own 4, .nils, .str []], .rows 69 (L3.map encN), .rows 65 (l.map encE)]⟩) (fun (⟨i, tk, l⟩ : Nat × TK × List Evt) => (TK.manyR T3 8 10) - i) (0, TK.many T3 8 10, []) ?_ ?_ ?_
    · exact ⟨Nat.zero_le _, h4, rfl⟩
    · (refine ⟨⟨[0, 1, 2, 3, 999999999], ?_⟩⟩; repeat' (first | (with_reducible rfl) | exact trivial | ((conv => whnf); (first | (with_reducible refine And.intro ?_ ?_) | (first | with_reducible rfl | ((first | refine congrArg V.str ?_ | refine congrArg (V.int _) ?_ | refine congrArg V.bool ?_ | refine congrArg V.sl ?_); (first | with_reducible rfl | omega | rfl | (simp; done))) | (first | with_reducible rfl | omega | rfl | (simp; done)) | rfl)))))
    · rintro ⟨i, tk, l⟩ hk
      obtain ⟨hk1, hk2, hk3⟩ := hk
      rcases (by omega : i = (TK.manyR T3 8 10) ∨ i < (TK.manyR T3 8 10)) with hi | hi
      · subst hi
        rw [Nat.sub_self, readEv] at hk2
        obtain ⟨rfl, rfl⟩ := Prod.mk.inj hk2
        repeat' ((conv => whnf); (first
         | (with_reducible first | refine AW.seq ?_ | refine AW.region base (by kernel_rfl) ?_ | refine AW.cond ?_ | refine AW.block ?_ | refine AW.ret ?_ | refine AW.exit ?_ | refine AW.skip ?_ | refine Br.t ?_ | refine Br.f ?_)
         | (with_reducible refine Br.mkT (fun hb => (by (first | (simp at hb; done) | omega | (simp at hb; omega) | (simp only [List.length_map, decide_eq_true_eq, decide_eq_false_iff_not] at hb; omega) | fail))) (fun hb => ?_))
         | (with_reducible refine Br.mkF (fun hb => (by (first | (simp at hb; done) | omega | (simp at hb; omega) | (simp only [List.length_map, decide_eq_true_eq, decide_eq_false_iff_not] at hb; omega) | fail))) (fun hb => ?_))
         | ((with_reducible refine Or.inl ?_); (conv => whnf); (with_reducible refine And.intro LitSl.mk ?_))
         | refine Br.t ?_
         | refine Br.f ?_
         | (with_reducible refine Or.inr ⟨[?_], _, _, _, _, tlnum_fn ?_, ?_⟩)
         | (with_reducible refine Or.inr (Or.inr ⟨[?_], _, _, _, _, tlnum_fn ?_, ?_⟩))
         | (with_reducible refine Or.inr ⟨[?_], _, _, _, _, tltext_fn ?_, ?_⟩)
         | (with_reducible refine Or.inr (Or.inr ⟨[?_], _, _, _, _, tltext_fn ?_, ?_⟩))
         | (with_reducible refine Or.inr ⟨[?_], _, _, _, _, tlflag_fn ?_, ?_⟩)
         | (with_reducible refine Or.inr (Or.inr ⟨[?_], _, _, _, _, tlflag_fn ?_, ?_⟩))
         | ((with_reducible refine Or.inr ⟨[?_], _, _, _, _, tlmany_fn ?_ ?_ ?_, ?_⟩); rotate_right; (repeat ((conv => whnf); (with_reducible refine And.intro ?_ ?_); (focus (first | with_reducible rfl | exact trivial | (exact ⟨rfl, trivial⟩) | (exact ⟨rfl, rfl, trivial⟩) | omega | (intro r hr; simp only [List.mem_singleton] at hr; subst hr; rfl)  | (simp only [in64]; omega) | assumption | (simp; done) | (simp [V.cells]; done) | (simp [in64, maxLen, limK] at *; omega) | ((show confB _ _ = true); kernel_rfl) | rfl)))); rotate_left; (focus (first | omega | fail)))
         | ((with_reducible refine Or.inr (Or.inr ⟨[?_], _, _, _, _, tlmany_fn ?_ ?_ ?_, ?_⟩)); rotate_right; (repeat ((conv => whnf); (with_reducible refine And.intro ?_ ?_); (focus (first | with_reducible rfl | exact trivial | (exact ⟨rfl, trivial⟩) | (exact ⟨rfl, rfl, trivial⟩) | omega | (intro r hr; simp only [List.mem_singleton] at hr; subst hr; rfl)  | (simp only [in64]; omega) | assumption | (simp; done) | (simp [V.cells]; done) | (simp [in64, maxLen, limK] at *; omega) | ((show confB _ _ = true); kernel_rfl) | rfl)))); rotate_left; (focus (first | omega | fail)))
         | (with_reducible refine Or.inr ⟨[?_, ?_], _, _, _, _, tlown_fn T1 T2 (T.numR : Int) (T.num.numR : Int) (T.num.num.numR : Int) X1.a X1.b X1.c X1.d X1.e o2 a2 h2, ?_⟩)
         | (with_reducible refine Or.inr (Or.inr ⟨[?_, ?_], _, _, _, _, tlown_fn T1 T2 (T.numR : Int) (T.num.numR : Int) (T.num.num.numR : Int) X1.a X1.b X1.c X1.d X1.e o2 a2 h2, ?_⟩))
         | (with_reducible refine Br.mk (fun hb => ?_) (fun hb => ?_) <;> (try rw [hb]) <;> (try simp only [List.length_map, decide_eq_true_eq, decide_eq_false_iff_not, Bool.not_eq_true', Bool.not_eq_false', Int.ofNat_lt, Int.ofNat_le, Int.not_lt, Int.not_le, Int.toNat_natCast] at hb))
         | ((with_reducible first | refine Or.inl (And.intro ?_ ?_) | refine And.intro ?_ ?_); (focus (first | with_reducible rfl | exact trivial | (exact ⟨rfl, trivial⟩) | (exact ⟨rfl, rfl, trivial⟩) | omega | (intro r hr; simp only [List.mem_singleton] at hr; subst hr; rfl)  | ((simp only [in64, maxLen] at *; omega)) | ((simp only [List.length_map, List.length_cons, List.length_nil]; omega)) | ((simp only [List.length_append, List.length_cons, List.length_nil]; omega)) | (simp only [in64]; omega) | assumption | (simp; done) | (simp [V.cells]; done) | (simp [in64, maxLen, limK] at *; omega) | ((show confB _ _ = true); kernel_rfl) | rfl)))
         | (intro row hrow; (try simp only [Int.toNat_natCast, List.length_map, toNat_pred, toNat_succ', toNat_zero', toNat_one'] at hrow); (first | (have hsm := same_map (by assumption) hrow; subst hsm; clear hrow) | (obtain ⟨p, hp, rfl⟩ := of_map hrow; clear hrow)))))
        all_goals ((conv => whnf); (refine ⟨(), ?_, trivial⟩; (refine ⟨⟨[0, 1, 2, 3, 4], ?_⟩⟩; repeat' (first | (with_reducible rfl) | exact trivial | ((conv => whnf); (first | (with_reducible refine And.intro ?_ ?_) | (first | with_reducible rfl | ((first | refine congrArg V.str ?_ | refine congrArg (V.int _) ?_ | refine congrArg V.bool ?_ | refine congrArg V.sl ?_); (first | with_reducible rfl | omega | rfl | (simp; done))) | (first | with_reducible rfl | omega | rfl | (simp; done)) | rfl)))))))
      rw [show (TK.manyR T3 8 10) - i = ((TK.manyR T3 8 10) - (i + 1)) + 1 by omega, readEv] at hk2
      repeat' ((conv => whnf); (first
       | (with_reducible first | refine AW.seq ?_ | refine AW.region base (by kernel_rfl) ?_ | refine AW.cond ?_ | refine AW.block ?_ | refine AW.ret ?_ | refine AW.exit ?_ | refine AW.skip ?_ | refine Br.t ?_ | refine Br.f ?_)
       | (with_reducible refine Br.mkT (fun hb => (by (first | (simp at hb; done) | omega | (simp at hb; omega) | (simp only [List.length_map, decide_eq_true_eq, decide_eq_false_iff_not] at hb; omega) | fail))) (fun hb => ?_))
       | (with_reducible refine Br.mkF (fun hb => (by (first | (simp at hb; done) | omega | (simp at hb; omega) | (simp only [List.length_map, decide_eq_true_eq, decide_eq_false_iff_not] at hb; omega) | fail))) (fun hb => ?_))
       | ((with_reducible refine Or.inl ?_); (conv => whnf); (with_reducible refine And.intro LitSl.mk ?_))
       | refine Br.t ?_
       | refine Br.f ?_
       | (with_reducible refine Or.inr ⟨[?_], _, _, _, _, tlnum_fn ?_, ?_⟩)
       | (with_reducible refine Or.inr (Or.inr ⟨[?_], _, _, _, _, tlnum_fn ?_, ?_⟩))
       | (with_reducible refine Or.inr ⟨[?_], _, _, _, _, tltext_fn ?_, ?_⟩)
       | (with_reducible refine Or.inr (Or.inr ⟨[?_], _, _, _, _, tltext_fn ?_, ?_⟩))
       | (with_reducible refine Or.inr ⟨[?_], _, _, _, _, tlflag_fn ?_, ?_⟩)
       | (with_reducible refine Or.inr (Or.inr ⟨[?_], _, _, _, _, tlflag_fn ?_, ?_⟩))
       | ((with_reducible refine Or.inr ⟨[?_], _, _, _, _, tlmany_fn ?_ ?_ ?_, ?_⟩); rotate_right; (repeat ((conv => whnf); (with_reducible refine And.intro ?_ ?_); (focus (first | with_reducible rfl | exact trivial | (exact ⟨rfl, trivial⟩) | (exact ⟨rfl, rfl, trivial⟩) | omega | (intro r hr; simp only [List.mem_singleton] at hr; subst hr; rfl)  | (simp only [in64]; omega) | assumption | (simp; done) | (simp [V.cells]; done) | (simp [in64, maxLen, limK] at *; omega) | ((show confB _ _ = true); kernel_rfl) | rfl)))); rotate_left; (focus (first | omega | fail)))
       | ((with_reducible refine Or.inr (Or.inr ⟨[?_], _, _, _, _, tlmany_fn ?_ ?_ ?_, ?_⟩)); rotate_right; (repeat ((conv => whnf); (with_reducible refine And.intro ?_ ?_); (focus (first | with_reducible rfl | exact trivial | (exact ⟨rfl, trivial⟩) | (exact ⟨rfl, rfl, trivial⟩) | omega | (intro r hr; simp only [List.mem_singleton] at hr; subst hr; rfl)  | (simp only [in64]; omega) | assumption | (simp; done) | (simp [V.cells]; done) | (simp [in64, maxLen, limK] at *; omega) | ((show confB _ _ = true); kernel_rfl) | rfl)))); rotate_left; (focus (first | omega | fail)))
       | (with_reducible refine Or.inr ⟨[?_, ?_], _, _, _, _, tlown_fn T1 T2 (T.numR : Int) (T.num.numR : Int) (T.num.num.numR : Int) X1.a X1.b X1.c X1.d X1.e o2 a2 h2, ?_⟩)
       | (with_reducible refine Or.inr (Or.inr ⟨[?_, ?_], _, _, _, _, tlown_fn T1 T2 (T.numR : Int) (T.num.numR : Int) (T.num.num.numR : Int) X1.a X1.b X1.c X1.d X1.e o2 a2 h2, ?_⟩))
       | (with_reducible refine Br.mk (fun hb => ?_) (fun hb => ?_) <;> (try rw [hb]) <;> (try simp only [List.length_map, decide_eq_true_eq, decide_eq_false_iff_not, Bool.not_eq_true', Bool.not_eq_false', Int.ofNat_lt, Int.ofNat_le, Int.not_lt, Int.not_le, Int.toNat_natCast] at hb))
       | ((with_reducible first | refine Or.inl (And.intro ?_ ?_) | refine And.intro ?_ ?_); (focus (first | with_reducible rfl | exact trivial | (exact ⟨rfl, trivial⟩) | (exact ⟨rfl, rfl, trivial⟩) | omega | (intro r hr; simp only [List.mem_singleton] at hr; subst hr; rfl)  | ((simp only [in64, maxLen] at *; omega)) | ((simp only [List.length_map, List.length_cons, List.length_nil]; omega)) | ((simp only [List.length_append, List.length_cons, List.length_nil]; omega)) | (simp only [in64]; omega) | assumption | (simp; done) | (simp [V.cells]; done) | (simp [in64, maxLen, limK] at *; omega) | ((show confB _ _ = true); kernel_rfl) | rfl)))
       | (intro row hrow; (try simp only [Int.toNat_natCast, List.length_map, toNat_pred, toNat_succ', toNat_zero', toNat_one'] at hrow); (first | (have hsm := same_map (by assumption) hrow; subst hsm; clear hrow) | (obtain ⟨p, hp, rfl⟩ := of_map hrow; clear hrow)))))
      all_goals (try first | with_reducible assumption | ((first | show (_ : Int) ≤ _ | show (_ : Nat) ≤ _ | show (_ : Int) < _ | show ¬ (_ : Int) = _); (first | omega | (simp at *; omega) | (simp; done) | (simp [maxLen]; done))) | ((show in64 _); (simp only [in64] at *; (first | omega | (simp at *; omega) | (simp; done) | (simp [maxLen]; done)))) | ((with_reducible refine And.intro ?_ ?_) <;> (first | omega | (simp at *; omega) | (simp; done) | (simp [maxLen]; done))))
      all_goals (first
        | (with_reducible exact absurd rfl (by assumption))
        | ((conv => whnf); (refine ⟨(i + 1, ?_, l ++ [⟨tk.textR, (tk.text.numR : Int), tk.text.num.textR, tk.text.num.text.flagR⟩]), ?_⟩); (rotate_left 1); (refine And.intro ?_ (And.intro ?_ ?_)); (focus (refine ⟨⟨[0, 1, 2, 3, ?_], ?_⟩⟩; rotate_left 1; repeat' (first | (with_reducible rfl) | exact trivial | ((conv => whnf); (first | (with_reducible refine And.intro ?_ ?_) | (first | with_reducible rfl | ((first | refine congrArg V.str ?_ | refine congrArg (V.int _) ?_ | refine congrArg V.bool ?_ | refine congrArg V.sl ?_); (first | with_reducible rfl | omega | (rw [List.map_append]; rfl) | rfl | (simp; done))) | (first | with_reducible rfl | omega | (rw [List.map_append]; rfl) | rfl | (simp; done)) | rfl)))))); (focus (exact ⟨by omega, hk2, by simp; omega⟩)); (focus (first | omega | (dsimp only; omega) | (simp; done) | (simp; omega) | (simp at *; omega))))
        | ((conv => whnf); (try (first | rfl | (exfalso; simp_all; done) | (exfalso; simp at *; omega))); done))

  · refine AW.adoptC 2 22 999999999 (el := 67) rfl rfl rfl (rows_of 51 rfl) ?_
    refine AW.loop (fun (⟨i, tk, l⟩ : Nat × TK × List Plc) => i ≤ (TK.manyR T4 8 10) ∧ readPl ((TK.manyR T4 8 10) - i) tk l = (T5, L5) ∧ l.length = i) (fun (⟨i, tk, l⟩ : Nat × TK × List Plc) => ⟨[(0, .ptr 0 0), (2, .ptr 1 0), (3, .ptr 2 0), (66, .int .i64 ((TK.manyR T4 8 10) : Int)), (67, .int .i64 (i : Int))], [.cells (encTK tk), .cells [.int .i64 0, .int .i64 0, .int .i64 0, .int .i64 0, .int .i64 0, .int .i64 0, .int .i64 0, .int .i64 0, .int .i64 0, .str [], .str [], .str [], .int .i64 0, .nils, .int .i64 0, .str [], .int .i64 0, .nils, .str [], .str [], .nils, .nils, .nils, .str []], .cells [.int .i64 (T.numR : Int), .int .i64 (T.num.numR : Int), .int .i64 (T.num.num.numR : Int), .int .i64 X1.a, .int .i64 X1.b, .int .i64 X1.c, .int .i64 X1.d, .int .i64 X1.e, .int .i64 o2.kind, .str o2.key, .str o2.to, .str o2.val, .int .i64 o2.ver, .sl (o2.ws.map encWr), .int .i64 a2.code, .str a2.val, .int .i64 a2.ver, .sl (a2.rows.map encRw), .str T2.textR, .str T2.text.textR, .own 3, .own 4, .own 5, .str []], .rows 69 (L3.map encN), .rows 65 (L4.map encE), .rows 67 (l.map encP)]⟩) (fun (⟨i, tk, l⟩ : Nat × TK × List Plc) => (TK.manyR T4 8 10) - i) (0, TK.many T4 8 10, []) ?_ ?_ ?_
    · exact ⟨Nat.zero_le _, h5, rfl⟩
    · (refine ⟨⟨[0, 1, 2, 3, 4, 999999999], ?_⟩⟩; repeat' (first | (with_reducible rfl) | exact trivial | ((conv => whnf); (first | (with_reducible refine And.intro ?_ ?_) | (first | with_reducible rfl | ((first | refine congrArg V.str ?_ | refine congrArg (V.int _) ?_ | refine congrArg V.bool ?_ | refine congrArg V.sl ?_); (first | with_reducible rfl | omega | rfl | (simp; done))) | (first | with_reducible rfl | omega | rfl | (simp; done)) | rfl)))))
    · rintro ⟨i, tk, l⟩ hk
      obtain ⟨hk1, hk2, hk3⟩ := hk
      rcases (by omega : i = (TK.manyR T4 8 10) ∨ i < (TK.manyR T4 8 10)) with hi | hi
      · subst hi
        rw [Nat.sub_self, readPl] at hk2
        obtain ⟨rfl, rfl⟩ := Prod.mk.inj hk2
        repeat' ((conv => whnf); (first
         | (with_reducible first | refine AW.seq ?_ | refine AW.region base (by kernel_rfl) ?_ | refine AW.cond ?_ | refine AW.block ?_ | refine AW.ret ?_ | refine AW.exit ?_ | refine AW.skip ?_ | refine Br.t ?_ | refine Br.f ?_)
         | (with_reducible refine Br.mkT (fun hb => (by (first | (simp at hb; done) | omega | (simp at hb; omega) | (simp only [List.length_map, decide_eq_true_eq, decide_eq_false_iff_not] at hb; omega) | fail))) (fun hb => ?_))
         | (with_reducible refine Br.mkF (fun hb => (by (first | (simp at hb; done) | omega | (simp at hb; omega) | (simp only [List.length_map, decide_eq_true_eq, decide_eq_false_iff_not] at hb; omega) | fail))) (fun hb => ?_))
         | ((with_reducible refine Or.inl ?_); (conv => whnf); (with_reducible refine And.intro LitSl.mk ?_))
         | refine Br.t ?_
         | refine Br.f ?_
         | (with_reducible refine Or.inr ⟨[?_], _, _, _, _, tlnum_fn ?_, ?_⟩)
         | (with_reducible refine Or.inr (Or.inr ⟨[?_], _, _, _, _, tlnum_fn ?_, ?_⟩))
         | (with_reducible refine Or.inr ⟨[?_], _, _, _, _, tltext_fn ?_, ?_⟩)
         | (with_reducible refine Or.inr (Or.inr ⟨[?_], _, _, _, _, tltext_fn ?_, ?_⟩))
         | (with_reducible refine Or.inr ⟨[?_], _, _, _, _, tlflag_fn ?_, ?_⟩)
         | (with_reducible refine Or.inr (Or.inr ⟨[?_], _, _, _, _, tlflag_fn ?_, ?_⟩))
         | ((with_reducible refine Or.inr ⟨[?_], _, _, _, _, tlmany_fn ?_ ?_ ?_, ?_⟩); rotate_right; (repeat ((conv => whnf); (with_reducible refine And.intro ?_ ?_); (focus (first | with_reducible rfl | exact trivial | (exact ⟨rfl, trivial⟩) | (exact ⟨rfl, rfl, trivial⟩) | omega | (intro r hr; simp only [List.mem_singleton] at hr; subst hr; rfl)  | (simp only [in64]; omega) | assumption | (simp; done) | (simp [V.cells]; done) | (simp [in64, maxLen, limK] at *; omega) | ((show confB _ _ = true); kernel_rfl) | rfl)))); rotate_left; (focus (first | omega | fail)))
         | ((with_reducible refine Or.inr (Or.inr ⟨[?_], _, _, _, _, tlmany_fn ?_ ?_ ?_, ?_⟩)); rotate_right; (repeat ((conv => whnf); (with_reducible refine And.intro ?_ ?_); (focus (first | with_reducible rfl | exact trivial | (exact ⟨rfl, trivial⟩) | (exact ⟨rfl, rfl, trivial⟩) | omega | (intro r hr; simp only [List.mem_singleton] at hr; subst hr; rfl)  | (simp only [in64]; omega) | assumption | (simp; done) | (simp [V.cells]; done) | (simp [in64, maxLen, limK] at *; omega) | ((show confB _ _ = true); kernel_rfl) | rfl)))); rotate_left; (focus (first | omega | fail)))
         | (with_reducible refine Or.inr ⟨[?_, ?_], _, _, _, _, tlown_fn T1 T2 (T.numR : Int) (T.num.numR : Int) (T.num.num.numR : Int) X1.a X1.b X1.c X1.d X1.e o2 a2 h2, ?_⟩)
         | (with_reducible refine Or.inr (Or.inr ⟨[?_, ?_], _, _, _, _, tlown_fn T1 T2 (T.numR : Int) (T.num.numR : Int) (T.num.num.numR : Int) X1.a X1.b X1.c X1.d X1.e o2 a2 h2, ?_⟩))
         | (with_reducible refine Br.mk (fun hb => ?_) (fun hb => ?_) <;> (try rw [hb]) <;> (try simp only [List.length_map, decide_eq_true_eq, decide_eq_false_iff_not, Bool.not_eq_true', Bool.not_eq_false', Int.ofNat_lt, Int.ofNat_le, Int.not_lt, Int.not_le, Int.toNat_natCast] at hb))
         | ((with_reducible first | refine Or.inl (And.intro ?_ ?_) | refine And.intro ?_ ?_); (focus (first | with_reducible rfl | exact trivial | (exact ⟨rfl, trivial⟩) | (exact ⟨rfl, rfl, trivial⟩) | omega | (intro r hr; simp only [List.mem_singleton] at hr; subst hr; rfl)  | ((simp only [in64, maxLen] at *; omega)) | ((simp only [List.length_map, List.length_cons, List.length_nil]; omega)) | ((simp only [List.length_append, List.length_cons, List.length_nil]; omega)) | (simp only [in64]; omega) | assumption | (simp; done) | (simp [V.cells]; done) | (simp [in64, maxLen, limK] at *; omega) | ((show confB _ _ = true); kernel_rfl) | rfl)))
         | (intro row hrow; (try simp only [Int.toNat_natCast, List.length_map, toNat_pred, toNat_succ', toNat_zero', toNat_one'] at hrow); (first | (have hsm := same_map (by assumption) hrow; subst hsm; clear hrow) | (obtain ⟨p, hp, rfl⟩ := of_map hrow; clear hrow)))))
        all_goals ((conv => whnf); (refine ⟨(), ?_, trivial⟩; (refine ⟨⟨[0, 1, 2, 3, 4, 5], ?_⟩⟩; repeat' (first | (with_reducible rfl) | exact trivial | ((conv => whnf); (first | (with_reducible refine And.intro ?_ ?_) | (first | with_reducible rfl | ((first | refine congrArg V.str ?_ | refine congrArg (V.int _) ?_ | refine congrArg V.bool ?_ | refine congrArg V.sl ?_); (first | with_reducible rfl | omega | rfl | (simp; done))) | (first | with_reducible rfl | omega | rfl | (simp; done)) | rfl)))))))
      rw [show (TK.manyR T4 8 10) - i = ((TK.manyR T4 8 10) - (i + 1)) + 1 by omega, readPl] at hk2
      repeat' ((conv => whnf); (first
       | (with_reducible first | refine AW.seq ?_ | refine AW.region base (by kernel_rfl) ?_ | refine AW.cond ?_ | refine AW.block ?_ | refine AW.ret ?_ | refine AW.exit ?_ | refine AW.skip ?_ | refine Br.t ?_ | refine Br.f ?_)
       | (with_reducible refine Br.mkT (fun hb => (by (first | (simp at hb; done) | omega | (simp at hb; omega) | (simp only [List.length_map, decide_eq_true_eq, decide_eq_false_iff_not] at hb; omega) | fail))) (fun hb => ?_))
       | (with_reducible refine Br.mkF (fun hb => (by (first | (simp at hb; done) | omega | (simp at hb; omega) | (simp only [List.length_map, decide_eq_true_eq, decide_eq_false_iff_not] at hb; omega) | fail))) (fun hb => ?_))
       | ((with_reducible refine Or.inl ?_); (conv => whnf); (with_reducible refine And.intro LitSl.mk ?_))
       | refine Br.t ?_
       | refine Br.f ?_
       | (with_reducible refine Or.inr ⟨[?_], _, _, _, _, tlnum_fn ?_, ?_⟩)
       | (with_reducible refine Or.inr (Or.inr ⟨[?_], _, _, _, _, tlnum_fn ?_, ?_⟩))
       | (with_reducible refine Or.inr ⟨[?_], _, _, _, _, tltext_fn ?_, ?_⟩)
       | (with_reducible refine Or.inr (Or.inr ⟨[?_], _, _, _, _, tltext_fn ?_, ?_⟩))
       | (with_reducible refine Or.inr ⟨[?_], _, _, _, _, tlflag_fn ?_, ?_⟩)
       | (with_reducible refine Or.inr (Or.inr ⟨[?_], _, _, _, _, tlflag_fn ?_, ?_⟩))
       | ((with_reducible refine Or.inr ⟨[?_], _, _, _, _, tlmany_fn ?_ ?_ ?_, ?_⟩); rotate_right; (repeat ((conv => whnf); (with_reducible refine And.intro ?_ ?_); (focus (first | with_reducible rfl | exact trivial | (exact ⟨rfl, trivial⟩) | (exact ⟨rfl, rfl, trivial⟩) | omega | (intro r hr; simp only [List.mem_singleton] at hr; subst hr; rfl)  | (simp only [in64]; omega) | assumption | (simp; done) | (simp [V.cells]; done) | (simp [in64, maxLen, limK] at *; omega) | ((show confB _ _ = true); kernel_rfl) | rfl)))); rotate_left; (focus (first | omega | fail)))
       | ((with_reducible refine Or.inr (Or.inr ⟨[?_], _, _, _, _, tlmany_fn ?_ ?_ ?_, ?_⟩)); rotate_right; (repeat ((conv => whnf); (with_reducible refine And.intro ?_ ?_); (focus (first | with_reducible rfl | exact trivial | (exact ⟨rfl, trivial⟩) | (exact ⟨rfl, rfl, trivial⟩) | omega | (intro r hr; simp only [List.mem_singleton] at hr; subst hr; rfl)  | (simp only [in64]; omega) | assumption | (simp; done) | (simp [V.cells]; done) | (simp [in64, maxLen, limK] at *; omega) | ((show confB _ _ = true); kernel_rfl) | rfl)))); rotate_left; (focus (first | omega | fail)))
       | (with_reducible refine Or.inr ⟨[?_, ?_], _, _, _, _, tlown_fn T1 T2 (T.numR : Int) (T.num.numR : Int) (T.num.num.numR : Int) X1.a X1.b X1.c X1.d X1.e o2 a2 h2, ?_⟩)
       | (with_reducible refine Or.inr (Or.inr ⟨[?_, ?_], _, _, _, _, tlown_fn T1 T2 (T.numR : Int) (T.num.numR : Int) (T.num.num.numR : Int) X1.a X1.b X1.c X1.d X1.e o2 a2 h2, ?_⟩))
       | (with_reducible refine Br.mk (fun hb => ?_) (fun hb => ?_) <;> (try rw [hb]) <;> (try simp only [List.length_map, decide_eq_true_eq, decide_eq_false_iff_not, Bool.not_eq_true', Bool.not_eq_false', Int.ofNat_lt, Int.ofNat_le, Int.not_lt, Int.not_le, Int.toNat_natCast] at hb))
       | ((with_reducible first | refine Or.inl (And.intro ?_ ?_) | refine And.intro ?_ ?_); (focus (first | with_reducible rfl | exact trivial | (exact ⟨rfl, trivial⟩) | (exact ⟨rfl, rfl, trivial⟩) | omega | (intro r hr; simp only [List.mem_singleton] at hr; subst hr; rfl)  | ((simp only [in64, maxLen] at *; omega)) | ((simp only [List.length_map, List.length_cons, List.length_nil]; omega)) | ((simp only [List.length_append, List.length_cons, List.length_nil]; omega)) | (simp only [in64]; omega) | assumption | (simp; done) | (simp [V.cells]; done) | (simp [in64, maxLen, limK] at *; omega) | ((show confB _ _ = true); kernel_rfl) | rfl)))
       | (intro row hrow; (try simp only [Int.toNat_natCast, List.length_map, toNat_pred, toNat_succ', toNat_zero', toNat_one'] at hrow); (first | (have hsm := same_map (by assumption) hrow; subst hsm; clear hrow) | (obtain ⟨p, hp, rfl⟩ := of_map hrow; clear hrow)))))
      all_goals (try first | with_reducible assumption | ((first | show (_ : Int) ≤ _ | show (_ : Nat) ≤ _ | show (_ : Int) < _ | show ¬ (_ : Int) = _); (first | omega | (simp at *; omega) | (simp; done) | (simp [maxLen]; done))) | ((show in64 _); (simp only [in64] at *; (first | omega | (simp at *; omega) | (simp; done) | (simp [maxLen]; done)))) | ((with_reducible refine And.intro ?_ ?_) <;> (first | omega | (simp at *; omega) | (simp; done) | (simp [maxLen]; done))))
      all_goals (first
        | (with_reducible exact absurd rfl (by assumption))
        | ((conv => whnf); (refine ⟨(i + 1, ?_, l ++ [⟨(tk.numR : Int), (tk.num.numR : Int), (tk.num.num.numR : Int), tk.num.num.num.textR, tk.num.num.num.text.textR⟩]), ?_⟩); (rotate_left 1); (refine And.intro ?_ (And.intro ?_ ?_)); (focus (refine ⟨⟨[0, 1, 2, 3, 4, ?_], ?_⟩⟩; rotate_left 1; repeat' (first | (with_reducible rfl) | exact trivial | ((conv => whnf); (first | (with_reducible refine And.intro ?_ ?_) | (first | with_reducible rfl | ((first | refine congrArg V.str ?_ | refine congrArg (V.int _) ?_ | refine congrArg V.bool ?_ | refine congrArg V.sl ?_); (first | with_reducible rfl | omega | (rw [List.map_append]; rfl) | rfl | (simp; done))) | (first | with_reducible rfl | omega | (rw [List.map_append]; rfl) | rfl | (simp; done)) | rfl)))))); (focus (exact ⟨by omega, hk2, by simp; omega⟩)); (focus (first | omega | (dsimp only; omega) | (simp; done) | (simp; omega) | (simp at *; omega))))
        | ((conv => whnf); (try (first | rfl | (exfalso; simp_all; done) | (exfalso; simp at *; omega))); done))

  all_goals (conv => whnf)
  all_goals (refine ⟨[0], ?_⟩)
  all_goals (repeat' (first | (with_reducible rfl) | exact trivial | ((conv => whnf); (first | (with_reducible refine And.intro ?_ ?_) | exact trivial | (intro hb; first | (exfalso; simp_all; done) | skip)))))
  all_goals (first | rfl)

theorem tlread_fn (s : Bs) : FnM Tryz.prog 64 [.ptr 0 0] [.cells (encTK (tk0 s))] (.agg (encL (rawL s).2)) [.cells (encTK (rawL s).1)] :=
  tlletter_fn (tk0 s) _ _ _ _ _ _ _ _ _ _ _ rfl rfl rfl rfl rfl
end Go.Proofs.YtnblecdpkbempaaGreatDoor
