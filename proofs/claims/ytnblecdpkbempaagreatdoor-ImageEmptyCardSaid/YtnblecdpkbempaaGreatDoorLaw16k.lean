/-
  Laws of shards as bytes: what is known; few. No conditions.
-/
import Derived.Test.YtnblecdpkbempaaGreatDoorImgE
namespace Go.Proofs.YtnblecdpkbempaaGreatDoor
open Go.RowKit
set_option linter.unusedSimpArgs false
set_option linter.unusedVariables false

def ks : ShV := ⟨3, 2, [], [], true, [], [], []⟩
def zs : ShV := ⟨0, 0, [], [], false, [], [], []⟩
theorem ks_ok : shB ks = true := by kernel_rfl
theorem k16_bytes : Fn Tryz.prog 13 [.agg (encS ks)] (.str (bytesS ks)) := imgBytes_ok ks ks_ok (by simp [ks])
theorem k16_bytes0 : Fn Tryz.prog 13 [.agg (encS zs)] (.str []) := imgBytes_not zs (by kernel_rfl)
theorem k16_read : Fn Tryz.prog 14 [.str (bytesS ks)] (.tup [.agg (encS ks), noErr]) := imgRead_of ks ks_ok (by simp [ks])
theorem k16_readx : Fn Tryz.prog 14 [.str (bytesS ks ++ [120])] (.tup [.agg [.int .i64 0, .int .i64 0, .str [], .str [], .bool false, .nils, .nils, .nils], errV [] 10]) := imgRead_more ks ks_ok (by simp [ks]) [120] (by simp) (by simp)
theorem k16_same : Fn Tryz.prog 17 [.agg (encS ks), .agg (encS ks)] (.bool true) := by have h := sameSh_fn ks ks; rw [decide_eq_true rfl] at h; exact h
theorem p100 : pieces (List.replicate 100 0) = [(List.replicate 64 0), (List.replicate 36 0)] := by kernel_rfl
theorem k16_pieces : Fn Tryz.prog 16 [.str (List.replicate (100 : Int).toNat 0)] (.sl [[.str (List.replicate 64 0)], [.str (List.replicate 36 0)]]) := by
  have h := pieces_fn (List.replicate 100 0) (by simp)
  rw [p100] at h; exact h
theorem k16_join : Fn Tryz.prog 15 [.sl [[.str (List.replicate 64 0)], [.str (List.replicate 36 0)]]] (.str (List.replicate (100 : Int).toNat 0)) := by
  have h := imgJoin_of (List.replicate 100 0) (by simp) (by simp)
  rw [p100] at h; exact h
theorem k16_piecesn : Fn Tryz.prog 16 [.str []] (.sl []) := pieces_fn [] (by simp)
theorem ks_len : (bytesS ks).length + 1 ≤ maxLen := by have := (bytesS_len ks_ok (by simp [ks])).1; simp only [maxLen]; omega

set_option maxRecDepth 100000 in
set_option maxHeartbeats 2000000 in
theorem known16_fn  : Fn Tryz.prog 10 [] (.bool true) := by
  refine Fn.mk' base Tryz.func10 rfl rfl rfl ?_
  repeat' ((conv => whnf); (first
   | (with_reducible first | refine AW.seq ?_ | refine AW.region base (by kernel_rfl) ?_ | refine AW.cond ?_ | refine AW.block ?_ | refine AW.ret ?_ | refine AW.exit ?_ | refine AW.skip ?_ | refine Br.t ?_ | refine Br.f ?_)
   | ((with_reducible refine Or.inl ?_); (conv => whnf); (with_reducible refine And.intro LitSl.mk ?_))
   | refine Br.t ?_
   | refine Br.f ?_
   | ((fail_if_success (with_reducible show ∃ j, Fits _ _ _ _ ∧ _)); (refine Exists.intro _ (And.intro (ByteRows.rep _) ?_)))
   | (intro row hrow; have e0 := Option.some.inj (show some [V.str (List.replicate 64 0)] = some row from hrow); subst e0)
   | ((with_reducible refine Or.inl ?_); (conv => whnf); (first | (with_reducible first | refine ⟨_, k16_read, ?_⟩ | refine ⟨_, k16_readx, ?_⟩ | refine ⟨_, k16_piecesn, ?_⟩) | refine ⟨_, Fn.unnil k16_bytes, ?_⟩ | refine ⟨_, Fn.unnil k16_bytes0, ?_⟩ | refine ⟨_, Fn.unnil k16_same, ?_⟩ | refine ⟨_, k16_pieces, ?_⟩ | refine ⟨_, k16_join, ?_⟩ | refine ⟨_, fis_fn [] 10 _, ?_⟩))
   | (with_reducible refine Br.mk (fun hb => ?_) (fun hb => ?_) <;> (try rw [hb]) <;> (try simp only [List.length_map, decide_eq_true_eq, decide_eq_false_iff_not, Bool.not_eq_true', Bool.not_eq_false', Int.ofNat_lt, Int.ofNat_le, Int.not_lt, Int.not_le, Int.toNat_natCast] at hb))
   | ((with_reducible first | refine Or.inl (And.intro ?_ ?_) | refine And.intro ?_ ?_); (focus (first | with_reducible rfl | exact trivial | (exact ⟨rfl, trivial⟩) | (exact ⟨rfl, rfl, trivial⟩) | omega | (intro r hr; simp only [List.mem_singleton] at hr; subst hr; rfl)  | ((exact ks_len)) | ((show (bytesS ks).length + 1 ≤ maxLen; exact ks_len)) | ((exact ⟨rfl, by decide, by decide⟩)) | ((intro r hr; simp only [List.mem_cons, List.not_mem_nil, or_false] at hr; rcases hr with rfl | rfl <;> rfl)) | (simp only [in64]; omega) | assumption | (simp; done) | (simp [V.cells]; done) | (simp [in64, maxLen, limK] at *; omega) | ((show confB _ _ = true); kernel_rfl) | rfl)))
   | (intro row hrow; (try simp only [Int.toNat_natCast, List.length_map, toNat_pred, toNat_succ', toNat_zero', toNat_one'] at hrow); (first | (have hsm := same_map (by assumption) hrow; subst hsm; clear hrow) | (obtain ⟨p, hp, rfl⟩ := of_map hrow; clear hrow)))))
  all_goals (conv => whnf)
  all_goals (first | rfl | (simp only [V.bool.injEq, V.tup.injEq, V.agg.injEq, V.str.injEq, V.int.injEq, V.sl.injEq, V.ifc.injEq, List.cons.injEq, and_true, true_and, and_self]; done) | (simp only [V.bool.injEq, V.tup.injEq, V.agg.injEq, V.str.injEq, V.int.injEq, V.sl.injEq, V.ifc.injEq, List.cons.injEq, and_true, true_and, and_self]; grind) | (simp  at *; done) | (simp  at *; grind))

def fewC (c : Cel) : Bool := decide (c.k.length ≤ 20) && decide (c.v.length ≤ 40)
def fewE (c : Evt) : Bool := decide (c.k.length ≤ 20) && decide (c.v.length ≤ 40)
def fewS (s : ShV) : Bool := s.cs.all fewC && (s.ev.all fewE && (decide (s.cs.length ≤ 30) && (decide (s.ev.length ≤ 40) && decide (s.dn.length ≤ 6))))
theorem few_c {s : ShV} (h : s.cs.all fewC = false) : fewS s = false := by unfold fewS; rw [h]; rfl
theorem few_e {s : ShV} (h : s.ev.all fewE = false) : fewS s = false := by unfold fewS; rw [h]; simp
theorem fewC_iff (c : Cel) : fewC c = true ↔ c.k.length ≤ 20 ∧ c.v.length ≤ 40 := by simp [fewC]
theorem fewE_iff (c : Evt) : fewE c = true ↔ c.k.length ≤ 20 ∧ c.v.length ≤ 40 := by simp [fewE]
theorem any_step {α : Type} {l : List α} {i : Nat} {p : α} {f : α → Bool} (hp : l[i]? = some p) (h : (l.take i).all f = true) (h2 : f p = true) : (l.take (i + 1)).all f = true := by
  rw [take_get hp, List.all_append, h]; simp [h2]
theorem any_no {α : Type} {l : List α} {i : Nat} {p : α} {f : α → Bool} (hp : l[i]? = some p) (h2 : f p = false) : l.all f = false := by
  rw [List.all_eq_false]; exact ⟨p, List.mem_of_getElem? hp, by simp [h2]⟩

set_option maxRecDepth 100000 in
set_option maxHeartbeats 1000000 in
theorem few16_fn (s : ShV) : Fn Tryz.prog 11 [.agg (encS s)] (.bool (fewS s)) := by
  refine Fn.mk' base Tryz.func11 rfl rfl rfl ?_
  refine AW.lenA 0 5 rfl rfl (fun hl5 => ?_)
  refine AW.lenA 0 6 rfl rfl (fun hl6 => ?_)
  simp only [List.length_map, maxLen] at hl5 hl6
  repeat' ((conv => whnf); (first
   | ((with_reducible show AW _ _ _ (Code.seq (Code.seq (Code.region 1 _ _) _) _) _ _ _); (refine AW.join (fun (_ : Unit) => s.cs.all fewC = true) (fun _ => ⟨[(1, .ptr 0 0)], [.cells (encS s)]⟩) ?_ (fun _ hfc => ?_)))
   | ((with_reducible show AW _ _ _ (Code.seq (Code.seq (Code.region 6 _ _) _) _) _ _ _); (refine AW.join (fun (_ : Unit) => s.ev.all fewE = true) (fun _ => ⟨[(1, .ptr 0 0)], [.cells (encS s)]⟩) ?_ (fun _ hfe => ?_)))
   | (with_reducible first | refine AW.seq ?_ | refine AW.region base (by kernel_rfl) ?_ | refine AW.cond ?_ | refine AW.block ?_ | refine AW.ret ?_ | refine AW.exit ?_ | refine AW.skip ?_ | refine Br.t ?_ | refine Br.f ?_)
   | ((with_reducible refine Or.inl ?_); (conv => whnf); (with_reducible refine And.intro LitSl.mk ?_))
   | refine Br.t ?_
   | refine Br.f ?_
   | (with_reducible refine Br.mk (fun hb => ?_) (fun hb => ?_) <;> (try rw [hb]) <;> (try simp only [List.length_map, decide_eq_true_eq, decide_eq_false_iff_not, Bool.not_eq_true', Bool.not_eq_false', Int.ofNat_lt, Int.ofNat_le, Int.not_lt, Int.not_le, Int.toNat_natCast] at hb))
   | ((with_reducible first | refine Or.inl (And.intro ?_ ?_) | refine And.intro ?_ ?_); (focus (first | with_reducible rfl | exact trivial | (exact ⟨rfl, trivial⟩) | (exact ⟨rfl, rfl, trivial⟩) | omega | (intro r hr; simp only [List.mem_singleton] at hr; subst hr; rfl)  | ((simp only [List.length_map] at *; omega)) | ((simp only [in64, maxLen] at *; omega)) | (simp only [in64]; omega) | assumption | (simp; done) | (simp [V.cells]; done) | (simp [in64, maxLen, limK] at *; omega) | ((show confB _ _ = true); kernel_rfl) | rfl)))
   | (intro row hrow; (try simp only [Int.toNat_natCast, List.length_map, toNat_pred, toNat_succ', toNat_zero', toNat_one'] at hrow); (first | (have hsm := same_map (by assumption) hrow; subst hsm; clear hrow) | (obtain ⟨p, hp, rfl⟩ := of_map hrow; clear hrow)))))
  · refine AW.loop (fun (i : Nat) => i ≤ s.cs.length ∧ (s.cs.take i).all fewC = true) (fun (i : Nat) => ⟨[(1, .ptr 0 0), (3, .int .i64 (i : Int))], [.cells (encS s)]⟩) (fun i => s.cs.length - i) 0 ?_ ?_ ?_
    · exact ⟨Nat.zero_le _, rfl⟩
    · (refine ⟨⟨[1000], ?_⟩⟩; repeat' (first | (with_reducible rfl) | exact trivial | ((conv => whnf); (first | (with_reducible refine And.intro ?_ ?_) | (first | with_reducible rfl | ((first | refine congrArg V.str ?_ | refine congrArg (V.int _) ?_ | refine congrArg V.bool ?_ | refine congrArg V.sl ?_); (first | with_reducible rfl | omega | rfl | (simp; done))) | (first | with_reducible rfl | omega | rfl | (simp; done)) | rfl)))))
    · rintro i hk
      obtain ⟨hk1, hk2⟩ := hk
      rcases (by omega : i = s.cs.length ∨ i < s.cs.length) with hi | hi
      · subst hi
        rw [List.take_length] at hk2
        repeat' ((conv => whnf); (first
         | (with_reducible first | refine AW.seq ?_ | refine AW.region base (by kernel_rfl) ?_ | refine AW.cond ?_ | refine AW.block ?_ | refine AW.ret ?_ | refine AW.exit ?_ | refine AW.skip ?_ | refine Br.t ?_ | refine Br.f ?_)
         | (with_reducible refine Br.mkT (fun hb => (by (first | (simp at hb; done) | omega | (simp only [List.length_map, decide_eq_true_eq, decide_eq_false_iff_not] at hb; omega) | fail))) (fun hb => ?_))
         | (with_reducible refine Br.mkF (fun hb => (by (first | (simp at hb; done) | omega | (simp only [List.length_map, decide_eq_true_eq, decide_eq_false_iff_not] at hb; omega) | fail))) (fun hb => ?_))
         | ((with_reducible refine Or.inl ?_); (conv => whnf); (with_reducible refine And.intro LitSl.mk ?_))
         | refine Br.t ?_
         | refine Br.f ?_
         | (with_reducible refine Br.mk (fun hb => ?_) (fun hb => ?_) <;> (try rw [hb]) <;> (try simp only [List.length_map, decide_eq_true_eq, decide_eq_false_iff_not, Bool.not_eq_true', Bool.not_eq_false', Int.ofNat_lt, Int.ofNat_le, Int.not_lt, Int.not_le, Int.toNat_natCast] at hb))
         | ((with_reducible first | refine Or.inl (And.intro ?_ ?_) | refine And.intro ?_ ?_); (focus (first | with_reducible rfl | exact trivial | (exact ⟨rfl, trivial⟩) | (exact ⟨rfl, rfl, trivial⟩) | omega | (intro r hr; simp only [List.mem_singleton] at hr; subst hr; rfl)  | ((simp only [List.length_map] at *; omega)) | ((simp only [in64, maxLen] at *; omega)) | (simp only [in64]; omega) | assumption | (simp; done) | (simp [V.cells]; done) | (simp [in64, maxLen, limK] at *; omega) | ((show confB _ _ = true); kernel_rfl) | rfl)))
         | (intro row hrow; (try simp only [Int.toNat_natCast, List.length_map, toNat_pred, toNat_succ', toNat_zero', toNat_one'] at hrow); (first | (have hsm := same_map (by assumption) hrow; subst hsm; clear hrow) | (obtain ⟨p, hp, rfl⟩ := of_map hrow; clear hrow)))))
        all_goals ((conv => whnf); (refine ⟨(), ?_, hk2⟩; (refine ⟨⟨[0], ?_⟩⟩; repeat' (first | (with_reducible rfl) | exact trivial | ((conv => whnf); (first | (with_reducible refine And.intro ?_ ?_) | (first | with_reducible rfl | ((first | refine congrArg V.str ?_ | refine congrArg (V.int _) ?_ | refine congrArg V.bool ?_ | refine congrArg V.sl ?_); (first | with_reducible rfl | omega | rfl | (simp; done))) | (first | with_reducible rfl | omega | rfl | (simp; done)) | rfl)))))))
      obtain ⟨p, hp⟩ : ∃ p, s.cs[i]? = some p := ⟨_, List.getElem?_eq_getElem hi⟩
      cases hF : fewC p
      · rw [few_c (any_no hp hF)]
        have hr2 : ¬ (p.k.length ≤ 20 ∧ p.v.length ≤ 40) := fun h => by rw [(fewC_iff p).2 h] at hF; cases hF
        repeat' ((conv => whnf); (first
         | (with_reducible first | refine AW.seq ?_ | refine AW.region base (by kernel_rfl) ?_ | refine AW.cond ?_ | refine AW.block ?_ | refine AW.ret ?_ | refine AW.exit ?_ | refine AW.skip ?_ | refine Br.t ?_ | refine Br.f ?_)
         | ((with_reducible refine Or.inl ?_); (conv => whnf); (with_reducible refine And.intro LitSl.mk ?_))
         | refine Br.t ?_
         | refine Br.f ?_
         | (with_reducible refine Br.mk (fun hb => ?_) (fun hb => ?_) <;> (try rw [hb]) <;> (try simp only [List.length_map, decide_eq_true_eq, decide_eq_false_iff_not, Bool.not_eq_true', Bool.not_eq_false', Int.ofNat_lt, Int.ofNat_le, Int.not_lt, Int.not_le, Int.toNat_natCast] at hb))
         | ((with_reducible first | refine Or.inl (And.intro ?_ ?_) | refine And.intro ?_ ?_); (focus (first | with_reducible rfl | exact trivial | (exact ⟨rfl, trivial⟩) | (exact ⟨rfl, rfl, trivial⟩) | omega | (intro r hr; simp only [List.mem_singleton] at hr; subst hr; rfl)  | ((simp only [List.length_map] at *; omega)) | ((simp only [in64, maxLen] at *; omega)) | (simp only [in64]; omega) | assumption | (simp; done) | (simp [V.cells]; done) | (simp [in64, maxLen, limK] at *; omega) | ((show confB _ _ = true); kernel_rfl) | rfl)))
         | (intro row hrow; (try simp only [Int.toNat_natCast, List.length_map, toNat_pred, toNat_succ', toNat_zero', toNat_one'] at hrow); (first | (have hsm := same_map (by assumption) hrow; subst hsm; clear hrow) | (obtain ⟨p, hp, rfl⟩ := of_map hrow; clear hrow)))))
        all_goals ((conv => whnf); first | done | rfl | (exfalso; omega))
      · have hr2 := (fewC_iff p).1 hF
        repeat' ((conv => whnf); (first
         | (with_reducible first | refine AW.seq ?_ | refine AW.region base (by kernel_rfl) ?_ | refine AW.cond ?_ | refine AW.block ?_ | refine AW.ret ?_ | refine AW.exit ?_ | refine AW.skip ?_ | refine Br.t ?_ | refine Br.f ?_)
         | (with_reducible refine Br.mkT (fun hb => (by (first | (simp at hb; done) | omega | (simp only [List.length_map, decide_eq_true_eq, decide_eq_false_iff_not] at hb; omega) | fail))) (fun hb => ?_))
         | (with_reducible refine Br.mkF (fun hb => (by (first | (simp at hb; done) | omega | (simp only [List.length_map, decide_eq_true_eq, decide_eq_false_iff_not] at hb; omega) | fail))) (fun hb => ?_))
         | ((with_reducible refine Or.inl ?_); (conv => whnf); (with_reducible refine And.intro LitSl.mk ?_))
         | refine Br.t ?_
         | refine Br.f ?_
         | (with_reducible refine Br.mk (fun hb => ?_) (fun hb => ?_) <;> (try rw [hb]) <;> (try simp only [List.length_map, decide_eq_true_eq, decide_eq_false_iff_not, Bool.not_eq_true', Bool.not_eq_false', Int.ofNat_lt, Int.ofNat_le, Int.not_lt, Int.not_le, Int.toNat_natCast] at hb))
         | ((with_reducible first | refine Or.inl (And.intro ?_ ?_) | refine And.intro ?_ ?_); (focus (first | with_reducible rfl | exact trivial | (exact ⟨rfl, trivial⟩) | (exact ⟨rfl, rfl, trivial⟩) | omega | (intro r hr; simp only [List.mem_singleton] at hr; subst hr; rfl)  | ((simp only [List.length_map] at *; omega)) | ((simp only [in64, maxLen] at *; omega)) | (simp only [in64]; omega) | assumption | (simp; done) | (simp [V.cells]; done) | (simp [in64, maxLen, limK] at *; omega) | ((show confB _ _ = true); kernel_rfl) | rfl)))
         | (intro row hrow; (try simp only [Int.toNat_natCast, List.length_map, toNat_pred, toNat_succ', toNat_zero', toNat_one'] at hrow); (first | (have hsm := same_map (by assumption) hrow; subst hsm; clear hrow) | (obtain ⟨p, hp, rfl⟩ := of_map hrow; clear hrow)))))
        all_goals ((conv => whnf); (refine ⟨i + 1, ?_⟩); (refine And.intro ?_ (And.intro ?_ ?_)); (focus (refine ⟨⟨[0], ?_⟩⟩; repeat' (first | (with_reducible rfl) | exact trivial | ((conv => whnf); (first | (with_reducible refine And.intro ?_ ?_) | (first | with_reducible rfl | ((first | refine congrArg V.str ?_ | refine congrArg (V.int _) ?_ | refine congrArg V.bool ?_ | refine congrArg V.sl ?_); (first | with_reducible rfl | omega | rfl | (simp; done))) | (first | with_reducible rfl | omega | rfl | (simp; done)) | rfl)))))); (focus (exact ⟨by omega, any_step hp hk2 hF⟩)); (focus omega))
  · refine AW.loop (fun (i : Nat) => i ≤ s.ev.length ∧ (s.ev.take i).all fewE = true) (fun (i : Nat) => ⟨[(1, .ptr 0 0), (4, .int .i64 (i : Int))], [.cells (encS s)]⟩) (fun i => s.ev.length - i) 0 ?_ ?_ ?_
    · exact ⟨Nat.zero_le _, rfl⟩
    · (refine ⟨⟨[0], ?_⟩⟩; repeat' (first | (with_reducible rfl) | exact trivial | ((conv => whnf); (first | (with_reducible refine And.intro ?_ ?_) | (first | with_reducible rfl | ((first | refine congrArg V.str ?_ | refine congrArg (V.int _) ?_ | refine congrArg V.bool ?_ | refine congrArg V.sl ?_); (first | with_reducible rfl | omega | rfl | (simp; done))) | (first | with_reducible rfl | omega | rfl | (simp; done)) | rfl)))))
    · rintro i hk
      obtain ⟨hk1, hk2⟩ := hk
      rcases (by omega : i = s.ev.length ∨ i < s.ev.length) with hi | hi
      · subst hi
        rw [List.take_length] at hk2
        repeat' ((conv => whnf); (first
         | (with_reducible first | refine AW.seq ?_ | refine AW.region base (by kernel_rfl) ?_ | refine AW.cond ?_ | refine AW.block ?_ | refine AW.ret ?_ | refine AW.exit ?_ | refine AW.skip ?_ | refine Br.t ?_ | refine Br.f ?_)
         | (with_reducible refine Br.mkT (fun hb => (by (first | (simp at hb; done) | omega | (simp only [List.length_map, decide_eq_true_eq, decide_eq_false_iff_not] at hb; omega) | fail))) (fun hb => ?_))
         | (with_reducible refine Br.mkF (fun hb => (by (first | (simp at hb; done) | omega | (simp only [List.length_map, decide_eq_true_eq, decide_eq_false_iff_not] at hb; omega) | fail))) (fun hb => ?_))
         | ((with_reducible refine Or.inl ?_); (conv => whnf); (with_reducible refine And.intro LitSl.mk ?_))
         | refine Br.t ?_
         | refine Br.f ?_
         | (with_reducible refine Br.mk (fun hb => ?_) (fun hb => ?_) <;> (try rw [hb]) <;> (try simp only [List.length_map, decide_eq_true_eq, decide_eq_false_iff_not, Bool.not_eq_true', Bool.not_eq_false', Int.ofNat_lt, Int.ofNat_le, Int.not_lt, Int.not_le, Int.toNat_natCast] at hb))
         | ((with_reducible first | refine Or.inl (And.intro ?_ ?_) | refine And.intro ?_ ?_); (focus (first | with_reducible rfl | exact trivial | (exact ⟨rfl, trivial⟩) | (exact ⟨rfl, rfl, trivial⟩) | omega | (intro r hr; simp only [List.mem_singleton] at hr; subst hr; rfl)  | ((simp only [List.length_map] at *; omega)) | ((simp only [in64, maxLen] at *; omega)) | (simp only [in64]; omega) | assumption | (simp; done) | (simp [V.cells]; done) | (simp [in64, maxLen, limK] at *; omega) | ((show confB _ _ = true); kernel_rfl) | rfl)))
         | (intro row hrow; (try simp only [Int.toNat_natCast, List.length_map, toNat_pred, toNat_succ', toNat_zero', toNat_one'] at hrow); (first | (have hsm := same_map (by assumption) hrow; subst hsm; clear hrow) | (obtain ⟨p, hp, rfl⟩ := of_map hrow; clear hrow)))))
        all_goals ((conv => whnf); (refine ⟨(), ?_, hk2⟩; (refine ⟨⟨[0], ?_⟩⟩; repeat' (first | (with_reducible rfl) | exact trivial | ((conv => whnf); (first | (with_reducible refine And.intro ?_ ?_) | (first | with_reducible rfl | ((first | refine congrArg V.str ?_ | refine congrArg (V.int _) ?_ | refine congrArg V.bool ?_ | refine congrArg V.sl ?_); (first | with_reducible rfl | omega | rfl | (simp; done))) | (first | with_reducible rfl | omega | rfl | (simp; done)) | rfl)))))))
      obtain ⟨p, hp⟩ : ∃ p, s.ev[i]? = some p := ⟨_, List.getElem?_eq_getElem hi⟩
      cases hF : fewE p
      · rw [few_e (any_no hp hF)]
        have hr2 : ¬ (p.k.length ≤ 20 ∧ p.v.length ≤ 40) := fun h => by rw [(fewE_iff p).2 h] at hF; cases hF
        repeat' ((conv => whnf); (first
         | (with_reducible first | refine AW.seq ?_ | refine AW.region base (by kernel_rfl) ?_ | refine AW.cond ?_ | refine AW.block ?_ | refine AW.ret ?_ | refine AW.exit ?_ | refine AW.skip ?_ | refine Br.t ?_ | refine Br.f ?_)
         | ((with_reducible refine Or.inl ?_); (conv => whnf); (with_reducible refine And.intro LitSl.mk ?_))
         | refine Br.t ?_
         | refine Br.f ?_
         | (with_reducible refine Br.mk (fun hb => ?_) (fun hb => ?_) <;> (try rw [hb]) <;> (try simp only [List.length_map, decide_eq_true_eq, decide_eq_false_iff_not, Bool.not_eq_true', Bool.not_eq_false', Int.ofNat_lt, Int.ofNat_le, Int.not_lt, Int.not_le, Int.toNat_natCast] at hb))
         | ((with_reducible first | refine Or.inl (And.intro ?_ ?_) | refine And.intro ?_ ?_); (focus (first | with_reducible rfl | exact trivial | (exact ⟨rfl, trivial⟩) | (exact ⟨rfl, rfl, trivial⟩) | omega | (intro r hr; simp only [List.mem_singleton] at hr; subst hr; rfl)  | ((simp only [List.length_map] at *; omega)) | ((simp only [in64, maxLen] at *; omega)) | (simp only [in64]; omega) | assumption | (simp; done) | (simp [V.cells]; done) | (simp [in64, maxLen, limK] at *; omega) | ((show confB _ _ = true); kernel_rfl) | rfl)))
         | (intro row hrow; (try simp only [Int.toNat_natCast, List.length_map, toNat_pred, toNat_succ', toNat_zero', toNat_one'] at hrow); (first | (have hsm := same_map (by assumption) hrow; subst hsm; clear hrow) | (obtain ⟨p, hp, rfl⟩ := of_map hrow; clear hrow)))))
        all_goals ((conv => whnf); first | done | rfl | (exfalso; omega))
      · have hr2 := (fewE_iff p).1 hF
        repeat' ((conv => whnf); (first
         | (with_reducible first | refine AW.seq ?_ | refine AW.region base (by kernel_rfl) ?_ | refine AW.cond ?_ | refine AW.block ?_ | refine AW.ret ?_ | refine AW.exit ?_ | refine AW.skip ?_ | refine Br.t ?_ | refine Br.f ?_)
         | (with_reducible refine Br.mkT (fun hb => (by (first | (simp at hb; done) | omega | (simp only [List.length_map, decide_eq_true_eq, decide_eq_false_iff_not] at hb; omega) | fail))) (fun hb => ?_))
         | (with_reducible refine Br.mkF (fun hb => (by (first | (simp at hb; done) | omega | (simp only [List.length_map, decide_eq_true_eq, decide_eq_false_iff_not] at hb; omega) | fail))) (fun hb => ?_))
         | ((with_reducible refine Or.inl ?_); (conv => whnf); (with_reducible refine And.intro LitSl.mk ?_))
         | refine Br.t ?_
         | refine Br.f ?_
         | (with_reducible refine Br.mk (fun hb => ?_) (fun hb => ?_) <;> (try rw [hb]) <;> (try simp only [List.length_map, decide_eq_true_eq, decide_eq_false_iff_not, Bool.not_eq_true', Bool.not_eq_false', Int.ofNat_lt, Int.ofNat_le, Int.not_lt, Int.not_le, Int.toNat_natCast] at hb))
         | ((with_reducible first | refine Or.inl (And.intro ?_ ?_) | refine And.intro ?_ ?_); (focus (first | with_reducible rfl | exact trivial | (exact ⟨rfl, trivial⟩) | (exact ⟨rfl, rfl, trivial⟩) | omega | (intro r hr; simp only [List.mem_singleton] at hr; subst hr; rfl)  | ((simp only [List.length_map] at *; omega)) | ((simp only [in64, maxLen] at *; omega)) | (simp only [in64]; omega) | assumption | (simp; done) | (simp [V.cells]; done) | (simp [in64, maxLen, limK] at *; omega) | ((show confB _ _ = true); kernel_rfl) | rfl)))
         | (intro row hrow; (try simp only [Int.toNat_natCast, List.length_map, toNat_pred, toNat_succ', toNat_zero', toNat_one'] at hrow); (first | (have hsm := same_map (by assumption) hrow; subst hsm; clear hrow) | (obtain ⟨p, hp, rfl⟩ := of_map hrow; clear hrow)))))
        all_goals ((conv => whnf); (refine ⟨i + 1, ?_⟩); (refine And.intro ?_ (And.intro ?_ ?_)); (focus (refine ⟨⟨[0], ?_⟩⟩; repeat' (first | (with_reducible rfl) | exact trivial | ((conv => whnf); (first | (with_reducible refine And.intro ?_ ?_) | (first | with_reducible rfl | ((first | refine congrArg V.str ?_ | refine congrArg (V.int _) ?_ | refine congrArg V.bool ?_ | refine congrArg V.sl ?_); (first | with_reducible rfl | omega | rfl | (simp; done))) | (first | with_reducible rfl | omega | rfl | (simp; done)) | rfl)))))); (focus (exact ⟨by omega, any_step hp hk2 hF⟩)); (focus omega))
  all_goals ((conv => whnf); (try simp only [List.length_map] at *); first | done | (refine congrArg V.bool ?_; unfold fewS; rw [hfc, hfe, Bool.true_and, Bool.true_and]; first | (rw [decide_eq_true (show s.cs.length ≤ 30 by omega), decide_eq_true (show s.ev.length ≤ 40 by omega)]; simp only [Bool.true_and]; exact decide_eq_decide.2 (by first | omega | (simp only [List.length_map]; omega))) | (rw [decide_eq_false (show ¬ s.cs.length ≤ 30 by omega)]; rfl) | (rw [decide_eq_false (show ¬ s.ev.length ≤ 40 by omega)]; cases decide (s.cs.length ≤ 30) <;> rfl)))
end Go.Proofs.YtnblecdpkbempaaGreatDoor
