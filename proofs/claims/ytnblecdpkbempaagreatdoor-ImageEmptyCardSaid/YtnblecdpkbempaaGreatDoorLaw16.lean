/-
  Laws of shards as bytes: they are read as they were; a new one too: their walks. No conditions.
-/
import Derived.Test.YtnblecdpkbempaaGreatDoorLaw16k
namespace Go.Proofs.YtnblecdpkbempaaGreatDoor
open Go.RowKit
set_option linter.unusedSimpArgs false
set_option linter.unusedVariables false

set_option maxRecDepth 100000 in
set_option maxHeartbeats 400000 in
theorem imageBack_no (s t : ShV) (b1 b2 b3 b4 : Bool) (hno : (b1 && (b2 && (b3 && b4))) = false) (h1 : Fn Tryz.prog 11 [.agg (encS s)] (.bool b1)) (h2 : Fn Tryz.prog 11 [.agg (encS t)] (.bool b2)) (h3 : Fn Tryz.prog 12 [.agg (encS s)] (.bool b3)) (h4 : Fn Tryz.prog 12 [.agg (encS t)] (.bool b4)) : Fn Tryz.prog 3 [.agg (encS s), .agg (encS t)] (.bool true) := by
  refine Fn.mk' base Tryz.func3 rfl rfl rfl ?_
  cases b1 <;> cases b2 <;> cases b3 <;> cases b4
  all_goals try (simp at hno; done)
  all_goals repeat' ((conv => whnf); (first
   | (with_reducible first | refine AW.seq ?_ | refine AW.region base (by kernel_rfl) ?_ | refine AW.cond ?_ | refine AW.block ?_ | refine AW.ret ?_ | refine AW.exit ?_ | refine AW.skip ?_ | refine Br.t ?_ | refine Br.f ?_)
   | ((with_reducible refine Or.inl ?_); (conv => whnf); (with_reducible refine And.intro LitSl.mk ?_))
   | refine Br.t ?_
   | refine Br.f ?_
   | ((with_reducible refine Or.inl ?_); (conv => whnf); (first | (with_reducible first | refine ⟨_, known16_fn, ?_⟩ | refine ⟨_, h1, ?_⟩ | refine ⟨_, h2, ?_⟩ | refine ⟨_, h3, ?_⟩ | refine ⟨_, h4, ?_⟩)))
   | (with_reducible refine Br.mk (fun hb => ?_) (fun hb => ?_) <;> (try rw [hb]) <;> (try simp only [List.length_map, decide_eq_true_eq, decide_eq_false_iff_not, Bool.not_eq_true', Bool.not_eq_false', Int.ofNat_lt, Int.ofNat_le, Int.not_lt, Int.not_le, Int.toNat_natCast] at hb))
   | ((with_reducible first | refine Or.inl (And.intro ?_ ?_) | refine And.intro ?_ ?_); (focus (first | with_reducible rfl | exact trivial | (exact ⟨rfl, trivial⟩) | (exact ⟨rfl, rfl, trivial⟩) | omega | (intro r hr; simp only [List.mem_singleton] at hr; subst hr; rfl)  | ((simp only [in64, maxLen] at *; omega)) | (simp only [in64]; omega) | assumption | (simp; done) | (simp [V.cells]; done) | (simp [in64, maxLen, limK] at *; omega) | ((show confB _ _ = true); kernel_rfl) | rfl)))
   | (intro row hrow; (try simp only [Int.toNat_natCast, List.length_map, toNat_pred, toNat_succ', toNat_zero', toNat_one'] at hrow); (first | (have hsm := same_map (by assumption) hrow; subst hsm; clear hrow) | (obtain ⟨p, hp, rfl⟩ := of_map hrow; clear hrow)))))
  all_goals ((conv => whnf); first | done | rfl)

set_option maxRecDepth 100000 in
set_option maxHeartbeats 1000000 in
theorem imageBack_go (s t : ShV) (h1 : Fn Tryz.prog 11 [.agg (encS s)] (.bool true)) (h2 : Fn Tryz.prog 11 [.agg (encS t)] (.bool true)) (h3 : Fn Tryz.prog 12 [.agg (encS s)] (.bool true)) (h4 : Fn Tryz.prog 12 [.agg (encS t)] (.bool true))
  (hBs : Fn Tryz.prog 13 [.agg (encS s)] (.str (bytesS s))) (hBt : Fn Tryz.prog 13 [.agg (encS t)] (.str (bytesS t))) (hRs : Fn Tryz.prog 14 [.str (bytesS s)] (.tup [.agg (encS s), noErr])) (hRt : Fn Tryz.prog 14 [.str (bytesS t)] (.tup [.agg (encS t), noErr]))
  (hP : Fn Tryz.prog 16 [.str (bytesS t)] (.sl ((pieces (bytesS t)).map encT))) (hJ : Fn Tryz.prog 15 [.sl ((pieces (bytesS t)).map encT)] (.str (bytesS t)))
  (hSs : Fn Tryz.prog 17 [.agg (encS s), .agg (encS s)] (.bool true)) (hSt : Fn Tryz.prog 17 [.agg (encS t), .agg (encS t)] (.bool true)) (hSst : Fn Tryz.prog 17 [.agg (encS s), .agg (encS t)] (.bool (decide (bytesS s = bytesS t)))) : Fn Tryz.prog 3 [.agg (encS s), .agg (encS t)] (.bool true) := by
  refine Fn.mk' base Tryz.func3 rfl rfl rfl ?_
  repeat' ((conv => whnf); (first
   | (with_reducible first | refine AW.seq ?_ | refine AW.region base (by kernel_rfl) ?_ | refine AW.cond ?_ | refine AW.block ?_ | refine AW.ret ?_ | refine AW.exit ?_ | refine AW.skip ?_ | refine Br.t ?_ | refine Br.f ?_)
   | ((with_reducible refine Or.inl ?_); (conv => whnf); (with_reducible refine And.intro LitSl.mk ?_))
   | refine Br.t ?_
   | refine Br.f ?_
   | ((with_reducible refine Or.inl ?_); (conv => whnf); (first | (with_reducible first | refine ⟨_, known16_fn, ?_⟩ | refine ⟨_, h1, ?_⟩ | refine ⟨_, h2, ?_⟩ | refine ⟨_, h3, ?_⟩ | refine ⟨_, h4, ?_⟩ | refine ⟨_, hBs, ?_⟩ | refine ⟨_, hBt, ?_⟩ | refine ⟨_, hRs, ?_⟩ | refine ⟨_, hRt, ?_⟩ | refine ⟨_, hP, ?_⟩ | refine ⟨_, hJ, ?_⟩ | refine ⟨_, hSs, ?_⟩ | refine ⟨_, hSt, ?_⟩ | refine ⟨_, hSst, ?_⟩)))
   | (with_reducible refine Br.mk (fun hb => ?_) (fun hb => ?_) <;> (try rw [hb]) <;> (try simp only [List.length_map, decide_eq_true_eq, decide_eq_false_iff_not, Bool.not_eq_true', Bool.not_eq_false', Int.ofNat_lt, Int.ofNat_le, Int.not_lt, Int.not_le, Int.toNat_natCast] at hb))
   | ((with_reducible first | refine Or.inl (And.intro ?_ ?_) | refine And.intro ?_ ?_); (focus (first | with_reducible rfl | exact trivial | (exact ⟨rfl, trivial⟩) | (exact ⟨rfl, rfl, trivial⟩) | omega | (intro r hr; simp only [List.mem_singleton] at hr; subst hr; rfl)  | ((simp only [in64, maxLen] at *; omega)) | (simp only [in64]; omega) | assumption | (simp; done) | (simp [V.cells]; done) | (simp [in64, maxLen, limK] at *; omega) | ((show confB _ _ = true); kernel_rfl) | rfl)))
   | (intro row hrow; (try simp only [Int.toNat_natCast, List.length_map, toNat_pred, toNat_succ', toNat_zero', toNat_one'] at hrow); (first | (have hsm := same_map (by assumption) hrow; subst hsm; clear hrow) | (obtain ⟨p, hp, rfl⟩ := of_map hrow; clear hrow)))))
  all_goals (conv => whnf)
  all_goals (first | rfl | (simp only [V.bool.injEq, V.tup.injEq, V.agg.injEq, V.str.injEq, V.int.injEq, V.sl.injEq, V.ifc.injEq, List.cons.injEq, and_true, true_and, and_self]; done) | (simp only [V.bool.injEq, V.tup.injEq, V.agg.injEq, V.str.injEq, V.int.injEq, V.sl.injEq, V.ifc.injEq, List.cons.injEq, and_true, true_and, and_self]; grind) | (simp  at *; done) | (simp  at *; grind))

theorem imageBack_fn (s t : ShV) : Fn Tryz.prog 3 [.agg (encS s), .agg (encS t)] (.bool true) := by
  have h1 := few16_fn s
  have h2 := few16_fn t
  have h3 := refIs_fn s
  have h4 := refIs_fn t
  cases hall : (fewS s && (fewS t && (refS s && refS t)))
  · exact imageBack_no s t _ _ _ _ hall h1 h2 h3 h4
  · simp only [Bool.and_eq_true] at hall
    obtain ⟨f1, f2, f3, f4⟩ := hall
    rw [f1] at h1; rw [f2] at h2; rw [f3] at h3; rw [f4] at h4
    have hs := refS_shB f3
    have ht := refS_shB f4
    have hc : s.cs.length ≤ 30 := by simp only [fewS, Bool.and_eq_true, decide_eq_true_eq] at f1; exact f1.2.2.1
    have hd : t.cs.length ≤ 30 := by simp only [fewS, Bool.and_eq_true, decide_eq_true_eq] at f2; exact f2.2.2.1
    have hbt := bytesS_len ht hd
    have hSs := sameSh_fn s s
    rw [decide_eq_true rfl] at hSs
    have hSt := sameSh_fn t t
    rw [decide_eq_true rfl] at hSt
    have hSst := sameSh_fn s t
    rw [show decide (s = t) = decide (bytesS s = bytesS t) from decide_eq_decide.2 ⟨fun e => by rw [e], bytesS_inj hs ht hc hd⟩] at hSst
    exact imageBack_go s t h1 h2 h3 h4 (imgBytes_ok s hs hc) (imgBytes_ok t ht hd) (imgRead_of s hs hc) (imgRead_of t ht hd) (pieces_fn _ (by omega)) (imgJoin_of _ (fun e => by rw [e] at hbt; simp at hbt) (by omega)) hSs hSt hSst

abbrev eS (id ep : Int) (f t : Bs) (fz : Bool) : ShV := ⟨id, ep, f, t, fz, [], [], []⟩
theorem eS_law (id ep : Int) (f t : Bs) (fz : Bool) : shB (eS id ep f t fz) = refS (eS id ep f t fz) := by
  unfold shB refS
  rw [show refH (eS id ep f t fz).ev (eS id ep f t fz).cs = true from rfl, show histB (eS id ep f t fz).ev (eS id ep f t fz).cs = true from rfl, show doneB none (eS id ep f t fz).dn = true from rfl, show (eS id ep f t fz).cs.all (fun c => hasB ⟨(eS id ep f t fz).f, (eS id ep f t fz).t⟩ c.k) = true from rfl]
  simp

set_option maxRecDepth 100000 in
set_option maxHeartbeats 400000 in
theorem imageEmpty_no (id ep : Int) (f t : Bs) (fz : Bool) (g0 : 0 ≤ id ∧ id ≤ 4294967295) (g1 : 0 ≤ ep ∧ ep ≤ 65535) (hI : Fn Tryz.prog 12 [.agg (encS (eS (id + 1) (ep + 1) f t fz))] (.bool false)) (hB : Fn Tryz.prog 13 [.agg (encS (eS (id + 1) (ep + 1) f t fz))] (.str [])) : Fn Tryz.prog 4 [.int .u32 id, .int .u16 ep, .agg [.str f, .str t], .bool fz] (.bool true) := by
  refine Fn.mk' base Tryz.func4 rfl rfl rfl ?_
  repeat' ((conv => whnf); (first
   | (with_reducible first | refine AW.seq ?_ | refine AW.region base (by kernel_rfl) ?_ | refine AW.cond ?_ | refine AW.block ?_ | refine AW.ret ?_ | refine AW.exit ?_ | refine AW.skip ?_ | refine Br.t ?_ | refine Br.f ?_)
   | ((with_reducible refine Or.inl ?_); (conv => whnf); (with_reducible refine And.intro LitSl.mk ?_))
   | refine Br.t ?_
   | refine Br.f ?_
   | ((with_reducible refine Or.inl ?_); (conv => whnf); (first | (with_reducible first | refine ⟨_, known16_fn, ?_⟩) | refine ⟨_, Fn.unnil hI, ?_⟩ | refine ⟨_, Fn.unnil hB, ?_⟩))
   | (with_reducible refine Br.mk (fun hb => ?_) (fun hb => ?_) <;> (try rw [hb]) <;> (try simp only [List.length_map, decide_eq_true_eq, decide_eq_false_iff_not, Bool.not_eq_true', Bool.not_eq_false', Int.ofNat_lt, Int.ofNat_le, Int.not_lt, Int.not_le, Int.toNat_natCast] at hb))
   | ((with_reducible first | refine Or.inl (And.intro ?_ ?_) | refine And.intro ?_ ?_); (focus (first | with_reducible rfl | exact trivial | (exact ⟨rfl, trivial⟩) | (exact ⟨rfl, rfl, trivial⟩) | omega | (intro r hr; simp only [List.mem_singleton] at hr; subst hr; rfl)  | ((simp only [in64, maxLen] at *; omega)) | (simp only [in64]; omega) | assumption | (simp; done) | (simp [V.cells]; done) | (simp [in64, maxLen, limK] at *; omega) | ((show confB _ _ = true); kernel_rfl) | rfl)))
   | (intro row hrow; (try simp only [Int.toNat_natCast, List.length_map, toNat_pred, toNat_succ', toNat_zero', toNat_one'] at hrow); (first | (have hsm := same_map (by assumption) hrow; subst hsm; clear hrow) | (obtain ⟨p, hp, rfl⟩ := of_map hrow; clear hrow)))))
  all_goals (conv => whnf)
  all_goals (first | rfl | (simp only [V.bool.injEq, V.tup.injEq, V.agg.injEq, V.str.injEq, V.int.injEq, V.sl.injEq, V.ifc.injEq, List.cons.injEq, and_true, true_and, and_self]; done) | (simp only [V.bool.injEq, V.tup.injEq, V.agg.injEq, V.str.injEq, V.int.injEq, V.sl.injEq, V.ifc.injEq, List.cons.injEq, and_true, true_and, and_self]; grind) | (simp  at *; done) | (simp  at *; grind))

set_option maxRecDepth 100000 in
set_option maxHeartbeats 400000 in
theorem imageEmpty_go (id ep : Int) (f t : Bs) (fz : Bool) (g0 : 0 ≤ id ∧ id ≤ 4294967295) (g1 : 0 ≤ ep ∧ ep ≤ 65535) (hI : Fn Tryz.prog 12 [.agg (encS (eS (id + 1) (ep + 1) f t fz))] (.bool true)) (hB : Fn Tryz.prog 13 [.agg (encS (eS (id + 1) (ep + 1) f t fz))] (.str (bytesS (eS (id + 1) (ep + 1) f t fz)))) (hR : Fn Tryz.prog 14 [.str (bytesS (eS (id + 1) (ep + 1) f t fz))] (.tup [.agg (encS (eS (id + 1) (ep + 1) f t fz)), noErr])) (hS : Fn Tryz.prog 17 [.agg (encS (eS (id + 1) (ep + 1) f t fz)), .agg (encS (eS (id + 1) (ep + 1) f t fz))] (.bool true)) : Fn Tryz.prog 4 [.int .u32 id, .int .u16 ep, .agg [.str f, .str t], .bool fz] (.bool true) := by
  refine Fn.mk' base Tryz.func4 rfl rfl rfl ?_
  repeat' ((conv => whnf); (first
   | (with_reducible first | refine AW.seq ?_ | refine AW.region base (by kernel_rfl) ?_ | refine AW.cond ?_ | refine AW.block ?_ | refine AW.ret ?_ | refine AW.exit ?_ | refine AW.skip ?_ | refine Br.t ?_ | refine Br.f ?_)
   | ((with_reducible refine Or.inl ?_); (conv => whnf); (with_reducible refine And.intro LitSl.mk ?_))
   | refine Br.t ?_
   | refine Br.f ?_
   | ((with_reducible refine Or.inl ?_); (conv => whnf); (first | (with_reducible first | refine ⟨_, known16_fn, ?_⟩ | refine ⟨_, hR, ?_⟩) | refine ⟨_, Fn.unnil hI, ?_⟩ | refine ⟨_, Fn.unnil hB, ?_⟩ | refine ⟨_, Fn.unnil hS, ?_⟩))
   | (with_reducible refine Br.mk (fun hb => ?_) (fun hb => ?_) <;> (try rw [hb]) <;> (try simp only [List.length_map, decide_eq_true_eq, decide_eq_false_iff_not, Bool.not_eq_true', Bool.not_eq_false', Int.ofNat_lt, Int.ofNat_le, Int.not_lt, Int.not_le, Int.toNat_natCast] at hb))
   | ((with_reducible first | refine Or.inl (And.intro ?_ ?_) | refine And.intro ?_ ?_); (focus (first | with_reducible rfl | exact trivial | (exact ⟨rfl, trivial⟩) | (exact ⟨rfl, rfl, trivial⟩) | omega | (intro r hr; simp only [List.mem_singleton] at hr; subst hr; rfl)  | ((simp only [in64, maxLen] at *; omega)) | (simp only [in64]; omega) | assumption | (simp; done) | (simp [V.cells]; done) | (simp [in64, maxLen, limK] at *; omega) | ((show confB _ _ = true); kernel_rfl) | rfl)))
   | (intro row hrow; (try simp only [Int.toNat_natCast, List.length_map, toNat_pred, toNat_succ', toNat_zero', toNat_one'] at hrow); (first | (have hsm := same_map (by assumption) hrow; subst hsm; clear hrow) | (obtain ⟨p, hp, rfl⟩ := of_map hrow; clear hrow)))))
  all_goals (conv => whnf)
  all_goals (first | rfl | (simp only [V.bool.injEq, V.tup.injEq, V.agg.injEq, V.str.injEq, V.int.injEq, V.sl.injEq, V.ifc.injEq, List.cons.injEq, and_true, true_and, and_self]; done) | (simp only [V.bool.injEq, V.tup.injEq, V.agg.injEq, V.str.injEq, V.int.injEq, V.sl.injEq, V.ifc.injEq, List.cons.injEq, and_true, true_and, and_self]; grind) | (simp  at *; done) | (simp  at *; grind))

theorem imageEmpty_fn (id ep : Int) (f t : Bs) (fz : Bool) (g0 : 0 ≤ id ∧ id ≤ 4294967295) (g1 : 0 ≤ ep ∧ ep ≤ 65535) : Fn Tryz.prog 4 [.int .u32 id, .int .u16 ep, .agg [.str f, .str t], .bool fz] (.bool true) := by
  have hI := refIs_fn (eS (id + 1) (ep + 1) f t fz)
  cases h : refS (eS (id + 1) (ep + 1) f t fz)
  · rw [h] at hI
    exact imageEmpty_no id ep f t fz g0 g1 hI (imgBytes_not (eS (id + 1) (ep + 1) f t fz) (by rw [eS_law, h]))
  · rw [h] at hI
    have hs : shB (eS (id + 1) (ep + 1) f t fz) = true := by rw [eS_law, h]
    have hS := sameSh_fn (eS (id + 1) (ep + 1) f t fz) (eS (id + 1) (ep + 1) f t fz)
    rw [decide_eq_true rfl] at hS
    exact imageEmpty_go id ep f t fz g0 g1 hI (imgBytes_ok (eS (id + 1) (ep + 1) f t fz) hs (by simp)) (imgRead_of (eS (id + 1) (ep + 1) f t fz) hs (by simp)) hS
end Go.Proofs.YtnblecdpkbempaaGreatDoor
