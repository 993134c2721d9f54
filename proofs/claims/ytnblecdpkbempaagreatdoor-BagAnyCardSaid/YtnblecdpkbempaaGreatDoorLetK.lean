/-
  Walks of package letter: its numbers up to the last that is not 0. No conditions.
-/
import Derived.Test.YtnblecdpkbempaaGreatDoorLaw7a
namespace Go.Proofs.YtnblecdpkbempaaGreatDoor
open Go.RowKit
set_option linter.unusedSimpArgs false
set_option linter.unusedVariables false

theorem rows_len {α : Type} {f : α → List V} {n : Nat} (h : ∀ a, (f a).length = n) (l : List α) : ∀ r ∈ l.map f, r.length = n := fun r hr => by
  obtain ⟨a, _, rfl⟩ := List.mem_map.1 hr; exact h a

set_option maxRecDepth 100000 in
set_option maxHeartbeats 400000 in
theorem cloneInt_fn (l : List Int) (hl : l.length ≤ 1000000) : FnM Tryz.prog 103 [.sl (l.map encI)] [] (.own 0) [.rows 3 (l.map encI)] := by
  refine FnM.mk' base Tryz.func103 rfl rfl rfl rfl ?_
  repeat' ((conv => whnf); (first
   | (with_reducible refine And.intro (fun (hnil : _ = []) => ?_) ?_)
   | ((with_reducible show AW _ _ _ Code.ret _ _ _); (refine AW.adopt 2 999999999 (el := 3) rfl rfl (rows_of 80 rfl) ?_); (with_reducible refine AW.ret ?_))
   | (with_reducible first | refine AW.seq ?_ | refine AW.region base (by kernel_rfl) ?_ | refine AW.cond ?_ | refine AW.block ?_ | refine AW.ret ?_ | refine AW.exit ?_ | refine AW.skip ?_ | refine Br.t ?_ | refine Br.f ?_)
   | ((with_reducible refine Or.inl ?_); (conv => whnf); (with_reducible refine And.intro LitSl.mk ?_))
   | refine Br.t ?_
   | refine Br.f ?_
   | (with_reducible refine Br.mk (fun hb => ?_) (fun hb => ?_) <;> (try rw [hb]) <;> (try simp only [List.length_map, decide_eq_true_eq, decide_eq_false_iff_not, Bool.not_eq_true', Bool.not_eq_false', Int.ofNat_lt, Int.ofNat_le, Int.not_lt, Int.not_le, Int.toNat_natCast] at hb))
   | ((with_reducible first | refine Or.inl (And.intro ?_ ?_) | refine And.intro ?_ ?_); (focus (first | with_reducible rfl | exact trivial | (exact ⟨rfl, trivial⟩) | (exact ⟨rfl, rfl, trivial⟩) | omega | (intro r hr; simp only [List.mem_singleton] at hr; subst hr; rfl)  | ((exact rows_len (fun _ => rfl) _)) | ((simp only [List.length_map, List.length_nil]; omega)) | ((intro r hr; exact rows_len (fun _ => rfl) _ r hr)) | (simp only [in64]; omega) | assumption | (simp; done) | (simp [V.cells]; done) | (simp [in64, maxLen, limK] at *; omega) | ((show confB _ _ = true); kernel_rfl) | rfl)))
   | (intro row hrow; (try simp only [Int.toNat_natCast, List.length_map, toNat_pred, toNat_succ', toNat_zero', toNat_one'] at hrow); (first | (have hsm := same_map (by assumption) hrow; subst hsm; clear hrow) | (obtain ⟨p, hp, rfl⟩ := of_map hrow; clear hrow)))))
  all_goals (conv => whnf)
  all_goals (refine ⟨[?_], ?_⟩)
  all_goals (repeat' (first | (with_reducible rfl) | exact trivial | ((conv => whnf); (first | (with_reducible refine And.intro ?_ ?_) | exact trivial | (intro hb; first | (exfalso; simp_all; done) | skip)))))
  all_goals (first | rfl | (exact hnil.symm))

theorem cloneInt_of (xs : List (List V)) (l : List Int) (hx : xs = l.map encI) (hl : l.length ≤ 1000000) : FnM Tryz.prog 103 [.sl xs] [] (.own 0) [.rows 3 (l.map encI)] := by
  subst hx; exact cloneInt_fn l hl

set_option maxRecDepth 100000 in
set_option maxHeartbeats 1000000 in
theorem names_fn (l : LetV) : Fn Tryz.prog 49 [.agg (encL l)] (.sl ((namesL l).map encI)) := by
  refine Fn.mk' base Tryz.func49 rfl rfl rfl ?_
  repeat' ((conv => whnf); (first
   | ((with_reducible show AW _ _ _ (Code.loop _) _ _ _); (refine AW.rounds 6 ?_))
   | ((with_reducible show AW _ _ _ (Code.seq (Code.region 4 _ _) _) _ _ _); (refine AW.freezeC 1000 rfl rfl ?_))
   | (with_reducible first | refine AW.seq ?_ | refine AW.region base (by kernel_rfl) ?_ | refine AW.cond ?_ | refine AW.block ?_ | refine AW.ret ?_ | refine AW.exit ?_ | refine AW.skip ?_ | refine Br.t ?_ | refine Br.f ?_)
   | ((with_reducible refine Or.inl ?_); (conv => whnf); (with_reducible refine And.intro LitSl.mk ?_))
   | refine Br.t ?_
   | refine Br.f ?_
   | ((with_reducible refine Or.inr ⟨[], _, _, _, _, cloneInt_of ?_ (namesL l) ?_ ?_, ?_⟩); rotate_right; (repeat ((conv => whnf); (with_reducible refine And.intro ?_ ?_); (focus (first | with_reducible rfl | exact trivial | (exact ⟨rfl, trivial⟩) | (exact ⟨rfl, rfl, trivial⟩) | omega | (intro r hr; simp only [List.mem_singleton] at hr; subst hr; rfl)  | (simp only [in64]; omega) | assumption | (simp; done) | (simp [V.cells]; done) | (simp [in64, maxLen, limK] at *; omega) | ((show confB _ _ = true); kernel_rfl) | rfl)))); rotate_left; (focus (first | (simp [namesL, trimN, numsL, *]; done) | (have := namesL_len l; omega) | fail)); (focus (first | (simp [namesL, trimN, numsL, *]; done) | (have := namesL_len l; omega) | fail)))
   | ((with_reducible refine Or.inr (Or.inr ⟨[], _, _, _, _, cloneInt_of ?_ (namesL l) ?_ ?_, ?_⟩)); rotate_right; (repeat ((conv => whnf); (with_reducible refine And.intro ?_ ?_); (focus (first | with_reducible rfl | exact trivial | (exact ⟨rfl, trivial⟩) | (exact ⟨rfl, rfl, trivial⟩) | omega | (intro r hr; simp only [List.mem_singleton] at hr; subst hr; rfl)  | (simp only [in64]; omega) | assumption | (simp; done) | (simp [V.cells]; done) | (simp [in64, maxLen, limK] at *; omega) | ((show confB _ _ = true); kernel_rfl) | rfl)))); rotate_left; (focus (first | (simp [namesL, trimN, numsL, *]; done) | (have := namesL_len l; omega) | fail)); (focus (first | (simp [namesL, trimN, numsL, *]; done) | (have := namesL_len l; omega) | fail)))
   | (with_reducible refine Br.mk (fun hb => ?_) (fun hb => ?_) <;> (try rw [hb]) <;> (try simp only [List.length_map, decide_eq_true_eq, decide_eq_false_iff_not, Bool.not_eq_true', Bool.not_eq_false', Int.ofNat_lt, Int.ofNat_le, Int.not_lt, Int.not_le, Int.toNat_natCast] at hb))
   | ((with_reducible first | refine Or.inl (And.intro ?_ ?_) | refine And.intro ?_ ?_); (focus (first | with_reducible rfl | exact trivial | (exact ⟨rfl, trivial⟩) | (exact ⟨rfl, rfl, trivial⟩) | omega | (intro r hr; simp only [List.mem_singleton] at hr; subst hr; rfl)  | ((simp only [in64, maxLen] at *; omega)) | (simp only [in64]; omega) | assumption | (simp; done) | (simp [V.cells]; done) | (simp [in64, maxLen, limK] at *; omega) | ((show confB _ _ = true); kernel_rfl) | rfl)))
   | (intro row hrow; (try simp only [Int.toNat_natCast, List.length_map, toNat_pred, toNat_succ', toNat_zero', toNat_one'] at hrow); (first | (have hsm := same_map (by assumption) hrow; subst hsm; clear hrow) | (obtain ⟨p, hp, rfl⟩ := of_map hrow; clear hrow)))))
  all_goals (conv => whnf)
  all_goals (first | rfl | (simp only [V.bool.injEq, V.tup.injEq, V.agg.injEq, V.str.injEq, V.int.injEq, V.sl.injEq, V.ifc.injEq, List.cons.injEq, and_true, true_and, and_self]; done) | (simp only [V.bool.injEq, V.tup.injEq, V.agg.injEq, V.str.injEq, V.int.injEq, V.sl.injEq, V.ifc.injEq, List.cons.injEq, and_true, true_and, and_self]; grind) | (simp  at *; done) | (simp  at *; grind))
end Go.Proofs.YtnblecdpkbempaaGreatDoor

namespace Go.Proofs.YtnblecdpkbempaaGreatDoor
open Go.RowKit
set_option linter.unusedSimpArgs false
set_option linter.unusedVariables false

theorem nums_of (xs : List (List V)) (l : List Int) (hx : xs = l.map encI) (hl : l.length ≤ 1000) (hn : ∀ n ∈ l, n < 281474976710656) : Fn Tryz.prog 62 [.sl xs] (.str (numsB l)) := by
  subst hx; exact nums_fn l hl hn
theorem head1_len {l : LetV} (h : LetOk l) : (head1 l).length ≤ 9072 := by
  unfold head1; rw [List.length_append]; have := head0_len h; have := ownB_len h; omega
theorem head1_1 {l : LetV} (h : LetOk l) (hk : l.kind = 1) : head0 l ++ (if opB l.op then bytesO l.op else []) = head1 l := by
  rw [if_pos (h.op hk), head1, ownB, if_pos hk]
theorem head1_2 {l : LetV} (h : LetOk l) (hk : l.kind = 2) : head0 l ++ (if anB l.an then bytesA l.an else []) = head1 l := by
  rw [if_pos (h.an hk), head1, ownB, if_neg (by omega), if_pos hk]
theorem head1_3 {l : LetV} (h1 : ¬ l.kind = 1) (h2 : ¬ l.kind = 2) : head0 l = head1 l := by
  rw [head1, ownB, if_neg h1, if_neg h2, List.append_nil]
theorem opb_len (o : OpV) : (if opB o then bytesO o else []).length ≤ 9000 := by
  split
  · rename_i h; exact bytesO_len h
  · simp
theorem anb_len (a : AnV) : (if anB a then bytesA a else []).length ≤ 9000 := by
  split
  · rename_i h; exact bytesA_len h
  · simp

set_option maxRecDepth 100000 in
set_option maxHeartbeats 400000 in
theorem letBytes_not (l : LetV) (h : letB l = false) : Fn Tryz.prog 21 [.agg (encL l)] (.str []) := by
  refine Fn.mk' base Tryz.func21 rfl rfl rfl ?_
  repeat' ((conv => whnf); (first
   | (with_reducible first | refine AW.seq ?_ | refine AW.region base (by kernel_rfl) ?_ | refine AW.cond ?_ | refine AW.block ?_ | refine AW.ret ?_ | refine AW.exit ?_ | refine AW.skip ?_ | refine Br.t ?_ | refine Br.f ?_)
   | (with_reducible refine Br.mkT (fun hb => (by (first | omega | (simp only [List.length_map, decide_eq_true_eq, decide_eq_false_iff_not] at hb; omega) | (rw [h] at hb; simp at hb; done) | fail))) (fun hb => ?_))
   | (with_reducible refine Br.mkF (fun hb => (by (first | omega | (simp only [List.length_map, decide_eq_true_eq, decide_eq_false_iff_not] at hb; omega) | (rw [h] at hb; simp at hb; done) | fail))) (fun hb => ?_))
   | ((with_reducible refine Or.inl ?_); (conv => whnf); (with_reducible refine And.intro LitSl.mk ?_))
   | refine Br.t ?_
   | refine Br.f ?_
   | ((with_reducible refine Or.inl ?_); (conv => whnf); (first | (with_reducible first | refine ⟨_, letIs_fn l, ?_⟩)))
   | (with_reducible refine Br.mk (fun hb => ?_) (fun hb => ?_) <;> (try rw [hb]) <;> (try simp only [List.length_map, decide_eq_true_eq, decide_eq_false_iff_not, Bool.not_eq_true', Bool.not_eq_false', Int.ofNat_lt, Int.ofNat_le, Int.not_lt, Int.not_le, Int.toNat_natCast] at hb))
   | ((with_reducible first | refine Or.inl (And.intro ?_ ?_) | refine And.intro ?_ ?_); (focus (first | with_reducible rfl | exact trivial | (exact ⟨rfl, trivial⟩) | (exact ⟨rfl, rfl, trivial⟩) | omega | (intro r hr; simp only [List.mem_singleton] at hr; subst hr; rfl)  | ((simp only [List.length_map] at *; omega)) | ((simp only [List.length_append, flagB_len, maxLen] at *; omega)) | ((simp only [in64, maxLen] at *; omega)) | (simp only [in64]; omega) | assumption | (simp; done) | (simp [V.cells]; done) | (simp [in64, maxLen, limK] at *; omega) | ((show confB _ _ = true); kernel_rfl) | rfl)))
   | (intro row hrow; (try simp only [Int.toNat_natCast, List.length_map, toNat_pred, toNat_succ', toNat_zero', toNat_one'] at hrow); (first | (have hsm := same_map (by assumption) hrow; subst hsm; clear hrow) | (obtain ⟨p, hp, rfl⟩ := of_map hrow; clear hrow)))))
  all_goals (conv => whnf)
  all_goals (first | rfl | (simp only [V.bool.injEq, V.tup.injEq, V.agg.injEq, V.str.injEq, V.int.injEq, V.sl.injEq, V.ifc.injEq, List.cons.injEq, and_true, true_and, and_self]; done) | (simp only [V.bool.injEq, V.tup.injEq, V.agg.injEq, V.str.injEq, V.int.injEq, V.sl.injEq, V.ifc.injEq, List.cons.injEq, and_true, true_and, and_self]; grind) | (simp  at *; done) | (simp  at *; grind))

def head2P (l : LetV) : Bs := head2 l ++ snsBytes l.seen
def head3P (l : LetV) : Bs := head3 l ++ evsBytes l.ev
def head4P (l : LetV) : Bs := head4 l ++ plsBytes l.pl
theorem head2P_len {l : LetV} (h : LetOk l) : (head2P l).length ≤ 10700 := by
  unfold head2P; rw [List.length_append]; have := head2_len h; have h1 := snsBytes_len h l.seen.length; rw [List.take_length] at h1; omega
theorem head3P_len {l : LetV} (h : LetOk l) : (head3P l).length ≤ 11300 := by
  unfold head3P; rw [List.length_append]; have := head3_len h; have h1 := evsBytes_len h l.ev.length; rw [List.take_length] at h1; omega
theorem head4P_len {l : LetV} (h : LetOk l) : (head4P l).length ≤ 11900 := by
  unfold head4P; rw [List.length_append]; have := head4_len h; have h1 := plsBytes_len h l.pl.length; rw [List.take_length] at h1; omega

set_option maxRecDepth 100000 in
set_option maxHeartbeats 2000000 in
theorem letBytes_ok (l : LetV) (h : letB l = true) : Fn Tryz.prog 21 [.agg (encL l)] (.str (bytesL l)) := by
  refine Fn.mk' base Tryz.func21 rfl rfl rfl ?_
  have ok := letOk h
  have hk1 := ok.k1; have hk2 := ok.k2; have hfr := ok.fr; have hto := ok.to; have hsl := ok.sl; have hel := ok.el; have hpl := ok.pl; have hdt := ok.dt; have hff := ok.f; have htt := ok.t
  have hnl := namesL_len l
  have hnb := names_bounds ok
  have a0 := numsB_len [l.kind, l.fr, l.to, ((namesL l).length : Int)] (by intro n hn; simp at hn; omega)
  have a1 := numsB_len (namesL l) fun n hn => by have := hnb n hn; omega
  have a2 := head0_len ok; have a3 := ownB_len ok; have a4 := head2_len ok; have a5 := head3_len ok; have a6 := head4_len ok; have a7 := bodyL_len ok
  have a8 := textLe l.f (by omega); have a9 := textLe l.t (by omega); have a10 := textLe l.data (by omega)
  have a11 := nums1_len (l.seen.length : Int) (by omega); have a12 := nums1_len (l.ev.length : Int) (by omega); have a13 := nums1_len (l.pl.length : Int) (by omega)
  have e1 : ((l.seen.map encN).length : Int) = (l.seen.length : Int) := by simp
  have e2 : ((l.ev.map encE).length : Int) = (l.ev.length : Int) := by simp
  have e3 : ((l.pl.map encP).length : Int) = (l.pl.length : Int) := by simp
  have e4 : (((namesL l).map encI).length : Int) = ((namesL l).length : Int) := by simp
  simp only [List.length_cons, List.length_nil] at a0
  have a14 := head1_len ok; have a15 := head2P_len ok; have a16 := head3P_len ok; have a17 := head4P_len ok
  repeat' ((conv => whnf); (first
   | ((with_reducible show AW _ _ _ (Code.seq (Code.seq (Code.region 5 _ _) _) _) _ _ _); (refine AW.join (fun (_ : Unit) => True) (fun _ => ⟨[(1, .ptr 0 0), (4, .str (head1 l))], [.cells (encL l)]⟩) ?_ (fun _ _ => ?_)))
   | ((with_reducible show AW _ _ _ (Code.seq (Code.seq (Code.region 11 _ _) _) _) _ _ _); (refine AW.join (fun (_ : Unit) => True) (fun _ => ⟨[(1, .ptr 0 0), (4, .str (head2P l))], [.cells (encL l)]⟩) ?_ (fun _ _ => ?_)))
   | ((with_reducible show AW _ _ _ (Code.seq (Code.seq (Code.region 17 _ _) _) _) _ _ _); (refine AW.join (fun (_ : Unit) => True) (fun _ => ⟨[(1, .ptr 0 0), (4, .str (head3P l))], [.cells (encL l)]⟩) ?_ (fun _ _ => ?_)))
   | ((with_reducible show AW _ _ _ (Code.seq (Code.seq (Code.region 23 _ _) _) _) _ _ _); (refine AW.join (fun (_ : Unit) => True) (fun _ => ⟨[(1, .ptr 0 0), (4, .str (head4P l))], [.cells (encL l)]⟩) ?_ (fun _ _ => ?_)))
   | (with_reducible first | refine AW.seq ?_ | refine AW.region base (by kernel_rfl) ?_ | refine AW.cond ?_ | refine AW.block ?_ | refine AW.ret ?_ | refine AW.exit ?_ | refine AW.skip ?_ | refine Br.t ?_ | refine Br.f ?_)
   | (with_reducible refine Br.mkT (fun hb => (by (first | omega | (simp only [List.length_map, decide_eq_true_eq, decide_eq_false_iff_not] at hb; omega) | (rw [h] at hb; simp at hb; done) | fail))) (fun hb => ?_))
   | (with_reducible refine Br.mkF (fun hb => (by (first | omega | (simp only [List.length_map, decide_eq_true_eq, decide_eq_false_iff_not] at hb; omega) | (rw [h] at hb; simp at hb; done) | fail))) (fun hb => ?_))
   | ((with_reducible refine Or.inl ?_); (conv => whnf); (with_reducible refine And.intro LitSl.mk ?_))
   | refine Br.t ?_
   | refine Br.f ?_
   | ((with_reducible refine Or.inl ?_); (conv => whnf); (first | (with_reducible first | refine ⟨_, letIs_fn l, ?_⟩ | refine ⟨_, names_fn l, ?_⟩ | refine ⟨_, nums_fn (namesL l) (by omega) (fun n hn => by have := hnb n hn; omega), ?_⟩ | refine ⟨_, opBytes_fn l.op, ?_⟩ | refine ⟨_, anBytes_fn l.an, ?_⟩ | refine ⟨_, text_fn _ (by omega), ?_⟩ | refine ⟨_, frameWrap_fn _ (by simp only [List.length_append] at *; omega), ?_⟩) | refine ⟨_, nums_of _ [l.kind, l.fr, l.to, ((namesL l).length : Int)] (by first | (simp [V.cells, encI]; done) | fail) (by simp) (by intro n hn; simp only [List.mem_cons, List.not_mem_nil, or_false] at hn; first | omega | fail), ?_⟩ | refine ⟨_, nums_of _ [(l.seen.length : Int)] (by first | (simp [V.cells, encI]; done) | fail) (by simp) (by intro n hn; simp only [List.mem_cons, List.not_mem_nil, or_false] at hn; first | omega | fail), ?_⟩ | refine ⟨_, nums_of _ [(l.ev.length : Int)] (by first | (simp [V.cells, encI]; done) | fail) (by simp) (by intro n hn; simp only [List.mem_cons, List.not_mem_nil, or_false] at hn; first | omega | fail), ?_⟩ | refine ⟨_, nums_of _ [(l.pl.length : Int)] (by first | (simp [V.cells, encI]; done) | fail) (by simp) (by intro n hn; simp only [List.mem_cons, List.not_mem_nil, or_false] at hn; first | omega | fail), ?_⟩))
   | (with_reducible refine Br.mk (fun hb => ?_) (fun hb => ?_) <;> (try rw [hb]) <;> (try simp only [List.length_map, decide_eq_true_eq, decide_eq_false_iff_not, Bool.not_eq_true', Bool.not_eq_false', Int.ofNat_lt, Int.ofNat_le, Int.not_lt, Int.not_le, Int.toNat_natCast] at hb))
   | ((with_reducible first | refine Or.inl (And.intro ?_ ?_) | refine And.intro ?_ ?_); (focus (first | with_reducible rfl | exact trivial | (exact ⟨rfl, trivial⟩) | (exact ⟨rfl, rfl, trivial⟩) | omega | (intro r hr; simp only [List.mem_singleton] at hr; subst hr; rfl)  | ((simp only [List.length_map] at *; omega)) | ((simp only [List.length_append, flagB_len, maxLen] at *; omega)) | ((simp only [in64, maxLen] at *; omega)) | ((have := opb_len l.op; simp only [List.length_append, maxLen] at *; omega)) | ((have := anb_len l.an; simp only [List.length_append, maxLen] at *; omega)) | (simp only [in64]; omega) | assumption | (simp; done) | (simp [V.cells]; done) | (simp [in64, maxLen, limK] at *; omega) | ((show confB _ _ = true); kernel_rfl) | rfl)))
   | (intro row hrow; (try simp only [Int.toNat_natCast, List.length_map, toNat_pred, toNat_succ', toNat_zero', toNat_one'] at hrow); (first | (have hsm := same_map (by assumption) hrow; subst hsm; clear hrow) | (obtain ⟨p, hp, rfl⟩ := of_map hrow; clear hrow)))))
  all_goals try (((conv => whnf); (refine ⟨(), ?_, trivial⟩; (refine ⟨⟨[1000], ?_⟩⟩; repeat' (first | (with_reducible rfl) | exact trivial | ((conv => whnf); (first | (with_reducible refine And.intro ?_ ?_) | (first | with_reducible rfl | ((first | refine congrArg V.str ?_ | refine congrArg (V.int _) ?_ | refine congrArg V.bool ?_ | refine congrArg V.sl ?_); (first | with_reducible rfl | omega | (exact head1_1 ok (by assumption)) | (exact head1_2 ok (by assumption)) | (exact head1_3 (by assumption) (by assumption)) | rfl | (simp; done))) | (first | with_reducible rfl | omega | (exact head1_1 ok (by assumption)) | (exact head1_2 ok (by assumption)) | (exact head1_3 (by assumption) (by assumption)) | rfl | (simp; done)) | rfl))))))); done)
  · refine AW.loop (fun (⟨i, s⟩ : Nat × Bs) => i ≤ l.seen.length ∧ s = head2 l ++ snsBytes (l.seen.take i)) (fun (⟨i, s⟩ : Nat × Bs) => ⟨[(1, .ptr 0 0), (4, .str s), (63, .sl (l.seen.map encN)), (64, .int .i64 ((l.seen.map encN).length : Int)), (65, .int .i64 (i : Int))], [.cells (encL l)]⟩) (fun (⟨i, s⟩ : Nat × Bs) => l.seen.length - i) (0, head2 l) ?_ ?_ ?_
    · exact ⟨Nat.zero_le _, by simp [snsBytes]⟩
    · (refine ⟨⟨[0], ?_⟩⟩; repeat' (first | (with_reducible rfl) | exact trivial | ((conv => whnf); (first | (with_reducible refine And.intro ?_ ?_) | (first | with_reducible rfl | ((first | refine congrArg V.str ?_ | refine congrArg (V.int _) ?_ | refine congrArg V.bool ?_ | refine congrArg V.sl ?_); (first | with_reducible rfl | omega | (simp; done) | rfl | (simp; done))) | (first | with_reducible rfl | omega | (simp; done) | rfl | (simp; done)) | rfl)))))
    · rintro ⟨i, s⟩ hk
      obtain ⟨hi1, hs⟩ := hk
      have hsl0 : s.length ≤ 10700 := by rw [hs, List.length_append]; have := snsBytes_len ok i; omega
      rcases (by omega : i = l.seen.length ∨ i < l.seen.length) with hi | hi
      · subst hi
        rw [List.take_length] at hs
        repeat' ((conv => whnf); (first
         | (with_reducible first | refine AW.seq ?_ | refine AW.region base (by kernel_rfl) ?_ | refine AW.cond ?_ | refine AW.block ?_ | refine AW.ret ?_ | refine AW.exit ?_ | refine AW.skip ?_ | refine Br.t ?_ | refine Br.f ?_)
         | (with_reducible refine Br.mkT (fun hb => (by (first | omega | (simp only [List.length_map, decide_eq_true_eq, decide_eq_false_iff_not] at hb; omega) | (rw [h] at hb; simp at hb; done) | fail))) (fun hb => ?_))
         | (with_reducible refine Br.mkF (fun hb => (by (first | omega | (simp only [List.length_map, decide_eq_true_eq, decide_eq_false_iff_not] at hb; omega) | (rw [h] at hb; simp at hb; done) | fail))) (fun hb => ?_))
         | ((with_reducible refine Or.inl ?_); (conv => whnf); (with_reducible refine And.intro LitSl.mk ?_))
         | refine Br.t ?_
         | refine Br.f ?_
         | (with_reducible refine Br.mk (fun hb => ?_) (fun hb => ?_) <;> (try rw [hb]) <;> (try simp only [List.length_map, decide_eq_true_eq, decide_eq_false_iff_not, Bool.not_eq_true', Bool.not_eq_false', Int.ofNat_lt, Int.ofNat_le, Int.not_lt, Int.not_le, Int.toNat_natCast] at hb))
         | ((with_reducible first | refine Or.inl (And.intro ?_ ?_) | refine And.intro ?_ ?_); (focus (first | with_reducible rfl | exact trivial | (exact ⟨rfl, trivial⟩) | (exact ⟨rfl, rfl, trivial⟩) | omega | (intro r hr; simp only [List.mem_singleton] at hr; subst hr; rfl)  | ((simp only [List.length_map] at *; omega)) | ((simp only [List.length_append, flagB_len, maxLen] at *; omega)) | ((simp only [in64, maxLen] at *; omega)) | (simp only [in64]; omega) | assumption | (simp; done) | (simp [V.cells]; done) | (simp [in64, maxLen, limK] at *; omega) | ((show confB _ _ = true); kernel_rfl) | rfl)))
         | (intro row hrow; (try simp only [Int.toNat_natCast, List.length_map, toNat_pred, toNat_succ', toNat_zero', toNat_one'] at hrow); (first | (have hsm := same_map (by assumption) hrow; subst hsm; clear hrow) | (obtain ⟨p, hp, rfl⟩ := of_map hrow; clear hrow)))))
        all_goals ((conv => whnf); (refine ⟨(), ?_, trivial⟩; (refine ⟨⟨[0], ?_⟩⟩; repeat' (first | (with_reducible rfl) | exact trivial | ((conv => whnf); (first | (with_reducible refine And.intro ?_ ?_) | (first | with_reducible rfl | ((first | refine congrArg V.str ?_ | refine congrArg (V.int _) ?_ | refine congrArg V.bool ?_ | refine congrArg V.sl ?_); (first | with_reducible rfl | omega | (exact hs) | rfl | (simp; done))) | (first | with_reducible rfl | omega | (exact hs) | rfl | (simp; done)) | rfl)))))))
      obtain ⟨p, hp⟩ : ∃ p, l.seen[i]? = some p := ⟨_, List.getElem?_eq_getElem hi⟩
      have hp2 := ok.s p (List.mem_of_getElem? hp)
      have b1 := textLe p.k (by omega); have b2 := nums1_len p.n (by omega)
      repeat' ((conv => whnf); (first
       | (with_reducible first | refine AW.seq ?_ | refine AW.region base (by kernel_rfl) ?_ | refine AW.cond ?_ | refine AW.block ?_ | refine AW.ret ?_ | refine AW.exit ?_ | refine AW.skip ?_ | refine Br.t ?_ | refine Br.f ?_)
       | (with_reducible refine Br.mkT (fun hb => (by (first | omega | (simp only [List.length_map, decide_eq_true_eq, decide_eq_false_iff_not] at hb; omega) | (rw [h] at hb; simp at hb; done) | fail))) (fun hb => ?_))
       | (with_reducible refine Br.mkF (fun hb => (by (first | omega | (simp only [List.length_map, decide_eq_true_eq, decide_eq_false_iff_not] at hb; omega) | (rw [h] at hb; simp at hb; done) | fail))) (fun hb => ?_))
       | ((with_reducible refine Or.inl ?_); (conv => whnf); (with_reducible refine And.intro LitSl.mk ?_))
       | refine Br.t ?_
       | refine Br.f ?_
       | ((with_reducible refine Or.inl ?_); (conv => whnf); (first | (with_reducible first | refine ⟨_, text_fn _ (by omega), ?_⟩) | refine ⟨_, nums_of _ [p.n] rfl (by simp) (by intro n hn; simp only [List.mem_cons, List.not_mem_nil, or_false] at hn; first | omega | fail), ?_⟩))
       | (with_reducible refine Br.mk (fun hb => ?_) (fun hb => ?_) <;> (try rw [hb]) <;> (try simp only [List.length_map, decide_eq_true_eq, decide_eq_false_iff_not, Bool.not_eq_true', Bool.not_eq_false', Int.ofNat_lt, Int.ofNat_le, Int.not_lt, Int.not_le, Int.toNat_natCast] at hb))
       | ((with_reducible first | refine Or.inl (And.intro ?_ ?_) | refine And.intro ?_ ?_); (focus (first | with_reducible rfl | exact trivial | (exact ⟨rfl, trivial⟩) | (exact ⟨rfl, rfl, trivial⟩) | omega | (intro r hr; simp only [List.mem_singleton] at hr; subst hr; rfl)  | ((simp only [List.length_map] at *; omega)) | ((simp only [List.length_append, flagB_len, maxLen] at *; omega)) | ((simp only [in64, maxLen] at *; omega)) | (simp only [in64]; omega) | assumption | (simp; done) | (simp [V.cells]; done) | (simp [in64, maxLen, limK] at *; omega) | ((show confB _ _ = true); kernel_rfl) | rfl)))
       | (intro row hrow; (try simp only [Int.toNat_natCast, List.length_map, toNat_pred, toNat_succ', toNat_zero', toNat_one'] at hrow); (first | (have hsm := same_map (by assumption) hrow; subst hsm; clear hrow) | (obtain ⟨p, hp, rfl⟩ := of_map hrow; clear hrow)))))
      all_goals (try first | with_reducible assumption | ((first | show (_ : Int) ≤ _ | show (_ : Nat) ≤ _ | show (_ : Int) < _ | show ¬ (_ : Int) = _); (first | omega | (simp at *; omega) | (simp; done) | (simp [maxLen]; done))) | ((show in64 _); (simp only [in64] at *; (first | omega | (simp at *; omega) | (simp; done) | (simp [maxLen]; done)))) | ((with_reducible refine And.intro ?_ ?_) <;> (first | omega | (simp at *; omega) | (simp; done) | (simp [maxLen]; done))))
      all_goals (first
        | (with_reducible exact absurd rfl (by assumption))
        | ((conv => whnf); (refine ⟨(i + 1, ?_), ?_⟩); (rotate_left 1); (refine And.intro ?_ (And.intro ?_ ?_)); (focus (refine ⟨⟨[0], ?_⟩⟩; repeat' (first | (with_reducible rfl) | exact trivial | ((conv => whnf); (first | (with_reducible refine And.intro ?_ ?_) | (first | with_reducible rfl | ((first | refine congrArg V.str ?_ | refine congrArg (V.int _) ?_ | refine congrArg V.bool ?_ | refine congrArg V.sl ?_); (first | with_reducible rfl | omega | rfl | (simp; done))) | (first | with_reducible rfl | omega | rfl | (simp; done)) | rfl)))))); (focus (refine ⟨by omega, ?_⟩; rw [hs]; simp only [snsBytes]; rw [flat_step _ hp, List.append_assoc]; rfl)); (focus (first | omega | (dsimp only; omega) | (simp; done) | (simp; omega) | (simp at *; omega))))
        | ((conv => whnf); (try (first | rfl | (exfalso; simp_all; done) | (exfalso; simp at *; omega))); done))

  · refine AW.loop (fun (⟨i, s⟩ : Nat × Bs) => i ≤ l.ev.length ∧ s = head3 l ++ evsBytes (l.ev.take i)) (fun (⟨i, s⟩ : Nat × Bs) => ⟨[(1, .ptr 0 0), (4, .str s), (88, .sl (l.ev.map encE)), (89, .int .i64 ((l.ev.map encE).length : Int)), (90, .int .i64 (i : Int))], [.cells (encL l)]⟩) (fun (⟨i, s⟩ : Nat × Bs) => l.ev.length - i) (0, head3 l) ?_ ?_ ?_
    · exact ⟨Nat.zero_le _, by simp [evsBytes]⟩
    · (refine ⟨⟨[0], ?_⟩⟩; repeat' (first | (with_reducible rfl) | exact trivial | ((conv => whnf); (first | (with_reducible refine And.intro ?_ ?_) | (first | with_reducible rfl | ((first | refine congrArg V.str ?_ | refine congrArg (V.int _) ?_ | refine congrArg V.bool ?_ | refine congrArg V.sl ?_); (first | with_reducible rfl | omega | (simp; done) | rfl | (simp; done))) | (first | with_reducible rfl | omega | (simp; done) | rfl | (simp; done)) | rfl)))))
    · rintro ⟨i, s⟩ hk
      obtain ⟨hi1, hs⟩ := hk
      have hsl0 : s.length ≤ 11300 := by rw [hs, List.length_append]; have := evsBytes_len ok i; omega
      rcases (by omega : i = l.ev.length ∨ i < l.ev.length) with hi | hi
      · subst hi
        rw [List.take_length] at hs
        repeat' ((conv => whnf); (first
         | (with_reducible first | refine AW.seq ?_ | refine AW.region base (by kernel_rfl) ?_ | refine AW.cond ?_ | refine AW.block ?_ | refine AW.ret ?_ | refine AW.exit ?_ | refine AW.skip ?_ | refine Br.t ?_ | refine Br.f ?_)
         | (with_reducible refine Br.mkT (fun hb => (by (first | omega | (simp only [List.length_map, decide_eq_true_eq, decide_eq_false_iff_not] at hb; omega) | (rw [h] at hb; simp at hb; done) | fail))) (fun hb => ?_))
         | (with_reducible refine Br.mkF (fun hb => (by (first | omega | (simp only [List.length_map, decide_eq_true_eq, decide_eq_false_iff_not] at hb; omega) | (rw [h] at hb; simp at hb; done) | fail))) (fun hb => ?_))
         | ((with_reducible refine Or.inl ?_); (conv => whnf); (with_reducible refine And.intro LitSl.mk ?_))
         | refine Br.t ?_
         | refine Br.f ?_
         | (with_reducible refine Br.mk (fun hb => ?_) (fun hb => ?_) <;> (try rw [hb]) <;> (try simp only [List.length_map, decide_eq_true_eq, decide_eq_false_iff_not, Bool.not_eq_true', Bool.not_eq_false', Int.ofNat_lt, Int.ofNat_le, Int.not_lt, Int.not_le, Int.toNat_natCast] at hb))
         | ((with_reducible first | refine Or.inl (And.intro ?_ ?_) | refine And.intro ?_ ?_); (focus (first | with_reducible rfl | exact trivial | (exact ⟨rfl, trivial⟩) | (exact ⟨rfl, rfl, trivial⟩) | omega | (intro r hr; simp only [List.mem_singleton] at hr; subst hr; rfl)  | ((simp only [List.length_map] at *; omega)) | ((simp only [List.length_append, flagB_len, maxLen] at *; omega)) | ((simp only [in64, maxLen] at *; omega)) | (simp only [in64]; omega) | assumption | (simp; done) | (simp [V.cells]; done) | (simp [in64, maxLen, limK] at *; omega) | ((show confB _ _ = true); kernel_rfl) | rfl)))
         | (intro row hrow; (try simp only [Int.toNat_natCast, List.length_map, toNat_pred, toNat_succ', toNat_zero', toNat_one'] at hrow); (first | (have hsm := same_map (by assumption) hrow; subst hsm; clear hrow) | (obtain ⟨p, hp, rfl⟩ := of_map hrow; clear hrow)))))
        all_goals ((conv => whnf); (refine ⟨(), ?_, trivial⟩; (refine ⟨⟨[0], ?_⟩⟩; repeat' (first | (with_reducible rfl) | exact trivial | ((conv => whnf); (first | (with_reducible refine And.intro ?_ ?_) | (first | with_reducible rfl | ((first | refine congrArg V.str ?_ | refine congrArg (V.int _) ?_ | refine congrArg V.bool ?_ | refine congrArg V.sl ?_); (first | with_reducible rfl | omega | (exact hs) | rfl | (simp; done))) | (first | with_reducible rfl | omega | (exact hs) | rfl | (simp; done)) | rfl)))))))
      obtain ⟨p, hp⟩ : ∃ p, l.ev[i]? = some p := ⟨_, List.getElem?_eq_getElem hi⟩
      have hp2 := ok.e p (List.mem_of_getElem? hp)
      have b1 := textLe p.k (by omega); have b2 := nums1_len p.n (by omega); have b3 := textLe p.v (by omega); have b4 : (if p.d then [1] else [0] : Bs).length = 1 := by split <;> rfl
      repeat' ((conv => whnf); (first
       | (with_reducible first | refine AW.seq ?_ | refine AW.region base (by kernel_rfl) ?_ | refine AW.cond ?_ | refine AW.block ?_ | refine AW.ret ?_ | refine AW.exit ?_ | refine AW.skip ?_ | refine Br.t ?_ | refine Br.f ?_)
       | (with_reducible refine Br.mkT (fun hb => (by (first | omega | (simp only [List.length_map, decide_eq_true_eq, decide_eq_false_iff_not] at hb; omega) | (rw [h] at hb; simp at hb; done) | fail))) (fun hb => ?_))
       | (with_reducible refine Br.mkF (fun hb => (by (first | omega | (simp only [List.length_map, decide_eq_true_eq, decide_eq_false_iff_not] at hb; omega) | (rw [h] at hb; simp at hb; done) | fail))) (fun hb => ?_))
       | ((with_reducible refine Or.inl ?_); (conv => whnf); (with_reducible refine And.intro LitSl.mk ?_))
       | refine Br.t ?_
       | refine Br.f ?_
       | ((with_reducible refine Or.inl ?_); (conv => whnf); (first | (with_reducible first | refine ⟨_, text_fn _ (by omega), ?_⟩ | refine ⟨_, flagB_fn _, ?_⟩) | refine ⟨_, nums_of _ [p.n] rfl (by simp) (by intro n hn; simp only [List.mem_cons, List.not_mem_nil, or_false] at hn; first | omega | fail), ?_⟩))
       | (with_reducible refine Br.mk (fun hb => ?_) (fun hb => ?_) <;> (try rw [hb]) <;> (try simp only [List.length_map, decide_eq_true_eq, decide_eq_false_iff_not, Bool.not_eq_true', Bool.not_eq_false', Int.ofNat_lt, Int.ofNat_le, Int.not_lt, Int.not_le, Int.toNat_natCast] at hb))
       | ((with_reducible first | refine Or.inl (And.intro ?_ ?_) | refine And.intro ?_ ?_); (focus (first | with_reducible rfl | exact trivial | (exact ⟨rfl, trivial⟩) | (exact ⟨rfl, rfl, trivial⟩) | omega | (intro r hr; simp only [List.mem_singleton] at hr; subst hr; rfl)  | ((simp only [List.length_map] at *; omega)) | ((simp only [List.length_append, flagB_len, maxLen] at *; omega)) | ((simp only [in64, maxLen] at *; omega)) | (simp only [in64]; omega) | assumption | (simp; done) | (simp [V.cells]; done) | (simp [in64, maxLen, limK] at *; omega) | ((show confB _ _ = true); kernel_rfl) | rfl)))
       | (intro row hrow; (try simp only [Int.toNat_natCast, List.length_map, toNat_pred, toNat_succ', toNat_zero', toNat_one'] at hrow); (first | (have hsm := same_map (by assumption) hrow; subst hsm; clear hrow) | (obtain ⟨p, hp, rfl⟩ := of_map hrow; clear hrow)))))
      all_goals (try first | with_reducible assumption | ((first | show (_ : Int) ≤ _ | show (_ : Nat) ≤ _ | show (_ : Int) < _ | show ¬ (_ : Int) = _); (first | omega | (simp at *; omega) | (simp; done) | (simp [maxLen]; done))) | ((show in64 _); (simp only [in64] at *; (first | omega | (simp at *; omega) | (simp; done) | (simp [maxLen]; done)))) | ((with_reducible refine And.intro ?_ ?_) <;> (first | omega | (simp at *; omega) | (simp; done) | (simp [maxLen]; done))))
      all_goals (first
        | (with_reducible exact absurd rfl (by assumption))
        | ((conv => whnf); (refine ⟨(i + 1, ?_), ?_⟩); (rotate_left 1); (refine And.intro ?_ (And.intro ?_ ?_)); (focus (refine ⟨⟨[0], ?_⟩⟩; repeat' (first | (with_reducible rfl) | exact trivial | ((conv => whnf); (first | (with_reducible refine And.intro ?_ ?_) | (first | with_reducible rfl | ((first | refine congrArg V.str ?_ | refine congrArg (V.int _) ?_ | refine congrArg V.bool ?_ | refine congrArg V.sl ?_); (first | with_reducible rfl | omega | rfl | (simp; done))) | (first | with_reducible rfl | omega | rfl | (simp; done)) | rfl)))))); (focus (refine ⟨by omega, ?_⟩; rw [hs]; simp only [evsBytes]; rw [flat_step _ hp, List.append_assoc]; rfl)); (focus (first | omega | (dsimp only; omega) | (simp; done) | (simp; omega) | (simp at *; omega))))
        | ((conv => whnf); (try (first | rfl | (exfalso; simp_all; done) | (exfalso; simp at *; omega))); done))

  · refine AW.loop (fun (⟨i, s⟩ : Nat × Bs) => i ≤ l.pl.length ∧ s = head4 l ++ plsBytes (l.pl.take i)) (fun (⟨i, s⟩ : Nat × Bs) => ⟨[(1, .ptr 0 0), (4, .str s), (121, .sl (l.pl.map encP)), (122, .int .i64 ((l.pl.map encP).length : Int)), (123, .int .i64 (i : Int))], [.cells (encL l)]⟩) (fun (⟨i, s⟩ : Nat × Bs) => l.pl.length - i) (0, head4 l) ?_ ?_ ?_
    · exact ⟨Nat.zero_le _, by simp [plsBytes]⟩
    · (refine ⟨⟨[0], ?_⟩⟩; repeat' (first | (with_reducible rfl) | exact trivial | ((conv => whnf); (first | (with_reducible refine And.intro ?_ ?_) | (first | with_reducible rfl | ((first | refine congrArg V.str ?_ | refine congrArg (V.int _) ?_ | refine congrArg V.bool ?_ | refine congrArg V.sl ?_); (first | with_reducible rfl | omega | (simp; done) | rfl | (simp; done))) | (first | with_reducible rfl | omega | (simp; done) | rfl | (simp; done)) | rfl)))))
    · rintro ⟨i, s⟩ hk
      obtain ⟨hi1, hs⟩ := hk
      have hsl0 : s.length ≤ 11900 := by rw [hs, List.length_append]; have := plsBytes_len ok i; omega
      rcases (by omega : i = l.pl.length ∨ i < l.pl.length) with hi | hi
      · subst hi
        rw [List.take_length] at hs
        repeat' ((conv => whnf); (first
         | (with_reducible first | refine AW.seq ?_ | refine AW.region base (by kernel_rfl) ?_ | refine AW.cond ?_ | refine AW.block ?_ | refine AW.ret ?_ | refine AW.exit ?_ | refine AW.skip ?_ | refine Br.t ?_ | refine Br.f ?_)
         | (with_reducible refine Br.mkT (fun hb => (by (first | omega | (simp only [List.length_map, decide_eq_true_eq, decide_eq_false_iff_not] at hb; omega) | (rw [h] at hb; simp at hb; done) | fail))) (fun hb => ?_))
         | (with_reducible refine Br.mkF (fun hb => (by (first | omega | (simp only [List.length_map, decide_eq_true_eq, decide_eq_false_iff_not] at hb; omega) | (rw [h] at hb; simp at hb; done) | fail))) (fun hb => ?_))
         | ((with_reducible refine Or.inl ?_); (conv => whnf); (with_reducible refine And.intro LitSl.mk ?_))
         | refine Br.t ?_
         | refine Br.f ?_
         | (with_reducible refine Br.mk (fun hb => ?_) (fun hb => ?_) <;> (try rw [hb]) <;> (try simp only [List.length_map, decide_eq_true_eq, decide_eq_false_iff_not, Bool.not_eq_true', Bool.not_eq_false', Int.ofNat_lt, Int.ofNat_le, Int.not_lt, Int.not_le, Int.toNat_natCast] at hb))
         | ((with_reducible first | refine Or.inl (And.intro ?_ ?_) | refine And.intro ?_ ?_); (focus (first | with_reducible rfl | exact trivial | (exact ⟨rfl, trivial⟩) | (exact ⟨rfl, rfl, trivial⟩) | omega | (intro r hr; simp only [List.mem_singleton] at hr; subst hr; rfl)  | ((simp only [List.length_map] at *; omega)) | ((simp only [List.length_append, flagB_len, maxLen] at *; omega)) | ((simp only [in64, maxLen] at *; omega)) | (simp only [in64]; omega) | assumption | (simp; done) | (simp [V.cells]; done) | (simp [in64, maxLen, limK] at *; omega) | ((show confB _ _ = true); kernel_rfl) | rfl)))
         | (intro row hrow; (try simp only [Int.toNat_natCast, List.length_map, toNat_pred, toNat_succ', toNat_zero', toNat_one'] at hrow); (first | (have hsm := same_map (by assumption) hrow; subst hsm; clear hrow) | (obtain ⟨p, hp, rfl⟩ := of_map hrow; clear hrow)))))
        all_goals ((conv => whnf); (refine ⟨(), ?_, trivial⟩; (refine ⟨⟨[0], ?_⟩⟩; repeat' (first | (with_reducible rfl) | exact trivial | ((conv => whnf); (first | (with_reducible refine And.intro ?_ ?_) | (first | with_reducible rfl | ((first | refine congrArg V.str ?_ | refine congrArg (V.int _) ?_ | refine congrArg V.bool ?_ | refine congrArg V.sl ?_); (first | with_reducible rfl | omega | (exact hs) | rfl | (simp; done))) | (first | with_reducible rfl | omega | (exact hs) | rfl | (simp; done)) | rfl)))))))
      obtain ⟨p, hp⟩ : ∃ p, l.pl[i]? = some p := ⟨_, List.getElem?_eq_getElem hi⟩
      have hp2 := ok.p p (List.mem_of_getElem? hp)
      have b1 := textLe p.f (by omega); have b3 := textLe p.t (by omega)
      have b2 := numsB_len [p.id, p.ep, p.nd] (by intro n hn; simp at hn; omega)
      simp only [List.length_cons, List.length_nil] at b2
      repeat' ((conv => whnf); (first
       | (with_reducible first | refine AW.seq ?_ | refine AW.region base (by kernel_rfl) ?_ | refine AW.cond ?_ | refine AW.block ?_ | refine AW.ret ?_ | refine AW.exit ?_ | refine AW.skip ?_ | refine Br.t ?_ | refine Br.f ?_)
       | (with_reducible refine Br.mkT (fun hb => (by (first | omega | (simp only [List.length_map, decide_eq_true_eq, decide_eq_false_iff_not] at hb; omega) | (rw [h] at hb; simp at hb; done) | fail))) (fun hb => ?_))
       | (with_reducible refine Br.mkF (fun hb => (by (first | omega | (simp only [List.length_map, decide_eq_true_eq, decide_eq_false_iff_not] at hb; omega) | (rw [h] at hb; simp at hb; done) | fail))) (fun hb => ?_))
       | ((with_reducible refine Or.inl ?_); (conv => whnf); (with_reducible refine And.intro LitSl.mk ?_))
       | refine Br.t ?_
       | refine Br.f ?_
       | ((with_reducible refine Or.inl ?_); (conv => whnf); (first | (with_reducible first | refine ⟨_, text_fn _ (by omega), ?_⟩) | refine ⟨_, nums_of _ [p.id, p.ep, p.nd] rfl (by simp) (by intro n hn; simp only [List.mem_cons, List.not_mem_nil, or_false] at hn; first | omega | fail), ?_⟩))
       | (with_reducible refine Br.mk (fun hb => ?_) (fun hb => ?_) <;> (try rw [hb]) <;> (try simp only [List.length_map, decide_eq_true_eq, decide_eq_false_iff_not, Bool.not_eq_true', Bool.not_eq_false', Int.ofNat_lt, Int.ofNat_le, Int.not_lt, Int.not_le, Int.toNat_natCast] at hb))
       | ((with_reducible first | refine Or.inl (And.intro ?_ ?_) | refine And.intro ?_ ?_); (focus (first | with_reducible rfl | exact trivial | (exact ⟨rfl, trivial⟩) | (exact ⟨rfl, rfl, trivial⟩) | omega | (intro r hr; simp only [List.mem_singleton] at hr; subst hr; rfl)  | ((simp only [List.length_map] at *; omega)) | ((simp only [List.length_append, flagB_len, maxLen] at *; omega)) | ((simp only [in64, maxLen] at *; omega)) | (simp only [in64]; omega) | assumption | (simp; done) | (simp [V.cells]; done) | (simp [in64, maxLen, limK] at *; omega) | ((show confB _ _ = true); kernel_rfl) | rfl)))
       | (intro row hrow; (try simp only [Int.toNat_natCast, List.length_map, toNat_pred, toNat_succ', toNat_zero', toNat_one'] at hrow); (first | (have hsm := same_map (by assumption) hrow; subst hsm; clear hrow) | (obtain ⟨p, hp, rfl⟩ := of_map hrow; clear hrow)))))
      all_goals (try first | with_reducible assumption | ((first | show (_ : Int) ≤ _ | show (_ : Nat) ≤ _ | show (_ : Int) < _ | show ¬ (_ : Int) = _); (first | omega | (simp at *; omega) | (simp; done) | (simp [maxLen]; done))) | ((show in64 _); (simp only [in64] at *; (first | omega | (simp at *; omega) | (simp; done) | (simp [maxLen]; done)))) | ((with_reducible refine And.intro ?_ ?_) <;> (first | omega | (simp at *; omega) | (simp; done) | (simp [maxLen]; done))))
      all_goals (first
        | (with_reducible exact absurd rfl (by assumption))
        | ((conv => whnf); (refine ⟨(i + 1, ?_), ?_⟩); (rotate_left 1); (refine And.intro ?_ (And.intro ?_ ?_)); (focus (refine ⟨⟨[0], ?_⟩⟩; repeat' (first | (with_reducible rfl) | exact trivial | ((conv => whnf); (first | (with_reducible refine And.intro ?_ ?_) | (first | with_reducible rfl | ((first | refine congrArg V.str ?_ | refine congrArg (V.int _) ?_ | refine congrArg V.bool ?_ | refine congrArg V.sl ?_); (first | with_reducible rfl | omega | rfl | (simp; done))) | (first | with_reducible rfl | omega | rfl | (simp; done)) | rfl)))))); (focus (refine ⟨by omega, ?_⟩; rw [hs]; simp only [plsBytes]; rw [flat_step _ hp, List.append_assoc]; rfl)); (focus (first | omega | (dsimp only; omega) | (simp; done) | (simp; omega) | (simp at *; omega))))
        | ((conv => whnf); (try (first | rfl | (exfalso; simp_all; done) | (exfalso; simp at *; omega))); done))

  all_goals ((conv => whnf); first | done | rfl)

theorem letBytes_fn (l : LetV) : Fn Tryz.prog 21 [.agg (encL l)] (.str (if letB l then bytesL l else [])) := by
  cases h : letB l
  · exact letBytes_not l h
  · exact letBytes_ok l h
end Go.Proofs.YtnblecdpkbempaaGreatDoor
