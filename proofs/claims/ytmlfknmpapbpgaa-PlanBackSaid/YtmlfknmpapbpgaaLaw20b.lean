/-
  A law of plans: split and joined a plan has the same spans; what can't be leaves it as it is: its walk. No conditions.
-/
import Derived.Test.YtmlfknmpapbpgaaLaw20k
namespace Go.Proofs.Ytmlfknmpapbpgaa
open Go.RowKit
set_option linter.unusedSimpArgs false
set_option linter.unusedVariables false

theorem eq_take {α : Type} {l m : List α} {k : Nat} {p q : α} (h1 : l[k]? = some p) (h2 : m[k]? = some q) (h : l.take k = m.take k) : l.take (k + 1) = m.take (k + 1) ↔ p = q := by
  rw [List.take_add_one, List.take_add_one, h1, h2, h]; simp
theorem neq_of {α : Type} {l m : List α} {k : Nat} {p q : α} (h1 : l[k]? = some p) (h2 : m[k]? = some q) (h : ¬ p = q) : ¬ l = m := by
  rintro rfl; rw [h1] at h2; exact h (Option.some.inj h2)
theorem extPlc {p q : Plc} (h : p.id = q.id ∧ p.ep = q.ep ∧ p.nd = q.nd ∧ p.f = q.f ∧ p.t = q.t) : p = q := by
  cases p; cases q; simp at h; simp [h]
theorem cut_all {key : Bs} (h : isKeyB key = true) : cutB ⟨[], []⟩ key = true := by
  have h1 : isB ⟨[], []⟩ = true := by simp [isB]
  have h2 : blt key [] = false := blt_nilP key
  have h3 : blt [] key = true := by
    cases key with
    | nil => simp [isKeyB] at h
    | cons a r => rfl
  simp [cutB, hasB, h1, h, h2, h3]
theorem cut_all_no {key : Bs} (h : isKeyB key = false) : cutB ⟨[], []⟩ key = false := by simp [cutB, hasB, h]

set_option maxRecDepth 100000 in
set_option maxHeartbeats 400000 in
theorem samePlaces_fn (l m : List Plc) : Fn Try.prog 12 [.sl (l.map encP), .sl (m.map encP)] (.bool (decide (l = m))) := by
  refine Fn.mk' base Try.func12 rfl rfl rfl ?_
  refine AW.len 0 rfl (fun hlen => ?_)
  simp only [List.length_map, maxLen] at hlen
  refine AW.len 1 rfl (fun hlen2 => ?_)
  simp only [List.length_map, maxLen] at hlen2
  by_cases hlm : l.length = m.length
  case neg =>
    have hne : ¬ l = m := fun e => hlm (by rw [e])
    rw [decide_eq_false hne]
    repeat' ((conv => whnf); (first
     | (with_reducible first | refine AW.seq ?_ | refine AW.region base (by kernel_rfl) ?_ | refine AW.cond ?_ | refine AW.block ?_ | refine AW.ret ?_ | refine AW.exit ?_ | refine AW.skip ?_ | refine Br.t ?_ | refine Br.f ?_)
     | (with_reducible refine Br.mkT (fun hb => (by (first | (simp at hb; done) | omega | (simp at hb; omega) | (simp only [List.length_map, decide_eq_true_eq, decide_eq_false_iff_not] at hb; omega) | fail))) (fun hb => ?_))
     | (with_reducible refine Br.mkF (fun hb => (by (first | (simp at hb; done) | omega | (simp at hb; omega) | (simp only [List.length_map, decide_eq_true_eq, decide_eq_false_iff_not] at hb; omega) | fail))) (fun hb => ?_))
     | ((with_reducible refine Or.inl ?_); (conv => whnf); (with_reducible refine And.intro LitSl.mk ?_))
     | refine Br.t ?_
     | refine Br.f ?_
     | (with_reducible refine Br.mk (fun hb => ?_) (fun hb => ?_) <;> (try rw [hb]) <;> (try simp only [List.length_map, decide_eq_true_eq, decide_eq_false_iff_not, Bool.not_eq_true', Bool.not_eq_false', Int.ofNat_lt, Int.ofNat_le, Int.not_lt, Int.not_le, Int.toNat_natCast] at hb))
     | ((with_reducible first | refine Or.inl (And.intro ?_ ?_) | refine And.intro ?_ ?_); (focus (first | with_reducible rfl | exact trivial | (exact ⟨rfl, trivial⟩) | (exact ⟨rfl, rfl, trivial⟩) | omega | (intro r hr; simp only [List.mem_singleton] at hr; subst hr; rfl)  | ((simp only [List.length_map] at *; omega)) | ((simp only [in64, maxLen] at *; omega)) | (simp only [in64]; omega) | assumption | (simp; done) | (simp [V.cells]; done) | (simp [in64, maxLen, limK] at *; omega) | ((show confB _ _ = true); kernel_rfl) | rfl)))
     | (intro row hrow; (try simp only [Int.toNat_natCast, List.length_map, toNat_pred, toNat_succ', toNat_zero', toNat_one'] at hrow); (first | (have hsm := same_map (by assumption) hrow; subst hsm; clear hrow) | (obtain ⟨p, hp, rfl⟩ := of_map hrow; clear hrow)))))
    all_goals ((conv => whnf); first | done | rfl)
  repeat' ((conv => whnf); (first
   | (with_reducible first | refine AW.seq ?_ | refine AW.region base (by kernel_rfl) ?_ | refine AW.cond ?_ | refine AW.block ?_ | refine AW.ret ?_ | refine AW.exit ?_ | refine AW.skip ?_ | refine Br.t ?_ | refine Br.f ?_)
   | (with_reducible refine Br.mkT (fun hb => (by (first | (simp at hb; done) | omega | (simp at hb; omega) | (simp only [List.length_map, decide_eq_true_eq, decide_eq_false_iff_not] at hb; omega) | fail))) (fun hb => ?_))
   | (with_reducible refine Br.mkF (fun hb => (by (first | (simp at hb; done) | omega | (simp at hb; omega) | (simp only [List.length_map, decide_eq_true_eq, decide_eq_false_iff_not] at hb; omega) | fail))) (fun hb => ?_))
   | ((with_reducible refine Or.inl ?_); (conv => whnf); (with_reducible refine And.intro LitSl.mk ?_))
   | refine Br.t ?_
   | refine Br.f ?_
   | (with_reducible refine Br.mk (fun hb => ?_) (fun hb => ?_) <;> (try rw [hb]) <;> (try simp only [List.length_map, decide_eq_true_eq, decide_eq_false_iff_not, Bool.not_eq_true', Bool.not_eq_false', Int.ofNat_lt, Int.ofNat_le, Int.not_lt, Int.not_le, Int.toNat_natCast] at hb))
   | ((with_reducible first | refine Or.inl (And.intro ?_ ?_) | refine And.intro ?_ ?_); (focus (first | with_reducible rfl | exact trivial | (exact ⟨rfl, trivial⟩) | (exact ⟨rfl, rfl, trivial⟩) | omega | (intro r hr; simp only [List.mem_singleton] at hr; subst hr; rfl)  | ((simp only [List.length_map] at *; omega)) | ((simp only [in64, maxLen] at *; omega)) | (simp only [in64]; omega) | assumption | (simp; done) | (simp [V.cells]; done) | (simp [in64, maxLen, limK] at *; omega) | ((show confB _ _ = true); kernel_rfl) | rfl)))
   | (intro row hrow; (try simp only [Int.toNat_natCast, List.length_map, toNat_pred, toNat_succ', toNat_zero', toNat_one'] at hrow); (first | (have hsm := same_map (by assumption) hrow; subst hsm; clear hrow) | (obtain ⟨p, hp, rfl⟩ := of_map hrow; clear hrow)))))
  refine AW.loop (fun (i : Nat) => i ≤ l.length ∧ l.take i = m.take i) (fun (i : Nat) => ⟨[(0, .sl (l.map encP)), (1, .sl (m.map encP)), (5, .int .i64 (i : Int))], []⟩) (fun i => l.length - i) 0 ?_ ?_ ?_
  · exact ⟨Nat.zero_le _, rfl⟩
  · (refine ⟨⟨[], ?_⟩⟩; repeat' (first | (with_reducible rfl) | exact trivial | ((conv => whnf); (first | (with_reducible refine And.intro ?_ ?_) | (first | with_reducible rfl | ((first | refine congrArg V.str ?_ | refine congrArg (V.int _) ?_ | refine congrArg V.bool ?_ | refine congrArg V.sl ?_); (first | with_reducible rfl | omega | rfl | (simp; done))) | (first | with_reducible rfl | omega | rfl | (simp; done)) | rfl)))))
  · rintro i hk
    obtain ⟨hk1, hk2⟩ := hk
    rcases (by omega : i = l.length ∨ i < l.length) with hi | hi
    · have e : l = m := by rw [hi, List.take_length, hlm, List.take_length] at hk2; exact hk2
      rw [decide_eq_true e]
      repeat' ((conv => whnf); (first
       | (with_reducible first | refine AW.seq ?_ | refine AW.region base (by kernel_rfl) ?_ | refine AW.cond ?_ | refine AW.block ?_ | refine AW.ret ?_ | refine AW.exit ?_ | refine AW.skip ?_ | refine Br.t ?_ | refine Br.f ?_)
       | (with_reducible refine Br.mkT (fun hb => (by (first | (simp at hb; done) | omega | (simp at hb; omega) | (simp only [List.length_map, decide_eq_true_eq, decide_eq_false_iff_not] at hb; omega) | fail))) (fun hb => ?_))
       | (with_reducible refine Br.mkF (fun hb => (by (first | (simp at hb; done) | omega | (simp at hb; omega) | (simp only [List.length_map, decide_eq_true_eq, decide_eq_false_iff_not] at hb; omega) | fail))) (fun hb => ?_))
       | ((with_reducible refine Or.inl ?_); (conv => whnf); (with_reducible refine And.intro LitSl.mk ?_))
       | refine Br.t ?_
       | refine Br.f ?_
       | (with_reducible refine Br.mk (fun hb => ?_) (fun hb => ?_) <;> (try rw [hb]) <;> (try simp only [List.length_map, decide_eq_true_eq, decide_eq_false_iff_not, Bool.not_eq_true', Bool.not_eq_false', Int.ofNat_lt, Int.ofNat_le, Int.not_lt, Int.not_le, Int.toNat_natCast] at hb))
       | ((with_reducible first | refine Or.inl (And.intro ?_ ?_) | refine And.intro ?_ ?_); (focus (first | with_reducible rfl | exact trivial | (exact ⟨rfl, trivial⟩) | (exact ⟨rfl, rfl, trivial⟩) | omega | (intro r hr; simp only [List.mem_singleton] at hr; subst hr; rfl)  | ((simp only [List.length_map] at *; omega)) | ((simp only [in64, maxLen] at *; omega)) | (simp only [in64]; omega) | assumption | (simp; done) | (simp [V.cells]; done) | (simp [in64, maxLen, limK] at *; omega) | ((show confB _ _ = true); kernel_rfl) | rfl)))
       | (intro row hrow; (try simp only [Int.toNat_natCast, List.length_map, toNat_pred, toNat_succ', toNat_zero', toNat_one'] at hrow); (first | (have hsm := same_map (by assumption) hrow; subst hsm; clear hrow) | (obtain ⟨p, hp, rfl⟩ := of_map hrow; clear hrow)))))
      all_goals ((conv => whnf); first | done | rfl)
    obtain ⟨p, hp⟩ : ∃ p, l[i]? = some p := ⟨_, List.getElem?_eq_getElem hi⟩
    obtain ⟨q, hq⟩ : ∃ q, m[i]? = some q := ⟨_, List.getElem?_eq_getElem (by omega)⟩
    by_cases hpq : p = q
    · subst hpq
      repeat' ((conv => whnf); (first
       | (with_reducible first | refine AW.seq ?_ | refine AW.region base (by kernel_rfl) ?_ | refine AW.cond ?_ | refine AW.block ?_ | refine AW.ret ?_ | refine AW.exit ?_ | refine AW.skip ?_ | refine Br.t ?_ | refine Br.f ?_)
       | (with_reducible refine Br.mkT (fun hb => (by (first | (simp at hb; done) | omega | (simp at hb; omega) | (simp only [List.length_map, decide_eq_true_eq, decide_eq_false_iff_not] at hb; omega) | fail))) (fun hb => ?_))
       | (with_reducible refine Br.mkF (fun hb => (by (first | (simp at hb; done) | omega | (simp at hb; omega) | (simp only [List.length_map, decide_eq_true_eq, decide_eq_false_iff_not] at hb; omega) | fail))) (fun hb => ?_))
       | ((with_reducible refine Or.inl ?_); (conv => whnf); (with_reducible refine And.intro LitSl.mk ?_))
       | refine Br.t ?_
       | refine Br.f ?_
       | (with_reducible refine Br.mk (fun hb => ?_) (fun hb => ?_) <;> (try rw [hb]) <;> (try simp only [List.length_map, decide_eq_true_eq, decide_eq_false_iff_not, Bool.not_eq_true', Bool.not_eq_false', Int.ofNat_lt, Int.ofNat_le, Int.not_lt, Int.not_le, Int.toNat_natCast] at hb))
       | ((with_reducible first | refine Or.inl (And.intro ?_ ?_) | refine And.intro ?_ ?_); (focus (first | with_reducible rfl | exact trivial | (exact ⟨rfl, trivial⟩) | (exact ⟨rfl, rfl, trivial⟩) | omega | (intro r hr; simp only [List.mem_singleton] at hr; subst hr; rfl)  | ((simp only [List.length_map] at *; omega)) | ((simp only [in64, maxLen] at *; omega)) | (simp only [in64]; omega) | assumption | (simp; done) | (simp [V.cells]; done) | (simp [in64, maxLen, limK] at *; omega) | ((show confB _ _ = true); kernel_rfl) | rfl)))
       | (intro row hrow; (try simp only [Int.toNat_natCast, List.length_map, toNat_pred, toNat_succ', toNat_zero', toNat_one'] at hrow); (first | (have hsm := same_map (by assumption) hrow; subst hsm; clear hrow) | (obtain ⟨p, hp, rfl⟩ := of_map hrow; clear hrow)))))
      all_goals ((conv => whnf); (refine ⟨i + 1, ?_⟩); (refine And.intro ?_ (And.intro ?_ ?_)); (focus (refine ⟨⟨[], ?_⟩⟩; repeat' (first | (with_reducible rfl) | exact trivial | ((conv => whnf); (first | (with_reducible refine And.intro ?_ ?_) | (first | with_reducible rfl | ((first | refine congrArg V.str ?_ | refine congrArg (V.int _) ?_ | refine congrArg V.bool ?_ | refine congrArg V.sl ?_); (first | with_reducible rfl | omega | rfl | (simp; done))) | (first | with_reducible rfl | omega | rfl | (simp; done)) | rfl)))))); (focus (exact ⟨by omega, (eq_take hp hq hk2).2 rfl⟩)); (focus omega))
    · have hne := neq_of hp hq hpq
      rw [decide_eq_false hne]
      repeat' ((conv => whnf); (first
       | (with_reducible first | refine AW.seq ?_ | refine AW.region base (by kernel_rfl) ?_ | refine AW.cond ?_ | refine AW.block ?_ | refine AW.ret ?_ | refine AW.exit ?_ | refine AW.skip ?_ | refine Br.t ?_ | refine Br.f ?_)
       | (with_reducible refine Br.mkT (fun hb => (by (first | (simp at hb; done) | omega | (simp at hb; omega) | (simp only [List.length_map, decide_eq_true_eq, decide_eq_false_iff_not] at hb; omega) | (exact absurd (extPlc (by simpa using hb)) hpq) | (exact absurd (extPlc (by simpa [and_assoc] using hb)) hpq) | fail))) (fun hb => ?_))
       | (with_reducible refine Br.mkF (fun hb => (by (first | (simp at hb; done) | omega | (simp at hb; omega) | (simp only [List.length_map, decide_eq_true_eq, decide_eq_false_iff_not] at hb; omega) | (exact absurd (extPlc (by simpa using hb)) hpq) | (exact absurd (extPlc (by simpa [and_assoc] using hb)) hpq) | fail))) (fun hb => ?_))
       | ((with_reducible refine Or.inl ?_); (conv => whnf); (with_reducible refine And.intro LitSl.mk ?_))
       | refine Br.t ?_
       | refine Br.f ?_
       | (with_reducible refine Br.mk (fun hb => ?_) (fun hb => ?_) <;> (try rw [hb]) <;> (try simp only [List.length_map, decide_eq_true_eq, decide_eq_false_iff_not, Bool.not_eq_true', Bool.not_eq_false', Int.ofNat_lt, Int.ofNat_le, Int.not_lt, Int.not_le, Int.toNat_natCast] at hb))
       | ((with_reducible first | refine Or.inl (And.intro ?_ ?_) | refine And.intro ?_ ?_); (focus (first | with_reducible rfl | exact trivial | (exact ⟨rfl, trivial⟩) | (exact ⟨rfl, rfl, trivial⟩) | omega | (intro r hr; simp only [List.mem_singleton] at hr; subst hr; rfl)  | ((simp only [List.length_map] at *; omega)) | ((simp only [in64, maxLen] at *; omega)) | (simp only [in64]; omega) | assumption | (simp; done) | (simp [V.cells]; done) | (simp [in64, maxLen, limK] at *; omega) | ((show confB _ _ = true); kernel_rfl) | rfl)))
       | (intro row hrow; (try simp only [Int.toNat_natCast, List.length_map, toNat_pred, toNat_succ', toNat_zero', toNat_one'] at hrow); (first | (have hsm := same_map (by assumption) hrow; subst hsm; clear hrow) | (obtain ⟨p, hp, rfl⟩ := of_map hrow; clear hrow)))))
      all_goals ((conv => whnf); first | done | rfl)

theorem samePlaces_refl (l : List Plc) : Fn Try.prog 12 [.sl (l.map encP), .sl (l.map encP)] (.bool true) := by
  have := samePlaces_fn l l; rwa [decide_eq_true rfl] at this

theorem b_move (e n : Int) : Fn Try.prog 9 [.sl [[.int .i64 1, .int .i64 1, .int .i64 0, .str [], .str []]], .int .i64 1, .int .i64 e, .int .i64 n] (.sl [[.int .i64 1, .int .i64 e, .int .i64 n, .str [], .str []]]) := by
  have h := moveG_fn ([⟨1, 1, 0, [], []⟩] : List Plc) 1 e n (by simp)
  rw [show moveP ([⟨1, 1, 0, [], []⟩] : List Plc) 1 e n = ([⟨1, e, n, [], []⟩] : List Plc) from rfl] at h
  exact h

theorem b_split (e n : Int) (key : Bs) (hk : isKeyB key = true) : Fn Try.prog 7 [.sl [[.int .i64 1, .int .i64 e, .int .i64 n, .str [], .str []]], .int .i64 1, .str key, .int .i64 2, .int .i64 3] (.sl [[.int .i64 2, .int .i64 1, .int .i64 n, .str [], .str key], [.int .i64 3, .int .i64 1, .int .i64 n, .str key, .str []]]) := by
  have h := splitG_fn ([⟨1, e, n, [], []⟩] : List Plc) 1 2 3 key (by simp)
  rw [show splitP ([⟨1, e, n, [], []⟩] : List Plc) 1 key 2 3 = ([⟨2, 1, n, [], key⟩, ⟨3, 1, n, key, []⟩] : List Plc) from (splitP_at (i := 0) (p := ⟨1, e, n, [], []⟩) rfl rfl).trans (if_pos (cut_all hk))] at h
  exact h

theorem b_splitno (e n : Int) (key : Bs) (hk : isKeyB key = false) : Fn Try.prog 7 [.sl [[.int .i64 1, .int .i64 e, .int .i64 n, .str [], .str []]], .int .i64 1, .str key, .int .i64 2, .int .i64 3] (.sl [[.int .i64 1, .int .i64 e, .int .i64 n, .str [], .str []]]) := by
  have h := splitG_fn ([⟨1, e, n, [], []⟩] : List Plc) 1 2 3 key (by simp)
  rw [show splitP ([⟨1, e, n, [], []⟩] : List Plc) 1 key 2 3 = ([⟨1, e, n, [], []⟩] : List Plc) from (splitP_at (i := 0) (p := ⟨1, e, n, [], []⟩) rfl rfl).trans (if_neg (by rw [cut_all_no hk]; decide))] at h
  exact h

theorem b_join (n : Int) (key : Bs) : Fn Try.prog 8 [.sl [[.int .i64 2, .int .i64 1, .int .i64 n, .str [], .str key], [.int .i64 3, .int .i64 1, .int .i64 n, .str key, .str []]], .int .i64 2, .int .i64 3, .int .i64 4] (.sl [[.int .i64 4, .int .i64 1, .int .i64 n, .str [], .str []]]) := by
  have h := joinG_fn ([⟨2, 1, n, [], key⟩, ⟨3, 1, n, key, []⟩] : List Plc) 2 3 4 (by simp)
  rw [show joinP ([⟨2, 1, n, [], key⟩, ⟨3, 1, n, key, []⟩] : List Plc) 2 3 4 = ([⟨4, 1, n, [], []⟩] : List Plc) from rfl] at h
  exact h

theorem b_join2 (n : Int) (key : Bs) : Fn Try.prog 8 [.sl [[.int .i64 2, .int .i64 1, .int .i64 n, .str [], .str key], [.int .i64 3, .int .i64 1, .int .i64 n, .str key, .str []]], .int .i64 3, .int .i64 2, .int .i64 4] (.sl [[.int .i64 2, .int .i64 1, .int .i64 n, .str [], .str key], [.int .i64 3, .int .i64 1, .int .i64 n, .str key, .str []]]) := by
  have h := joinG_fn ([⟨2, 1, n, [], key⟩, ⟨3, 1, n, key, []⟩] : List Plc) 3 2 4 (by simp)
  rw [show joinP ([⟨2, 1, n, [], key⟩, ⟨3, 1, n, key, []⟩] : List Plc) 3 2 4 = ([⟨2, 1, n, [], key⟩, ⟨3, 1, n, key, []⟩] : List Plc) from rfl] at h
  exact h

theorem b_split9 (n : Int) (key : Bs) : Fn Try.prog 7 [.sl [[.int .i64 2, .int .i64 1, .int .i64 n, .str [], .str key], [.int .i64 3, .int .i64 1, .int .i64 n, .str key, .str []]], .int .i64 9, .str [122, 122], .int .i64 5, .int .i64 6] (.sl [[.int .i64 2, .int .i64 1, .int .i64 n, .str [], .str key], [.int .i64 3, .int .i64 1, .int .i64 n, .str key, .str []]]) := by
  have h := splitG_fn ([⟨2, 1, n, [], key⟩, ⟨3, 1, n, key, []⟩] : List Plc) 9 5 6 [122, 122] (by simp)
  rw [show splitP ([⟨2, 1, n, [], key⟩, ⟨3, 1, n, key, []⟩] : List Plc) 9 [122, 122] 5 6 = ([⟨2, 1, n, [], key⟩, ⟨3, 1, n, key, []⟩] : List Plc) from rfl] at h
  exact h

theorem b_move9 (n : Int) (key : Bs) : Fn Try.prog 9 [.sl [[.int .i64 2, .int .i64 1, .int .i64 n, .str [], .str key], [.int .i64 3, .int .i64 1, .int .i64 n, .str key, .str []]], .int .i64 9, .int .i64 2, .int .i64 1] (.sl [[.int .i64 2, .int .i64 1, .int .i64 n, .str [], .str key], [.int .i64 3, .int .i64 1, .int .i64 n, .str key, .str []]]) := by
  have h := moveG_fn ([⟨2, 1, n, [], key⟩, ⟨3, 1, n, key, []⟩] : List Plc) 9 2 1 (by simp)
  rw [show moveP ([⟨2, 1, n, [], key⟩, ⟨3, 1, n, key, []⟩] : List Plc) 9 2 1 = ([⟨2, 1, n, [], key⟩, ⟨3, 1, n, key, []⟩] : List Plc) from rfl] at h
  exact h

theorem b_same2 (n : Int) (key : Bs) : Fn Try.prog 12 [.sl [[.int .i64 2, .int .i64 1, .int .i64 n, .str [], .str key], [.int .i64 3, .int .i64 1, .int .i64 n, .str key, .str []]], .sl [[.int .i64 2, .int .i64 1, .int .i64 n, .str [], .str key], [.int .i64 3, .int .i64 1, .int .i64 n, .str key, .str []]]] (.bool true) := samePlaces_refl ([⟨2, 1, n, [], key⟩, ⟨3, 1, n, key, []⟩] : List Plc)
theorem b_same1 (e n : Int) : Fn Try.prog 12 [.sl [[.int .i64 1, .int .i64 e, .int .i64 n, .str [], .str []]], .sl [[.int .i64 1, .int .i64 e, .int .i64 n, .str [], .str []]]] (.bool true) := samePlaces_refl ([⟨1, e, n, [], []⟩] : List Plc)

set_option maxRecDepth 100000 in
set_option maxHeartbeats 400000 in
theorem back_yes (key : Bs) (n1 n2 : Int) (g1 : 0 ≤ n1 ∧ n1 ≤ 255) (g2 : 0 ≤ n2 ∧ n2 ≤ 255) (hk : isKeyB key = true) (hk1 : 1 ≤ key.length ∧ key.length ≤ 8) : Fn Try.prog 4 [.str key, .int .u8 n1, .int .u8 n2] (.bool true) := by
  refine Fn.mk' base Try.func4 rfl rfl rfl ?_
  repeat' ((conv => whnf); (first
   | (with_reducible first | refine AW.seq ?_ | refine AW.region base (by kernel_rfl) ?_ | refine AW.cond ?_ | refine AW.block ?_ | refine AW.ret ?_ | refine AW.exit ?_ | refine AW.skip ?_ | refine Br.t ?_ | refine Br.f ?_)
   | (with_reducible refine Br.mkT (fun hb => (by (first | (simp at hb; done) | omega | (simp at hb; omega) | (simp only [hk1] at hb; simp at hb; done) | (simp only [List.length_map, decide_eq_true_eq, decide_eq_false_iff_not, Bool.not_eq_true', Bool.not_eq_false'] at hb; first | omega | fail) | fail))) (fun hb => ?_))
   | (with_reducible refine Br.mkF (fun hb => (by (first | (simp at hb; done) | omega | (simp at hb; omega) | (simp only [hk1] at hb; simp at hb; done) | (simp only [List.length_map, decide_eq_true_eq, decide_eq_false_iff_not, Bool.not_eq_true', Bool.not_eq_false'] at hb; first | omega | fail) | fail))) (fun hb => ?_))
   | ((with_reducible refine Or.inl ?_); (conv => whnf); (with_reducible refine And.intro LitSl.mk ?_))
   | refine Br.t ?_
   | refine Br.f ?_
   | (intro row hrow; have e0 := Option.some.inj (show some _ = some row from hrow); subst e0)
   | ((with_reducible refine Or.inl ?_); (conv => whnf); (first | (with_reducible first | refine ⟨_, known20_fn, ?_⟩ | refine ⟨_, planNew_fn, ?_⟩ | refine ⟨_, b_move (n2 + 1) (n1 % 3), ?_⟩ | refine ⟨_, b_join (n1 % 3) key, ?_⟩ | refine ⟨_, b_join2 (n1 % 3) key, ?_⟩ | refine ⟨_, b_split9 (n1 % 3) key, ?_⟩ | refine ⟨_, b_move9 (n1 % 3) key, ?_⟩ | refine ⟨_, b_same2 (n1 % 3) key, ?_⟩ | refine ⟨_, b_same1 (n2 + 1) (n1 % 3), ?_⟩ | refine ⟨_, b_split (n2 + 1) (n1 % 3) key hk, ?_⟩)))
   | (with_reducible refine Br.mk (fun hb => ?_) (fun hb => ?_) <;> (try rw [hb]) <;> (try simp only [List.length_map, decide_eq_true_eq, decide_eq_false_iff_not, Bool.not_eq_true', Bool.not_eq_false', Int.ofNat_lt, Int.ofNat_le, Int.not_lt, Int.not_le, Int.toNat_natCast] at hb))
   | ((with_reducible first | refine Or.inl (And.intro ?_ ?_) | refine And.intro ?_ ?_); (focus (first | with_reducible rfl | exact trivial | (exact ⟨rfl, trivial⟩) | (exact ⟨rfl, rfl, trivial⟩) | omega | (intro r hr; simp only [List.mem_singleton] at hr; subst hr; rfl)  | ((simp only [in64, maxLen] at *; omega)) | ((simp only [List.length_map] at *; omega)) | ((simp only [in64, maxLen, List.length_map] at *; omega)) | (simp only [in64]; omega) | assumption | (simp; done) | (simp [V.cells]; done) | (simp [in64, maxLen, limK] at *; omega) | ((show confB _ _ = true); kernel_rfl) | rfl)))
   | (intro row hrow; (try simp only [Int.toNat_natCast, List.length_map, toNat_pred, toNat_succ', toNat_zero', toNat_one'] at hrow); (first | (have hsm := same_map (by assumption) hrow; subst hsm; clear hrow) | (obtain ⟨p, hp, rfl⟩ := of_map hrow; clear hrow)))))
  all_goals ((conv => whnf); first | done | rfl | (refine congrArg V.bool ?_; simp_all; done) | (refine congrArg V.bool ?_; simp; done))

set_option maxRecDepth 100000 in
set_option maxHeartbeats 400000 in
theorem back_no0 (key : Bs) (n1 n2 : Int) (g1 : 0 ≤ n1 ∧ n1 ≤ 255) (g2 : 0 ≤ n2 ∧ n2 ≤ 255) (hk : isKeyB key = false) (hk1 : key.length < 1) : Fn Try.prog 4 [.str key, .int .u8 n1, .int .u8 n2] (.bool true) := by
  refine Fn.mk' base Try.func4 rfl rfl rfl ?_
  repeat' ((conv => whnf); (first
   | (with_reducible first | refine AW.seq ?_ | refine AW.region base (by kernel_rfl) ?_ | refine AW.cond ?_ | refine AW.block ?_ | refine AW.ret ?_ | refine AW.exit ?_ | refine AW.skip ?_ | refine Br.t ?_ | refine Br.f ?_)
   | (with_reducible refine Br.mkT (fun hb => (by (first | (simp at hb; done) | omega | (simp at hb; omega) | (simp only [hk1] at hb; simp at hb; done) | (simp only [List.length_map, decide_eq_true_eq, decide_eq_false_iff_not, Bool.not_eq_true', Bool.not_eq_false'] at hb; first | omega | fail) | fail))) (fun hb => ?_))
   | (with_reducible refine Br.mkF (fun hb => (by (first | (simp at hb; done) | omega | (simp at hb; omega) | (simp only [hk1] at hb; simp at hb; done) | (simp only [List.length_map, decide_eq_true_eq, decide_eq_false_iff_not, Bool.not_eq_true', Bool.not_eq_false'] at hb; first | omega | fail) | fail))) (fun hb => ?_))
   | ((with_reducible refine Or.inl ?_); (conv => whnf); (with_reducible refine And.intro LitSl.mk ?_))
   | refine Br.t ?_
   | refine Br.f ?_
   | (intro row hrow; have e0 := Option.some.inj (show some _ = some row from hrow); subst e0)
   | ((with_reducible refine Or.inl ?_); (conv => whnf); (first | (with_reducible first | refine ⟨_, known20_fn, ?_⟩ | refine ⟨_, planNew_fn, ?_⟩ | refine ⟨_, b_move (n2 + 1) (n1 % 3), ?_⟩ | refine ⟨_, b_join (n1 % 3) key, ?_⟩ | refine ⟨_, b_join2 (n1 % 3) key, ?_⟩ | refine ⟨_, b_split9 (n1 % 3) key, ?_⟩ | refine ⟨_, b_move9 (n1 % 3) key, ?_⟩ | refine ⟨_, b_same2 (n1 % 3) key, ?_⟩ | refine ⟨_, b_same1 (n2 + 1) (n1 % 3), ?_⟩ | refine ⟨_, b_splitno (n2 + 1) (n1 % 3) key hk, ?_⟩)))
   | (with_reducible refine Br.mk (fun hb => ?_) (fun hb => ?_) <;> (try rw [hb]) <;> (try simp only [List.length_map, decide_eq_true_eq, decide_eq_false_iff_not, Bool.not_eq_true', Bool.not_eq_false', Int.ofNat_lt, Int.ofNat_le, Int.not_lt, Int.not_le, Int.toNat_natCast] at hb))
   | ((with_reducible first | refine Or.inl (And.intro ?_ ?_) | refine And.intro ?_ ?_); (focus (first | with_reducible rfl | exact trivial | (exact ⟨rfl, trivial⟩) | (exact ⟨rfl, rfl, trivial⟩) | omega | (intro r hr; simp only [List.mem_singleton] at hr; subst hr; rfl)  | ((simp only [in64, maxLen] at *; omega)) | ((simp only [List.length_map] at *; omega)) | ((simp only [in64, maxLen, List.length_map] at *; omega)) | (simp only [in64]; omega) | assumption | (simp; done) | (simp [V.cells]; done) | (simp [in64, maxLen, limK] at *; omega) | ((show confB _ _ = true); kernel_rfl) | rfl)))
   | (intro row hrow; (try simp only [Int.toNat_natCast, List.length_map, toNat_pred, toNat_succ', toNat_zero', toNat_one'] at hrow); (first | (have hsm := same_map (by assumption) hrow; subst hsm; clear hrow) | (obtain ⟨p, hp, rfl⟩ := of_map hrow; clear hrow)))))
  all_goals ((conv => whnf); first | done | rfl | (refine congrArg V.bool ?_; simp_all; done) | (refine congrArg V.bool ?_; simp; done))

set_option maxRecDepth 100000 in
set_option maxHeartbeats 400000 in
theorem back_no9 (key : Bs) (n1 n2 : Int) (g1 : 0 ≤ n1 ∧ n1 ≤ 255) (g2 : 0 ≤ n2 ∧ n2 ≤ 255) (hk : isKeyB key = false) (hk1 : 8 < key.length ∧ key.length ≤ 20) : Fn Try.prog 4 [.str key, .int .u8 n1, .int .u8 n2] (.bool true) := by
  refine Fn.mk' base Try.func4 rfl rfl rfl ?_
  repeat' ((conv => whnf); (first
   | (with_reducible first | refine AW.seq ?_ | refine AW.region base (by kernel_rfl) ?_ | refine AW.cond ?_ | refine AW.block ?_ | refine AW.ret ?_ | refine AW.exit ?_ | refine AW.skip ?_ | refine Br.t ?_ | refine Br.f ?_)
   | (with_reducible refine Br.mkT (fun hb => (by (first | (simp at hb; done) | omega | (simp at hb; omega) | (simp only [hk1] at hb; simp at hb; done) | (simp only [List.length_map, decide_eq_true_eq, decide_eq_false_iff_not, Bool.not_eq_true', Bool.not_eq_false'] at hb; first | omega | fail) | fail))) (fun hb => ?_))
   | (with_reducible refine Br.mkF (fun hb => (by (first | (simp at hb; done) | omega | (simp at hb; omega) | (simp only [hk1] at hb; simp at hb; done) | (simp only [List.length_map, decide_eq_true_eq, decide_eq_false_iff_not, Bool.not_eq_true', Bool.not_eq_false'] at hb; first | omega | fail) | fail))) (fun hb => ?_))
   | ((with_reducible refine Or.inl ?_); (conv => whnf); (with_reducible refine And.intro LitSl.mk ?_))
   | refine Br.t ?_
   | refine Br.f ?_
   | (intro row hrow; have e0 := Option.some.inj (show some _ = some row from hrow); subst e0)
   | ((with_reducible refine Or.inl ?_); (conv => whnf); (first | (with_reducible first | refine ⟨_, known20_fn, ?_⟩ | refine ⟨_, planNew_fn, ?_⟩ | refine ⟨_, b_move (n2 + 1) (n1 % 3), ?_⟩ | refine ⟨_, b_join (n1 % 3) key, ?_⟩ | refine ⟨_, b_join2 (n1 % 3) key, ?_⟩ | refine ⟨_, b_split9 (n1 % 3) key, ?_⟩ | refine ⟨_, b_move9 (n1 % 3) key, ?_⟩ | refine ⟨_, b_same2 (n1 % 3) key, ?_⟩ | refine ⟨_, b_same1 (n2 + 1) (n1 % 3), ?_⟩ | refine ⟨_, b_splitno (n2 + 1) (n1 % 3) key hk, ?_⟩)))
   | (with_reducible refine Br.mk (fun hb => ?_) (fun hb => ?_) <;> (try rw [hb]) <;> (try simp only [List.length_map, decide_eq_true_eq, decide_eq_false_iff_not, Bool.not_eq_true', Bool.not_eq_false', Int.ofNat_lt, Int.ofNat_le, Int.not_lt, Int.not_le, Int.toNat_natCast] at hb))
   | ((with_reducible first | refine Or.inl (And.intro ?_ ?_) | refine And.intro ?_ ?_); (focus (first | with_reducible rfl | exact trivial | (exact ⟨rfl, trivial⟩) | (exact ⟨rfl, rfl, trivial⟩) | omega | (intro r hr; simp only [List.mem_singleton] at hr; subst hr; rfl)  | ((simp only [in64, maxLen] at *; omega)) | ((simp only [List.length_map] at *; omega)) | ((simp only [in64, maxLen, List.length_map] at *; omega)) | (simp only [in64]; omega) | assumption | (simp; done) | (simp [V.cells]; done) | (simp [in64, maxLen, limK] at *; omega) | ((show confB _ _ = true); kernel_rfl) | rfl)))
   | (intro row hrow; (try simp only [Int.toNat_natCast, List.length_map, toNat_pred, toNat_succ', toNat_zero', toNat_one'] at hrow); (first | (have hsm := same_map (by assumption) hrow; subst hsm; clear hrow) | (obtain ⟨p, hp, rfl⟩ := of_map hrow; clear hrow)))))
  all_goals ((conv => whnf); first | done | rfl | (refine congrArg V.bool ?_; simp_all; done) | (refine congrArg V.bool ?_; simp; done))

set_option maxRecDepth 100000 in
set_option maxHeartbeats 400000 in
theorem back_long (key : Bs) (n1 n2 : Int) (g1 : 0 ≤ n1 ∧ n1 ≤ 255) (g2 : 0 ≤ n2 ∧ n2 ≤ 255) (hk1 : 20 < key.length) : Fn Try.prog 4 [.str key, .int .u8 n1, .int .u8 n2] (.bool true) := by
  refine Fn.mk' base Try.func4 rfl rfl rfl ?_
  repeat' ((conv => whnf); (first
   | (with_reducible first | refine AW.seq ?_ | refine AW.region base (by kernel_rfl) ?_ | refine AW.cond ?_ | refine AW.block ?_ | refine AW.ret ?_ | refine AW.exit ?_ | refine AW.skip ?_ | refine Br.t ?_ | refine Br.f ?_)
   | (with_reducible refine Br.mkT (fun hb => (by (first | (simp at hb; done) | omega | (simp at hb; omega) | (simp only [hk1] at hb; simp at hb; done) | (simp only [List.length_map, decide_eq_true_eq, decide_eq_false_iff_not, Bool.not_eq_true', Bool.not_eq_false'] at hb; first | omega | fail) | fail))) (fun hb => ?_))
   | (with_reducible refine Br.mkF (fun hb => (by (first | (simp at hb; done) | omega | (simp at hb; omega) | (simp only [hk1] at hb; simp at hb; done) | (simp only [List.length_map, decide_eq_true_eq, decide_eq_false_iff_not, Bool.not_eq_true', Bool.not_eq_false'] at hb; first | omega | fail) | fail))) (fun hb => ?_))
   | ((with_reducible refine Or.inl ?_); (conv => whnf); (with_reducible refine And.intro LitSl.mk ?_))
   | refine Br.t ?_
   | refine Br.f ?_
   | (intro row hrow; have e0 := Option.some.inj (show some _ = some row from hrow); subst e0)
   | ((with_reducible refine Or.inl ?_); (conv => whnf); (first | (with_reducible first | refine ⟨_, known20_fn, ?_⟩ | refine ⟨_, planNew_fn, ?_⟩ | refine ⟨_, b_move (n2 + 1) (n1 % 3), ?_⟩ | refine ⟨_, b_join (n1 % 3) key, ?_⟩ | refine ⟨_, b_join2 (n1 % 3) key, ?_⟩ | refine ⟨_, b_split9 (n1 % 3) key, ?_⟩ | refine ⟨_, b_move9 (n1 % 3) key, ?_⟩ | refine ⟨_, b_same2 (n1 % 3) key, ?_⟩ | refine ⟨_, b_same1 (n2 + 1) (n1 % 3), ?_⟩)))
   | (with_reducible refine Br.mk (fun hb => ?_) (fun hb => ?_) <;> (try rw [hb]) <;> (try simp only [List.length_map, decide_eq_true_eq, decide_eq_false_iff_not, Bool.not_eq_true', Bool.not_eq_false', Int.ofNat_lt, Int.ofNat_le, Int.not_lt, Int.not_le, Int.toNat_natCast] at hb))
   | ((with_reducible first | refine Or.inl (And.intro ?_ ?_) | refine And.intro ?_ ?_); (focus (first | with_reducible rfl | exact trivial | (exact ⟨rfl, trivial⟩) | (exact ⟨rfl, rfl, trivial⟩) | omega | (intro r hr; simp only [List.mem_singleton] at hr; subst hr; rfl)  | ((simp only [in64, maxLen] at *; omega)) | ((simp only [List.length_map] at *; omega)) | ((simp only [in64, maxLen, List.length_map] at *; omega)) | (simp only [in64]; omega) | assumption | (simp; done) | (simp [V.cells]; done) | (simp [in64, maxLen, limK] at *; omega) | ((show confB _ _ = true); kernel_rfl) | rfl)))
   | (intro row hrow; (try simp only [Int.toNat_natCast, List.length_map, toNat_pred, toNat_succ', toNat_zero', toNat_one'] at hrow); (first | (have hsm := same_map (by assumption) hrow; subst hsm; clear hrow) | (obtain ⟨p, hp, rfl⟩ := of_map hrow; clear hrow)))))
  all_goals ((conv => whnf); first | done | rfl | (refine congrArg V.bool ?_; simp_all; done) | (refine congrArg V.bool ?_; simp; done))

theorem planBack_fn (key : Bs) (n1 n2 : Int) (g1 : 0 ≤ n1 ∧ n1 ≤ 255) (g2 : 0 ≤ n2 ∧ n2 ≤ 255) : Fn Try.prog 4 [.str key, .int .u8 n1, .int .u8 n2] (.bool true) := by
  rcases Nat.lt_or_ge 20 key.length with h | h
  · exact back_long key n1 n2 g1 g2 h
  rcases Nat.lt_or_ge key.length 1 with h1 | h1
  · exact back_no0 key n1 n2 g1 g2 (by cases key with | nil => rfl | cons => simp at h1) h1
  rcases Nat.lt_or_ge 8 key.length with h8 | h8
  · exact back_no9 key n1 n2 g1 g2 (by simp [isKeyB]; intro _; omega) ⟨h8, h⟩
  · exact back_yes key n1 n2 g1 g2 (by simp only [isKeyB, Bool.and_eq_true, Bool.not_eq_true', decide_eq_false_iff_not, decide_eq_true_eq]; exact ⟨fun e => by rw [e] at h1; simp at h1, h8⟩) ⟨h1, h8⟩
end Go.Proofs.Ytmlfknmpapbpgaa
