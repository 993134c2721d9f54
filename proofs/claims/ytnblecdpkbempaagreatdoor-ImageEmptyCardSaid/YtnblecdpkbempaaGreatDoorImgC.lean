/-
  Walks of package image: a shard's bytes; what is taken of bytes. No conditions.
-/
import Derived.Test.YtnblecdpkbempaaGreatDoorImgB
import Derived.Test.YtnblecdpkbempaaGreatDoorJoin
namespace Go.Proofs.YtnblecdpkbempaaGreatDoor
open Go.RowKit
set_option linter.unusedSimpArgs false
set_option linter.unusedVariables false

def bytesC (c : Cel) : Bs := (((text c.k ++ text c.v) ++ num c.n.toNat) ++ flagB c.d) ++ num c.f.toNat
def bytesE (e : Evt) : Bs := ((text e.k ++ num e.n.toNat) ++ text e.v) ++ flagB e.d
def bytesD (d : Dn) : Bs := (num d.s.toNat ++ num d.id.toNat) ++ bytesA d.an
def csB (l : List Cel) : Bs := (l.map bytesC).flatten
def esB (l : List Evt) : Bs := (l.map bytesE).flatten
def dsB (l : List Dn) : Bs := (l.map bytesD).flatten
def head1S (s : ShV) : Bs := ((((num s.id.toNat ++ num s.ep.toNat) ++ text s.f) ++ text s.t) ++ flagB s.fz) ++ num s.cs.length
def head1P (s : ShV) : Bs := head1S s ++ csB s.cs
def head2S (s : ShV) : Bs := head1P s ++ num s.ev.length
def head2Q (s : ShV) : Bs := head2S s ++ esB s.ev
def head3S (s : ShV) : Bs := head2Q s ++ num s.dn.length
def bodyS (s : ShV) : Bs := head3S s ++ dsB s.dn
def bytesS (s : ShV) : Bs := wrap (bodyS s)
structure ShOk (s : ShV) : Prop where
  id : 1 ≤ s.id ∧ s.id ≤ 1000000000000
  ep : 1 ≤ s.ep ∧ s.ep ≤ 1000000
  f : s.f.length ≤ 8
  t : s.t.length ≤ 8
  el : s.ev.length ≤ 24
  dl : s.dn.length ≤ 3
  c : ∀ x ∈ s.cs, x.k.length ≤ 8 ∧ x.v.length ≤ 40 ∧ (0 ≤ x.n ∧ x.n ≤ 1000000000000) ∧ (0 ≤ x.f ∧ x.f ≤ 1000000000000)
  e : ∀ x ∈ s.ev, x.k.length ≤ 8 ∧ (0 ≤ x.n ∧ x.n ≤ 1000000000000) ∧ x.v.length ≤ 40
  d : ∀ x ∈ s.dn, (0 ≤ x.s ∧ x.s < 3) ∧ (1 ≤ x.id ∧ x.id ≤ 1000000000000) ∧ anB x.an = true
theorem done_len : ∀ (l : List Dn) (q : Int), -1 ≤ q → doneB (some q) l = true → (l.length : Int) + q ≤ 2 ∨ l = []
  | [], _, _, _ => .inr rfl
  | d :: r, q, hq, h => by
    simp only [doneB, lowD, Bool.and_eq_true, decide_eq_true_eq] at h
    obtain ⟨⟨h1, h2⟩, h3⟩ := h
    have hd := (dnB_iff d).1 h1
    rcases done_len r d.s (by omega) h3 with h4 | h4
    · left; rw [List.length_cons]; omega
    · subst h4; left; simp; omega
theorem done_all : ∀ (l : List Dn) (p : Option Int), doneB p l = true → ∀ x ∈ l, dnB x = true
  | [], _, _, x, hx => by cases hx
  | d :: r, p, h, x, hx => by
    simp only [doneB, Bool.and_eq_true] at h
    rcases List.mem_cons.1 hx with rfl | hx
    · exact h.1.1
    · exact done_all r _ h.2 x hx
theorem done_len0 {l : List Dn} (h : doneB none l = true) : l.length ≤ 3 := by
  cases l with
  | nil => simp
  | cons d r =>
    simp only [doneB, Bool.and_eq_true] at h
    have hd := (dnB_iff d).1 h.1.1
    rcases done_len r d.s (by omega) h.2 with h4 | h4
    · rw [List.length_cons]; omega
    · subst h4; simp
theorem shOk {s : ShV} (h : shB s = true) : ShOk s := by
  obtain ⟨h1, h2, h3, h4, h5, h6, h7, h8, h9⟩ := (shB_iff s).1 h
  simp only [histB, Bool.and_eq_true, List.all_eq_true] at h8
  obtain ⟨⟨h10, h11⟩, h12⟩ := h8
  refine ⟨⟨h1, h2⟩, ⟨h3, h4⟩, (isB_len h5).1, (isB_len h5).2, h7, done_len0 h9, fun x hx => ?_, fun x hx => ?_, fun x hx => ?_⟩
  · have := hist_c h10 x hx
    have hk : isKeyB x.k = true := by simp only [celB, isCellB, mayB, Bool.and_eq_true] at this; simp_all
    have hf := celB_f this
    simp only [celB, isCellB, mayB, Bool.and_eq_true, decide_eq_true_eq] at this
    exact ⟨key_len hk, by simp_all; omega, by simp_all; omega, hf⟩
  · have := (h11 x hx).2
    have hk : isKeyB x.k = true := by simp only [evtB, mayB, Bool.and_eq_true] at this; simp_all
    have hn := evtB_n this
    simp only [evtB, mayB, Bool.and_eq_true, decide_eq_true_eq] at this
    exact ⟨key_len hk, hn, by simp_all; omega⟩
  · have := (dnB_iff x).1 (done_all _ _ h9 x hx)
    exact ⟨⟨this.1, this.2.1⟩, ⟨this.2.2.1, this.2.2.2.1⟩, this.2.2.2.2⟩
theorem bytesC_len {x : Cel} (h : x.k.length ≤ 8 ∧ x.v.length ≤ 40 ∧ (0 ≤ x.n ∧ x.n ≤ 1000000000000) ∧ (0 ≤ x.f ∧ x.f ≤ 1000000000000)) : (bytesC x).length ≤ 81 := by
  unfold bytesC; simp only [List.length_append, flagB_len]
  have := textLe x.k (by omega); have := textLe x.v (by omega); have := numLe x.n.toNat (by omega); have := numLe x.f.toNat (by omega); omega
theorem bytesE_len {x : Evt} (h : x.k.length ≤ 8 ∧ (0 ≤ x.n ∧ x.n ≤ 1000000000000) ∧ x.v.length ≤ 40) : (bytesE x).length ≤ 73 := by
  unfold bytesE; simp only [List.length_append, flagB_len]
  have := textLe x.k (by omega); have := numLe x.n.toNat (by omega); have := textLe x.v (by omega); omega
theorem bytesD_len {x : Dn} (h : (0 ≤ x.s ∧ x.s < 3) ∧ (1 ≤ x.id ∧ x.id ≤ 1000000000000) ∧ anB x.an = true) : (bytesD x).length ≤ 9016 := by
  unfold bytesD; simp only [List.length_append]
  have := numLe x.s.toNat (by omega); have := numLe x.id.toNat (by omega); have := bytesA_len h.2.2; omega
theorem csB_len {s : ShV} (h : ShOk s) (hc : s.cs.length ≤ 30) (i : Nat) : (csB (s.cs.take i)).length ≤ 81 * 30 := by
  have h1 := flat_le bytesC 81 (s.cs.take i) fun x hx => bytesC_len (h.c x (List.mem_of_mem_take hx))
  exact Nat.le_trans h1 (Nat.mul_le_mul_left 81 (Nat.le_trans (by rw [List.length_take]; omega) hc))
theorem esB_len {s : ShV} (h : ShOk s) (i : Nat) : (esB (s.ev.take i)).length ≤ 73 * 24 := by
  have h1 := flat_le bytesE 73 (s.ev.take i) fun x hx => bytesE_len (h.e x (List.mem_of_mem_take hx))
  exact Nat.le_trans h1 (Nat.mul_le_mul_left 73 (Nat.le_trans (by rw [List.length_take]; omega) h.el))
theorem dsB_len {s : ShV} (h : ShOk s) (i : Nat) : (dsB (s.dn.take i)).length ≤ 9016 * 3 := by
  have h1 := flat_le bytesD 9016 (s.dn.take i) fun x hx => bytesD_len (h.d x (List.mem_of_mem_take hx))
  exact Nat.le_trans h1 (Nat.mul_le_mul_left 9016 (Nat.le_trans (by rw [List.length_take]; omega) h.dl))
theorem head1S_len {s : ShV} (h : ShOk s) (hc : s.cs.length ≤ 30) : (head1S s).length ≤ 70 := by
  unfold head1S; simp only [List.length_append, flagB_len]
  have := h.id; have := h.ep; have := h.f; have := h.t
  have := numLe s.id.toNat (by omega); have := numLe s.ep.toNat (by omega); have := textLe s.f (by omega); have := textLe s.t (by omega); have := numLe s.cs.length (by omega)
  omega
theorem head1P_len {s : ShV} (h : ShOk s) (hc : s.cs.length ≤ 30) : (head1P s).length ≤ 2500 := by
  unfold head1P; rw [List.length_append]; have := head1S_len h hc; have h1 := csB_len h hc s.cs.length; rw [List.take_length] at h1; omega
theorem head2S_len {s : ShV} (h : ShOk s) (hc : s.cs.length ≤ 30) : (head2S s).length ≤ 2508 := by
  unfold head2S; rw [List.length_append]; have := head1P_len h hc; have := numLe s.ev.length (by have := h.el; omega); omega
theorem head2Q_len {s : ShV} (h : ShOk s) (hc : s.cs.length ≤ 30) : (head2Q s).length ≤ 4260 := by
  unfold head2Q; rw [List.length_append]; have := head2S_len h hc; have h1 := esB_len h s.ev.length; rw [List.take_length] at h1; omega
theorem head3S_len {s : ShV} (h : ShOk s) (hc : s.cs.length ≤ 30) : (head3S s).length ≤ 4268 := by
  unfold head3S; rw [List.length_append]; have := head2Q_len h hc; have := numLe s.dn.length (by have := h.dl; omega); omega
theorem bodyS_len {s : ShV} (h : ShOk s) (hc : s.cs.length ≤ 30) : (bodyS s).length ≤ 31316 := by
  unfold bodyS; rw [List.length_append]; have := head3S_len h hc; have h1 := dsB_len h s.dn.length; rw [List.take_length] at h1; omega
theorem bytesS_len {s : ShV} (h : shB s = true) (hc : s.cs.length ≤ 30) : (bytesS s).length ≤ 31400 ∧ 5 ≤ (bytesS s).length := by
  have h1 := bodyS_len (shOk h) hc
  have h2 := text_len8 (bodyS s) (by omega)
  have h3 := text_pos (bodyS s)
  unfold bytesS; rw [wrap_len]; omega

set_option maxRecDepth 100000 in
set_option maxHeartbeats 400000 in
theorem imgBytes_not (s : ShV) (h : shB s = false) : Fn Tryz.prog 13 [.agg (encS s)] (.str []) := by
  refine Fn.mk' base Tryz.func13 rfl rfl rfl ?_
  repeat' ((conv => whnf); (first
   | (with_reducible first | refine AW.seq ?_ | refine AW.region base (by kernel_rfl) ?_ | refine AW.cond ?_ | refine AW.block ?_ | refine AW.ret ?_ | refine AW.exit ?_ | refine AW.skip ?_ | refine Br.t ?_ | refine Br.f ?_)
   | (with_reducible refine Br.mkT (fun hb => (by (first | omega | (simp only [List.length_map, decide_eq_true_eq, decide_eq_false_iff_not] at hb; omega) | (rw [h] at hb; simp at hb; done) | fail))) (fun hb => ?_))
   | (with_reducible refine Br.mkF (fun hb => (by (first | omega | (simp only [List.length_map, decide_eq_true_eq, decide_eq_false_iff_not] at hb; omega) | (rw [h] at hb; simp at hb; done) | fail))) (fun hb => ?_))
   | ((with_reducible refine Or.inl ?_); (conv => whnf); (with_reducible refine And.intro LitSl.mk ?_))
   | refine Br.t ?_
   | refine Br.f ?_
   | ((with_reducible refine Or.inl ?_); (conv => whnf); (first | (with_reducible first | refine ⟨_, shardIs_fn s, ?_⟩)))
   | (with_reducible refine Br.mk (fun hb => ?_) (fun hb => ?_) <;> (try rw [hb]) <;> (try simp only [List.length_map, decide_eq_true_eq, decide_eq_false_iff_not, Bool.not_eq_true', Bool.not_eq_false', Int.ofNat_lt, Int.ofNat_le, Int.not_lt, Int.not_le, Int.toNat_natCast] at hb))
   | ((with_reducible first | refine Or.inl (And.intro ?_ ?_) | refine And.intro ?_ ?_); (focus (first | with_reducible rfl | exact trivial | (exact ⟨rfl, trivial⟩) | (exact ⟨rfl, rfl, trivial⟩) | omega | (intro r hr; simp only [List.mem_singleton] at hr; subst hr; rfl)  | ((simp only [List.length_map] at *; omega)) | ((simp only [List.length_append, flagB_len, maxLen] at *; omega)) | ((simp only [in64, maxLen] at *; omega)) | (simp only [in64]; omega) | assumption | (simp; done) | (simp [V.cells]; done) | (simp [in64, maxLen, limK] at *; omega) | ((show confB _ _ = true); kernel_rfl) | rfl)))
   | (intro row hrow; (try simp only [Int.toNat_natCast, List.length_map, toNat_pred, toNat_succ', toNat_zero', toNat_one'] at hrow); (first | (have hsm := same_map (by assumption) hrow; subst hsm; clear hrow) | (obtain ⟨p, hp, rfl⟩ := of_map hrow; clear hrow)))))
  all_goals (conv => whnf)
  all_goals (first | rfl | (simp only [V.bool.injEq, V.tup.injEq, V.agg.injEq, V.str.injEq, V.int.injEq, V.sl.injEq, V.ifc.injEq, List.cons.injEq, and_true, true_and, and_self]; done) | (simp only [V.bool.injEq, V.tup.injEq, V.agg.injEq, V.str.injEq, V.int.injEq, V.sl.injEq, V.ifc.injEq, List.cons.injEq, and_true, true_and, and_self]; grind) | (simp  at *; done) | (simp  at *; grind))

set_option maxRecDepth 100000 in
set_option maxHeartbeats 2000000 in
theorem imgBytes_ok (s : ShV) (h : shB s = true) (hc : s.cs.length ≤ 30) : Fn Tryz.prog 13 [.agg (encS s)] (.str (bytesS s)) := by
  refine Fn.mk' base Tryz.func13 rfl rfl rfl ?_
  have ok := shOk h
  have hid := ok.id; have hep := ok.ep; have hf := ok.f; have ht := ok.t; have hel := ok.el; have hdl := ok.dl
  have a1 := head1S_len ok hc; have a2 := head1P_len ok hc; have a3 := head2S_len ok hc; have a4 := head2Q_len ok hc; have a5 := head3S_len ok hc; have a6 := bodyS_len ok hc
  have q1 := numLe s.id.toNat (by omega); have q2 := numLe s.ep.toNat (by omega); have q3 := textLe s.f (by omega); have q4 := textLe s.t (by omega)
  have q5 := numLe s.cs.length (by omega); have q6 := numLe s.ev.length (by omega); have q7 := numLe s.dn.length (by omega)
  have q8 : (if s.fz then [1] else [0] : Bs).length = 1 := by split <;> rfl
  have e1 : (((s.cs.map encC).length : Nat) : Int).toNat = s.cs.length := by simp
  have e2 : (((s.ev.map encE).length : Nat) : Int).toNat = s.ev.length := by simp
  have e3 : (((s.dn.map encD).length : Nat) : Int).toNat = s.dn.length := by simp
  repeat' ((conv => whnf); (first
   | ((with_reducible show AW _ _ _ (Code.seq (Code.seq (Code.region 4 _ _) _) _) _ _ _); (refine AW.join (fun (_ : Unit) => True) (fun _ => ⟨[(1, .ptr 0 0), (3, .str (head1P s))], [.cells (encS s)]⟩) ?_ (fun _ _ => ?_)))
   | ((with_reducible show AW _ _ _ (Code.seq (Code.seq (Code.region 10 _ _) _) _) _ _ _); (refine AW.join (fun (_ : Unit) => True) (fun _ => ⟨[(1, .ptr 0 0), (3, .str (head2Q s))], [.cells (encS s)]⟩) ?_ (fun _ _ => ?_)))
   | ((with_reducible show AW _ _ _ (Code.seq (Code.seq (Code.region 16 _ _) _) _) _ _ _); (refine AW.join (fun (_ : Unit) => True) (fun _ => ⟨[(1, .ptr 0 0), (3, .str (bodyS s))], [.cells (encS s)]⟩) ?_ (fun _ _ => ?_)))
   | (with_reducible first | refine AW.seq ?_ | refine AW.region base (by kernel_rfl) ?_ | refine AW.cond ?_ | refine AW.block ?_ | refine AW.ret ?_ | refine AW.exit ?_ | refine AW.skip ?_ | refine Br.t ?_ | refine Br.f ?_)
   | (with_reducible refine Br.mkT (fun hb => (by (first | omega | (simp only [List.length_map, decide_eq_true_eq, decide_eq_false_iff_not] at hb; omega) | (rw [h] at hb; simp at hb; done) | fail))) (fun hb => ?_))
   | (with_reducible refine Br.mkF (fun hb => (by (first | omega | (simp only [List.length_map, decide_eq_true_eq, decide_eq_false_iff_not] at hb; omega) | (rw [h] at hb; simp at hb; done) | fail))) (fun hb => ?_))
   | ((with_reducible refine Or.inl ?_); (conv => whnf); (with_reducible refine And.intro LitSl.mk ?_))
   | refine Br.t ?_
   | refine Br.f ?_
   | ((with_reducible refine Or.inl ?_); (conv => whnf); (first | (with_reducible first | refine ⟨_, shardIs_fn s, ?_⟩ | refine ⟨_, text_fn _ (by omega), ?_⟩ | refine ⟨_, num_fn _ (by omega), ?_⟩ | refine ⟨_, num_fn _ (by simp; omega), ?_⟩ | refine ⟨_, flagB_fn _, ?_⟩ | refine ⟨_, frameWrap_fn _ (by omega), ?_⟩)))
   | (with_reducible refine Br.mk (fun hb => ?_) (fun hb => ?_) <;> (try rw [hb]) <;> (try simp only [List.length_map, decide_eq_true_eq, decide_eq_false_iff_not, Bool.not_eq_true', Bool.not_eq_false', Int.ofNat_lt, Int.ofNat_le, Int.not_lt, Int.not_le, Int.toNat_natCast] at hb))
   | ((with_reducible first | refine Or.inl (And.intro ?_ ?_) | refine And.intro ?_ ?_); (focus (first | with_reducible rfl | exact trivial | (exact ⟨rfl, trivial⟩) | (exact ⟨rfl, rfl, trivial⟩) | omega | (intro r hr; simp only [List.mem_singleton] at hr; subst hr; rfl)  | ((simp only [List.length_map] at *; omega)) | ((simp only [e1, e2, e3, List.length_append, flagB_len, maxLen] at *; omega)) | ((simp only [List.length_append, flagB_len, maxLen] at *; omega)) | ((simp only [in64, maxLen] at *; omega)) | (simp only [in64]; omega) | assumption | (simp; done) | (simp [V.cells]; done) | (simp [in64, maxLen, limK] at *; omega) | ((show confB _ _ = true); kernel_rfl) | rfl)))
   | (intro row hrow; (try simp only [Int.toNat_natCast, List.length_map, toNat_pred, toNat_succ', toNat_zero', toNat_one'] at hrow); (first | (have hsm := same_map (by assumption) hrow; subst hsm; clear hrow) | (obtain ⟨p, hp, rfl⟩ := of_map hrow; clear hrow)))))
  · refine AW.loop (fun (⟨i, z⟩ : Nat × Bs) => i ≤ s.cs.length ∧ z = head1S s ++ csB (s.cs.take i)) (fun (⟨i, z⟩ : Nat × Bs) => ⟨[(1, .ptr 0 0), (3, .str z), (40, .sl (s.cs.map encC)), (41, .int .i64 ((s.cs.map encC).length : Int)), (42, .int .i64 (i : Int))], [.cells (encS s)]⟩) (fun (⟨i, z⟩ : Nat × Bs) => s.cs.length - i) (0, head1S s) ?_ ?_ ?_
    · exact ⟨Nat.zero_le _, by simp [csB]⟩
    · (refine ⟨⟨[1000], ?_⟩⟩; repeat' (first | (with_reducible rfl) | exact trivial | ((conv => whnf); (first | (with_reducible refine And.intro ?_ ?_) | (first | with_reducible rfl | ((first | refine congrArg V.str ?_ | refine congrArg (V.int _) ?_ | refine congrArg V.bool ?_ | refine congrArg V.sl ?_); (first | with_reducible rfl | omega | (simp; done) | (simp [head1S, head2S, head3S, e1, e2, e3, flagB]; done) | rfl | (simp; done))) | (first | with_reducible rfl | omega | (simp; done) | (simp [head1S, head2S, head3S, e1, e2, e3, flagB]; done) | rfl | (simp; done)) | rfl)))))
    · rintro ⟨i, z⟩ hk
      obtain ⟨hi1, hs⟩ := hk
      have hsl0 : z.length ≤ 2500 := by rw [hs, List.length_append]; have := csB_len ok hc i; omega
      rcases (by omega : i = s.cs.length ∨ i < s.cs.length) with hi | hi
      · subst hi
        rw [List.take_length] at hs
        repeat' ((conv => whnf); (first
         | (with_reducible first | refine AW.seq ?_ | refine AW.region base (by kernel_rfl) ?_ | refine AW.cond ?_ | refine AW.block ?_ | refine AW.ret ?_ | refine AW.exit ?_ | refine AW.skip ?_ | refine Br.t ?_ | refine Br.f ?_)
         | (with_reducible refine Br.mkT (fun hb => (by (first | omega | (simp only [List.length_map, decide_eq_true_eq, decide_eq_false_iff_not] at hb; omega) | (rw [h] at hb; simp at hb; done) | fail))) (fun hb => ?_))
         | (with_reducible refine Br.mkF (fun hb => (by (first | omega | (simp only [List.length_map, decide_eq_true_eq, decide_eq_false_iff_not] at hb; omega) | (rw [h] at hb; simp at hb; done) | fail))) (fun hb => ?_))
         | ((with_reducible refine Or.inl ?_); (conv => whnf); (with_reducible refine And.intro LitSl.mk ?_))
         | refine Br.t ?_
         | refine Br.f ?_
         | (with_reducible refine Br.mk (fun hb => ?_) (fun hb => ?_) <;> (try rw [hb]) <;> (try simp only [List.length_map, decide_eq_true_eq, decide_eq_false_iff_not, Bool.not_eq_true', Bool.not_eq_false', Int.ofNat_lt, Int.ofNat_le, Int.not_lt, Int.not_le, Int.toNat_natCast] at hb))
         | ((with_reducible first | refine Or.inl (And.intro ?_ ?_) | refine And.intro ?_ ?_); (focus (first | with_reducible rfl | exact trivial | (exact ⟨rfl, trivial⟩) | (exact ⟨rfl, rfl, trivial⟩) | omega | (intro r hr; simp only [List.mem_singleton] at hr; subst hr; rfl)  | ((simp only [List.length_map] at *; omega)) | ((simp only [List.length_append, flagB_len, maxLen] at *; omega)) | ((simp only [in64, maxLen] at *; omega)) | (simp only [in64]; omega) | assumption | (simp; done) | (simp [V.cells]; done) | (simp [in64, maxLen, limK] at *; omega) | ((show confB _ _ = true); kernel_rfl) | rfl)))
         | (intro row hrow; (try simp only [Int.toNat_natCast, List.length_map, toNat_pred, toNat_succ', toNat_zero', toNat_one'] at hrow); (first | (have hsm := same_map (by assumption) hrow; subst hsm; clear hrow) | (obtain ⟨p, hp, rfl⟩ := of_map hrow; clear hrow)))))
        all_goals ((conv => whnf); (refine ⟨(), ?_, trivial⟩; (refine ⟨⟨[0], ?_⟩⟩; repeat' (first | (with_reducible rfl) | exact trivial | ((conv => whnf); (first | (with_reducible refine And.intro ?_ ?_) | (first | with_reducible rfl | ((first | refine congrArg V.str ?_ | refine congrArg (V.int _) ?_ | refine congrArg V.bool ?_ | refine congrArg V.sl ?_); (first | with_reducible rfl | omega | (exact hs) | rfl | (simp; done))) | (first | with_reducible rfl | omega | (exact hs) | rfl | (simp; done)) | rfl)))))))
      obtain ⟨p, hp⟩ : ∃ p, s.cs[i]? = some p := ⟨_, List.getElem?_eq_getElem hi⟩
      have hp2 := ok.c p (List.mem_of_getElem? hp)
      have b1 := textLe p.k (by omega); have b2 := textLe p.v (by omega); have b3 := numLe p.n.toNat (by omega); have b4 := numLe p.f.toNat (by omega); have b9 : (if p.d then [1] else [0] : Bs).length = 1 := by split <;> rfl
      repeat' ((conv => whnf); (first
       | (with_reducible first | refine AW.seq ?_ | refine AW.region base (by kernel_rfl) ?_ | refine AW.cond ?_ | refine AW.block ?_ | refine AW.ret ?_ | refine AW.exit ?_ | refine AW.skip ?_ | refine Br.t ?_ | refine Br.f ?_)
       | (with_reducible refine Br.mkT (fun hb => (by (first | omega | (simp only [List.length_map, decide_eq_true_eq, decide_eq_false_iff_not] at hb; omega) | (rw [h] at hb; simp at hb; done) | fail))) (fun hb => ?_))
       | (with_reducible refine Br.mkF (fun hb => (by (first | omega | (simp only [List.length_map, decide_eq_true_eq, decide_eq_false_iff_not] at hb; omega) | (rw [h] at hb; simp at hb; done) | fail))) (fun hb => ?_))
       | ((with_reducible refine Or.inl ?_); (conv => whnf); (with_reducible refine And.intro LitSl.mk ?_))
       | refine Br.t ?_
       | refine Br.f ?_
       | ((with_reducible refine Or.inl ?_); (conv => whnf); (first | (with_reducible first | refine ⟨_, text_fn _ (by omega), ?_⟩ | refine ⟨_, num_fn _ (by omega), ?_⟩ | refine ⟨_, num_fn _ (by simp; omega), ?_⟩ | refine ⟨_, flagB_fn _, ?_⟩)))
       | (with_reducible refine Br.mk (fun hb => ?_) (fun hb => ?_) <;> (try rw [hb]) <;> (try simp only [List.length_map, decide_eq_true_eq, decide_eq_false_iff_not, Bool.not_eq_true', Bool.not_eq_false', Int.ofNat_lt, Int.ofNat_le, Int.not_lt, Int.not_le, Int.toNat_natCast] at hb))
       | ((with_reducible first | refine Or.inl (And.intro ?_ ?_) | refine And.intro ?_ ?_); (focus (first | with_reducible rfl | exact trivial | (exact ⟨rfl, trivial⟩) | (exact ⟨rfl, rfl, trivial⟩) | omega | (intro r hr; simp only [List.mem_singleton] at hr; subst hr; rfl)  | ((simp only [List.length_map] at *; omega)) | ((simp only [List.length_append, flagB_len, maxLen] at *; omega)) | ((simp only [in64, maxLen] at *; omega)) | (simp only [in64]; omega) | assumption | (simp; done) | (simp [V.cells]; done) | (simp [in64, maxLen, limK] at *; omega) | ((show confB _ _ = true); kernel_rfl) | rfl)))
       | (intro row hrow; (try simp only [Int.toNat_natCast, List.length_map, toNat_pred, toNat_succ', toNat_zero', toNat_one'] at hrow); (first | (have hsm := same_map (by assumption) hrow; subst hsm; clear hrow) | (obtain ⟨p, hp, rfl⟩ := of_map hrow; clear hrow)))))
      all_goals (try first | with_reducible assumption | ((first | show (_ : Int) ≤ _ | show (_ : Nat) ≤ _ | show (_ : Int) < _ | show ¬ (_ : Int) = _); (first | omega | (simp at *; omega) | (simp; done) | (simp [maxLen]; done))) | ((show in64 _); (simp only [in64] at *; (first | omega | (simp at *; omega) | (simp; done) | (simp [maxLen]; done)))) | ((with_reducible refine And.intro ?_ ?_) <;> (first | omega | (simp at *; omega) | (simp; done) | (simp [maxLen]; done))))
      all_goals (first
        | (with_reducible exact absurd rfl (by assumption))
        | ((conv => whnf); (refine ⟨(i + 1, ?_), ?_⟩); (rotate_left 1); (refine And.intro ?_ (And.intro ?_ ?_)); (focus (refine ⟨⟨[0], ?_⟩⟩; repeat' (first | (with_reducible rfl) | exact trivial | ((conv => whnf); (first | (with_reducible refine And.intro ?_ ?_) | (first | with_reducible rfl | ((first | refine congrArg V.str ?_ | refine congrArg (V.int _) ?_ | refine congrArg V.bool ?_ | refine congrArg V.sl ?_); (first | with_reducible rfl | omega | rfl | (simp; done))) | (first | with_reducible rfl | omega | rfl | (simp; done)) | rfl)))))); (focus (refine ⟨by omega, ?_⟩; rw [hs]; simp only [csB]; rw [flat_step _ hp, List.append_assoc]; rfl)); (focus (first | omega | (dsimp only; omega) | (simp; done) | (simp; omega) | (simp at *; omega))))
        | ((conv => whnf); (try (first | rfl | (exfalso; simp_all; done) | (exfalso; simp at *; omega))); done))

  · refine AW.loop (fun (⟨i, z⟩ : Nat × Bs) => i ≤ s.ev.length ∧ z = head2S s ++ esB (s.ev.take i)) (fun (⟨i, z⟩ : Nat × Bs) => ⟨[(1, .ptr 0 0), (3, .str z), (75, .sl (s.ev.map encE)), (76, .int .i64 ((s.ev.map encE).length : Int)), (77, .int .i64 (i : Int))], [.cells (encS s)]⟩) (fun (⟨i, z⟩ : Nat × Bs) => s.ev.length - i) (0, head2S s) ?_ ?_ ?_
    · exact ⟨Nat.zero_le _, by simp [esB]⟩
    · (refine ⟨⟨[0], ?_⟩⟩; repeat' (first | (with_reducible rfl) | exact trivial | ((conv => whnf); (first | (with_reducible refine And.intro ?_ ?_) | (first | with_reducible rfl | ((first | refine congrArg V.str ?_ | refine congrArg (V.int _) ?_ | refine congrArg V.bool ?_ | refine congrArg V.sl ?_); (first | with_reducible rfl | omega | (simp; done) | (simp [head1S, head2S, head3S, e1, e2, e3, flagB]; done) | rfl | (simp; done))) | (first | with_reducible rfl | omega | (simp; done) | (simp [head1S, head2S, head3S, e1, e2, e3, flagB]; done) | rfl | (simp; done)) | rfl)))))
    · rintro ⟨i, z⟩ hk
      obtain ⟨hi1, hs⟩ := hk
      have hsl0 : z.length ≤ 4260 := by rw [hs, List.length_append]; have := esB_len ok i; omega
      rcases (by omega : i = s.ev.length ∨ i < s.ev.length) with hi | hi
      · subst hi
        rw [List.take_length] at hs
        repeat' ((conv => whnf); (first
         | (with_reducible first | refine AW.seq ?_ | refine AW.region base (by kernel_rfl) ?_ | refine AW.cond ?_ | refine AW.block ?_ | refine AW.ret ?_ | refine AW.exit ?_ | refine AW.skip ?_ | refine Br.t ?_ | refine Br.f ?_)
         | (with_reducible refine Br.mkT (fun hb => (by (first | omega | (simp only [List.length_map, decide_eq_true_eq, decide_eq_false_iff_not] at hb; omega) | (rw [h] at hb; simp at hb; done) | fail))) (fun hb => ?_))
         | (with_reducible refine Br.mkF (fun hb => (by (first | omega | (simp only [List.length_map, decide_eq_true_eq, decide_eq_false_iff_not] at hb; omega) | (rw [h] at hb; simp at hb; done) | fail))) (fun hb => ?_))
         | ((with_reducible refine Or.inl ?_); (conv => whnf); (with_reducible refine And.intro LitSl.mk ?_))
         | refine Br.t ?_
         | refine Br.f ?_
         | (with_reducible refine Br.mk (fun hb => ?_) (fun hb => ?_) <;> (try rw [hb]) <;> (try simp only [List.length_map, decide_eq_true_eq, decide_eq_false_iff_not, Bool.not_eq_true', Bool.not_eq_false', Int.ofNat_lt, Int.ofNat_le, Int.not_lt, Int.not_le, Int.toNat_natCast] at hb))
         | ((with_reducible first | refine Or.inl (And.intro ?_ ?_) | refine And.intro ?_ ?_); (focus (first | with_reducible rfl | exact trivial | (exact ⟨rfl, trivial⟩) | (exact ⟨rfl, rfl, trivial⟩) | omega | (intro r hr; simp only [List.mem_singleton] at hr; subst hr; rfl)  | ((simp only [List.length_map] at *; omega)) | ((simp only [List.length_append, flagB_len, maxLen] at *; omega)) | ((simp only [in64, maxLen] at *; omega)) | (simp only [in64]; omega) | assumption | (simp; done) | (simp [V.cells]; done) | (simp [in64, maxLen, limK] at *; omega) | ((show confB _ _ = true); kernel_rfl) | rfl)))
         | (intro row hrow; (try simp only [Int.toNat_natCast, List.length_map, toNat_pred, toNat_succ', toNat_zero', toNat_one'] at hrow); (first | (have hsm := same_map (by assumption) hrow; subst hsm; clear hrow) | (obtain ⟨p, hp, rfl⟩ := of_map hrow; clear hrow)))))
        all_goals ((conv => whnf); (refine ⟨(), ?_, trivial⟩; (refine ⟨⟨[0], ?_⟩⟩; repeat' (first | (with_reducible rfl) | exact trivial | ((conv => whnf); (first | (with_reducible refine And.intro ?_ ?_) | (first | with_reducible rfl | ((first | refine congrArg V.str ?_ | refine congrArg (V.int _) ?_ | refine congrArg V.bool ?_ | refine congrArg V.sl ?_); (first | with_reducible rfl | omega | (exact hs) | rfl | (simp; done))) | (first | with_reducible rfl | omega | (exact hs) | rfl | (simp; done)) | rfl)))))))
      obtain ⟨p, hp⟩ : ∃ p, s.ev[i]? = some p := ⟨_, List.getElem?_eq_getElem hi⟩
      have hp2 := ok.e p (List.mem_of_getElem? hp)
      have b1 := textLe p.k (by omega); have b2 := textLe p.v (by omega); have b3 := numLe p.n.toNat (by omega); have b9 : (if p.d then [1] else [0] : Bs).length = 1 := by split <;> rfl
      repeat' ((conv => whnf); (first
       | (with_reducible first | refine AW.seq ?_ | refine AW.region base (by kernel_rfl) ?_ | refine AW.cond ?_ | refine AW.block ?_ | refine AW.ret ?_ | refine AW.exit ?_ | refine AW.skip ?_ | refine Br.t ?_ | refine Br.f ?_)
       | (with_reducible refine Br.mkT (fun hb => (by (first | omega | (simp only [List.length_map, decide_eq_true_eq, decide_eq_false_iff_not] at hb; omega) | (rw [h] at hb; simp at hb; done) | fail))) (fun hb => ?_))
       | (with_reducible refine Br.mkF (fun hb => (by (first | omega | (simp only [List.length_map, decide_eq_true_eq, decide_eq_false_iff_not] at hb; omega) | (rw [h] at hb; simp at hb; done) | fail))) (fun hb => ?_))
       | ((with_reducible refine Or.inl ?_); (conv => whnf); (with_reducible refine And.intro LitSl.mk ?_))
       | refine Br.t ?_
       | refine Br.f ?_
       | ((with_reducible refine Or.inl ?_); (conv => whnf); (first | (with_reducible first | refine ⟨_, text_fn _ (by omega), ?_⟩ | refine ⟨_, num_fn _ (by omega), ?_⟩ | refine ⟨_, num_fn _ (by simp; omega), ?_⟩ | refine ⟨_, flagB_fn _, ?_⟩)))
       | (with_reducible refine Br.mk (fun hb => ?_) (fun hb => ?_) <;> (try rw [hb]) <;> (try simp only [List.length_map, decide_eq_true_eq, decide_eq_false_iff_not, Bool.not_eq_true', Bool.not_eq_false', Int.ofNat_lt, Int.ofNat_le, Int.not_lt, Int.not_le, Int.toNat_natCast] at hb))
       | ((with_reducible first | refine Or.inl (And.intro ?_ ?_) | refine And.intro ?_ ?_); (focus (first | with_reducible rfl | exact trivial | (exact ⟨rfl, trivial⟩) | (exact ⟨rfl, rfl, trivial⟩) | omega | (intro r hr; simp only [List.mem_singleton] at hr; subst hr; rfl)  | ((simp only [List.length_map] at *; omega)) | ((simp only [List.length_append, flagB_len, maxLen] at *; omega)) | ((simp only [in64, maxLen] at *; omega)) | (simp only [in64]; omega) | assumption | (simp; done) | (simp [V.cells]; done) | (simp [in64, maxLen, limK] at *; omega) | ((show confB _ _ = true); kernel_rfl) | rfl)))
       | (intro row hrow; (try simp only [Int.toNat_natCast, List.length_map, toNat_pred, toNat_succ', toNat_zero', toNat_one'] at hrow); (first | (have hsm := same_map (by assumption) hrow; subst hsm; clear hrow) | (obtain ⟨p, hp, rfl⟩ := of_map hrow; clear hrow)))))
      all_goals (try first | with_reducible assumption | ((first | show (_ : Int) ≤ _ | show (_ : Nat) ≤ _ | show (_ : Int) < _ | show ¬ (_ : Int) = _); (first | omega | (simp at *; omega) | (simp; done) | (simp [maxLen]; done))) | ((show in64 _); (simp only [in64] at *; (first | omega | (simp at *; omega) | (simp; done) | (simp [maxLen]; done)))) | ((with_reducible refine And.intro ?_ ?_) <;> (first | omega | (simp at *; omega) | (simp; done) | (simp [maxLen]; done))))
      all_goals (first
        | (with_reducible exact absurd rfl (by assumption))
        | ((conv => whnf); (refine ⟨(i + 1, ?_), ?_⟩); (rotate_left 1); (refine And.intro ?_ (And.intro ?_ ?_)); (focus (refine ⟨⟨[0], ?_⟩⟩; repeat' (first | (with_reducible rfl) | exact trivial | ((conv => whnf); (first | (with_reducible refine And.intro ?_ ?_) | (first | with_reducible rfl | ((first | refine congrArg V.str ?_ | refine congrArg (V.int _) ?_ | refine congrArg V.bool ?_ | refine congrArg V.sl ?_); (first | with_reducible rfl | omega | rfl | (simp; done))) | (first | with_reducible rfl | omega | rfl | (simp; done)) | rfl)))))); (focus (refine ⟨by omega, ?_⟩; rw [hs]; simp only [esB]; rw [flat_step _ hp, List.append_assoc]; rfl)); (focus (first | omega | (dsimp only; omega) | (simp; done) | (simp; omega) | (simp at *; omega))))
        | ((conv => whnf); (try (first | rfl | (exfalso; simp_all; done) | (exfalso; simp at *; omega))); done))

  · refine AW.loop (fun (⟨i, z⟩ : Nat × Bs) => i ≤ s.dn.length ∧ z = head3S s ++ dsB (s.dn.take i)) (fun (⟨i, z⟩ : Nat × Bs) => ⟨[(1, .ptr 0 0), (3, .str z), (106, .sl (s.dn.map encD)), (107, .int .i64 ((s.dn.map encD).length : Int)), (108, .int .i64 (i : Int))], [.cells (encS s)]⟩) (fun (⟨i, z⟩ : Nat × Bs) => s.dn.length - i) (0, head3S s) ?_ ?_ ?_
    · exact ⟨Nat.zero_le _, by simp [dsB]⟩
    · (refine ⟨⟨[0], ?_⟩⟩; repeat' (first | (with_reducible rfl) | exact trivial | ((conv => whnf); (first | (with_reducible refine And.intro ?_ ?_) | (first | with_reducible rfl | ((first | refine congrArg V.str ?_ | refine congrArg (V.int _) ?_ | refine congrArg V.bool ?_ | refine congrArg V.sl ?_); (first | with_reducible rfl | omega | (simp; done) | (simp [head1S, head2S, head3S, e1, e2, e3, flagB]; done) | rfl | (simp; done))) | (first | with_reducible rfl | omega | (simp; done) | (simp [head1S, head2S, head3S, e1, e2, e3, flagB]; done) | rfl | (simp; done)) | rfl)))))
    · rintro ⟨i, z⟩ hk
      obtain ⟨hi1, hs⟩ := hk
      have hsl0 : z.length ≤ 31316 := by rw [hs, List.length_append]; have := dsB_len ok i; omega
      rcases (by omega : i = s.dn.length ∨ i < s.dn.length) with hi | hi
      · subst hi
        rw [List.take_length] at hs
        repeat' ((conv => whnf); (first
         | (with_reducible first | refine AW.seq ?_ | refine AW.region base (by kernel_rfl) ?_ | refine AW.cond ?_ | refine AW.block ?_ | refine AW.ret ?_ | refine AW.exit ?_ | refine AW.skip ?_ | refine Br.t ?_ | refine Br.f ?_)
         | (with_reducible refine Br.mkT (fun hb => (by (first | omega | (simp only [List.length_map, decide_eq_true_eq, decide_eq_false_iff_not] at hb; omega) | (rw [h] at hb; simp at hb; done) | fail))) (fun hb => ?_))
         | (with_reducible refine Br.mkF (fun hb => (by (first | omega | (simp only [List.length_map, decide_eq_true_eq, decide_eq_false_iff_not] at hb; omega) | (rw [h] at hb; simp at hb; done) | fail))) (fun hb => ?_))
         | ((with_reducible refine Or.inl ?_); (conv => whnf); (with_reducible refine And.intro LitSl.mk ?_))
         | refine Br.t ?_
         | refine Br.f ?_
         | (with_reducible refine Br.mk (fun hb => ?_) (fun hb => ?_) <;> (try rw [hb]) <;> (try simp only [List.length_map, decide_eq_true_eq, decide_eq_false_iff_not, Bool.not_eq_true', Bool.not_eq_false', Int.ofNat_lt, Int.ofNat_le, Int.not_lt, Int.not_le, Int.toNat_natCast] at hb))
         | ((with_reducible first | refine Or.inl (And.intro ?_ ?_) | refine And.intro ?_ ?_); (focus (first | with_reducible rfl | exact trivial | (exact ⟨rfl, trivial⟩) | (exact ⟨rfl, rfl, trivial⟩) | omega | (intro r hr; simp only [List.mem_singleton] at hr; subst hr; rfl)  | ((simp only [List.length_map] at *; omega)) | ((simp only [List.length_append, flagB_len, maxLen] at *; omega)) | ((simp only [in64, maxLen] at *; omega)) | (simp only [in64]; omega) | assumption | (simp; done) | (simp [V.cells]; done) | (simp [in64, maxLen, limK] at *; omega) | ((show confB _ _ = true); kernel_rfl) | rfl)))
         | (intro row hrow; (try simp only [Int.toNat_natCast, List.length_map, toNat_pred, toNat_succ', toNat_zero', toNat_one'] at hrow); (first | (have hsm := same_map (by assumption) hrow; subst hsm; clear hrow) | (obtain ⟨p, hp, rfl⟩ := of_map hrow; clear hrow)))))
        all_goals ((conv => whnf); (refine ⟨(), ?_, trivial⟩; (refine ⟨⟨[0], ?_⟩⟩; repeat' (first | (with_reducible rfl) | exact trivial | ((conv => whnf); (first | (with_reducible refine And.intro ?_ ?_) | (first | with_reducible rfl | ((first | refine congrArg V.str ?_ | refine congrArg (V.int _) ?_ | refine congrArg V.bool ?_ | refine congrArg V.sl ?_); (first | with_reducible rfl | omega | (exact hs) | rfl | (simp; done))) | (first | with_reducible rfl | omega | (exact hs) | rfl | (simp; done)) | rfl)))))))
      obtain ⟨p, hp⟩ : ∃ p, s.dn[i]? = some p := ⟨_, List.getElem?_eq_getElem hi⟩
      have hp2 := ok.d p (List.mem_of_getElem? hp)
      have b1 := numLe p.s.toNat (by omega); have b2 := numLe p.id.toNat (by omega); have b3 := bytesA_len hp2.2.2
      repeat' ((conv => whnf); (first
       | (with_reducible first | refine AW.seq ?_ | refine AW.region base (by kernel_rfl) ?_ | refine AW.cond ?_ | refine AW.block ?_ | refine AW.ret ?_ | refine AW.exit ?_ | refine AW.skip ?_ | refine Br.t ?_ | refine Br.f ?_)
       | (with_reducible refine Br.mkT (fun hb => (by (first | omega | (simp only [List.length_map, decide_eq_true_eq, decide_eq_false_iff_not] at hb; omega) | (rw [h] at hb; simp at hb; done) | fail))) (fun hb => ?_))
       | (with_reducible refine Br.mkF (fun hb => (by (first | omega | (simp only [List.length_map, decide_eq_true_eq, decide_eq_false_iff_not] at hb; omega) | (rw [h] at hb; simp at hb; done) | fail))) (fun hb => ?_))
       | ((with_reducible refine Or.inl ?_); (conv => whnf); (with_reducible refine And.intro LitSl.mk ?_))
       | refine Br.t ?_
       | refine Br.f ?_
       | ((with_reducible refine Or.inl ?_); (conv => whnf); (first | (with_reducible first | refine ⟨_, text_fn _ (by omega), ?_⟩ | refine ⟨_, num_fn _ (by omega), ?_⟩ | refine ⟨_, num_fn _ (by simp; omega), ?_⟩ | refine ⟨_, flagB_fn _, ?_⟩ | refine ⟨_, anBytes_ok p.an hp2.2.2, ?_⟩)))
       | (with_reducible refine Br.mk (fun hb => ?_) (fun hb => ?_) <;> (try rw [hb]) <;> (try simp only [List.length_map, decide_eq_true_eq, decide_eq_false_iff_not, Bool.not_eq_true', Bool.not_eq_false', Int.ofNat_lt, Int.ofNat_le, Int.not_lt, Int.not_le, Int.toNat_natCast] at hb))
       | ((with_reducible first | refine Or.inl (And.intro ?_ ?_) | refine And.intro ?_ ?_); (focus (first | with_reducible rfl | exact trivial | (exact ⟨rfl, trivial⟩) | (exact ⟨rfl, rfl, trivial⟩) | omega | (intro r hr; simp only [List.mem_singleton] at hr; subst hr; rfl)  | ((simp only [List.length_map] at *; omega)) | ((simp only [List.length_append, flagB_len, maxLen] at *; omega)) | ((simp only [in64, maxLen] at *; omega)) | (simp only [in64]; omega) | assumption | (simp; done) | (simp [V.cells]; done) | (simp [in64, maxLen, limK] at *; omega) | ((show confB _ _ = true); kernel_rfl) | rfl)))
       | (intro row hrow; (try simp only [Int.toNat_natCast, List.length_map, toNat_pred, toNat_succ', toNat_zero', toNat_one'] at hrow); (first | (have hsm := same_map (by assumption) hrow; subst hsm; clear hrow) | (obtain ⟨p, hp, rfl⟩ := of_map hrow; clear hrow)))))
      all_goals (try first | with_reducible assumption | ((first | show (_ : Int) ≤ _ | show (_ : Nat) ≤ _ | show (_ : Int) < _ | show ¬ (_ : Int) = _); (first | omega | (simp at *; omega) | (simp; done) | (simp [maxLen]; done))) | ((show in64 _); (simp only [in64] at *; (first | omega | (simp at *; omega) | (simp; done) | (simp [maxLen]; done)))) | ((with_reducible refine And.intro ?_ ?_) <;> (first | omega | (simp at *; omega) | (simp; done) | (simp [maxLen]; done))))
      all_goals (first
        | (with_reducible exact absurd rfl (by assumption))
        | ((conv => whnf); (refine ⟨(i + 1, ?_), ?_⟩); (rotate_left 1); (refine And.intro ?_ (And.intro ?_ ?_)); (focus (refine ⟨⟨[0], ?_⟩⟩; repeat' (first | (with_reducible rfl) | exact trivial | ((conv => whnf); (first | (with_reducible refine And.intro ?_ ?_) | (first | with_reducible rfl | ((first | refine congrArg V.str ?_ | refine congrArg (V.int _) ?_ | refine congrArg V.bool ?_ | refine congrArg V.sl ?_); (first | with_reducible rfl | omega | rfl | (simp; done))) | (first | with_reducible rfl | omega | rfl | (simp; done)) | rfl)))))); (focus (refine ⟨by omega, ?_⟩; rw [hs]; simp only [dsB]; rw [flat_step _ hp, List.append_assoc]; rfl)); (focus (first | omega | (dsimp only; omega) | (simp; done) | (simp; omega) | (simp at *; omega))))
        | ((conv => whnf); (try (first | rfl | (exfalso; simp_all; done) | (exfalso; simp at *; omega))); done))

  all_goals ((conv => whnf); first | done | rfl)
end Go.Proofs.YtnblecdpkbempaaGreatDoor
