/-
  Ops: what is written is read; what is known of them. No conditions.
-/
import Derived.Test.YtnblecdpkbempaaDoorOpC
namespace Go.Proofs.YtnblecdpkbempaaDoor
open Go.RowKit
set_option linter.unusedSimpArgs false
set_option linter.unusedVariables false

theorem TK.num_of {t : TK} {k : Nat} {r : Bs} (hb : t.b = true) (hs : t.s = Go.Proofs.YtnblecdpkbempaaDoor.num k ++ r) (hk : k < 281474976710656) : t.num.s = r ∧ t.num.b = true ∧ t.numR = k := by
  have h := takeF_num k r hk
  rw [← hs] at h
  unfold TK.num TK.numR
  rw [if_pos hb, if_pos hb]
  simp [takeR, takeOk, takeV, h]
theorem TK.text_of {t : TK} {x r : Bs} (hb : t.b = true) (hs : t.s = Go.Proofs.YtnblecdpkbempaaDoor.text x ++ r) (hx : x.length ≤ 255) : t.text.s = r ∧ t.text.b = true ∧ t.textR = x := by
  have h := textF_text x r 255 (by omega) (by omega)
  rw [← hs] at h
  unfold TK.text TK.textR
  rw [if_pos hb, if_pos hb]
  simp [Go.Proofs.YtnblecdpkbempaaDoor.textR, textOk, textV, h]
theorem TK.flag_of {t : TK} {x : Bool} {r : Bs} (hb : t.b = true) (hs : t.s = (if x then [1] else [0]) ++ r) : t.flag.s = r ∧ t.flag.b = true ∧ t.flagR = x := by
  have h := flagF_flag x r
  rw [← hs] at h
  unfold TK.flag TK.flagR
  rw [if_pos hb, if_pos hb]
  simp [Go.Proofs.YtnblecdpkbempaaDoor.flagR, flagOk, flagV, h]
theorem TK.many_of {t : TK} {k : Nat} {r : Bs} {m code : Int} (hb : t.b = true) (hs : t.s = Go.Proofs.YtnblecdpkbempaaDoor.num k ++ r) (hk : k < 281474976710656) (hm : (k : Int) ≤ m) : (t.many m code).s = r ∧ (t.many m code).b = true ∧ t.manyR m code = k := by
  obtain ⟨h1, h2, h3⟩ := TK.num_of hb hs hk
  obtain ⟨e1, e2⟩ := TK.many_fine (m := m) (code := code) h2 (by rw [h3]; exact hm)
  rw [e1, e2]; exact ⟨h1, h2, h3⟩
theorem readWs_of : ∀ (l : List Wr) (t : TK) (acc : List Wr) (r : Bs), t.b = true → t.s = wsBytes l ++ r → (∀ w ∈ l, w.k.length ≤ 8 ∧ w.v.length ≤ 40) → ∃ t', readWs l.length t acc = (t', acc ++ l) ∧ t'.s = r ∧ t'.b = true
  | [], t, acc, r, hb, hs, _ => ⟨t, by simp [readWs], by simpa [wsBytes] using hs, hb⟩
  | w :: l, t, acc, r, hb, hs, hw => by
    obtain ⟨q1, q2⟩ := hw w (List.mem_cons_self ..)
    have hs' : t.s = Go.Proofs.YtnblecdpkbempaaDoor.text w.k ++ (Go.Proofs.YtnblecdpkbempaaDoor.text w.v ++ ((if w.d then [1] else [0]) ++ (wsBytes l ++ r))) := by
      rw [hs]; simp [wsBytes, wrBytes, List.append_assoc]
    obtain ⟨a1, a2, a3⟩ := TK.text_of hb hs' (by omega)
    obtain ⟨b1, b2, b3⟩ := TK.text_of a2 a1 (by omega)
    obtain ⟨c1, c2, c3⟩ := TK.flag_of b2 b1
    obtain ⟨t', d1, d2, d3⟩ := readWs_of l t.text.text.flag (acc ++ [w]) r c2 c1 fun w hw' => hw w (List.mem_cons_of_mem _ hw')
    refine ⟨t', ?_, d2, d3⟩
    rw [List.length_cons, readWs, a3, b3, c3, d1, List.append_assoc]; rfl
theorem readRs_of : ∀ (l : List Rw) (t : TK) (acc : List Rw) (r : Bs), t.b = true → t.s = rsBytes l ++ r → (∀ w ∈ l, w.k.length ≤ 255 ∧ w.v.length ≤ 255 ∧ 0 ≤ w.n ∧ w.n < 281474976710656) → ∃ t', readRs l.length t acc = (t', acc ++ l) ∧ t'.s = r ∧ t'.b = true
  | [], t, acc, r, hb, hs, _ => ⟨t, by simp [readRs], by simpa [rsBytes] using hs, hb⟩
  | w :: l, t, acc, r, hb, hs, hw => by
    obtain ⟨q1, q2, q3, q4⟩ := hw w (List.mem_cons_self ..)
    have hs' : t.s = Go.Proofs.YtnblecdpkbempaaDoor.text w.k ++ (Go.Proofs.YtnblecdpkbempaaDoor.text w.v ++ (Go.Proofs.YtnblecdpkbempaaDoor.num w.n.toNat ++ (rsBytes l ++ r))) := by
      rw [hs]; simp [rsBytes, rwBytes, List.append_assoc]
    obtain ⟨a1, a2, a3⟩ := TK.text_of hb hs' (by omega)
    obtain ⟨b1, b2, b3⟩ := TK.text_of a2 a1 (by omega)
    obtain ⟨c1, c2, c3⟩ := TK.num_of b2 b1 (by omega)
    obtain ⟨t', d1, d2, d3⟩ := readRs_of l t.text.text.num (acc ++ [w]) r c2 c1 fun w hw' => hw w (List.mem_cons_of_mem _ hw')
    refine ⟨t', ?_, d2, d3⟩
    rw [List.length_cons, readRs, a3, b3, c3, Int.toNat_of_nonneg q3, d1, List.append_assoc]; rfl
/-- what is written is read, whatever is behind -/
theorem readO_of (o : OpV) (r : Bs) (h : opB o = true) : (readO (bytesO o ++ r)).2 = o ∧ (readO (bytesO o ++ r)).1.s = r ∧ (readO (bytesO o ++ r)).1.b = true := by
  obtain ⟨⟨b1, b2⟩, ⟨b3, b4, b5⟩, ⟨b6, b7⟩, b8, b9⟩ := op_bounds h
  have hs : (tk0 (bytesO o ++ r)).s = num o.kind.toNat ++ (text o.key ++ (text o.to ++ (text o.val ++ (num o.ver.toNat ++ (num o.ws.length ++ (wsBytes o.ws ++ r)))))) := by
    show bytesO o ++ r = _
    simp [bytesO, headO, List.append_assoc]
  obtain ⟨n1, n2, n3⟩ := TK.num_of (t := tk0 (bytesO o ++ r)) rfl hs (by omega)
  obtain ⟨k1, k2, k3⟩ := TK.text_of n2 n1 (by omega)
  obtain ⟨t1, t2, t3⟩ := TK.text_of k2 k1 (by omega)
  obtain ⟨v1, v2, v3⟩ := TK.text_of t2 t1 (by omega)
  obtain ⟨e1, e2, e3⟩ := TK.num_of v2 v1 (by omega)
  obtain ⟨m1, m2, m3⟩ := TK.many_of (m := 4) (code := 13) e2 e1 (by omega) (by omega)
  obtain ⟨t', d1, d2, d3⟩ := readWs_of o.ws _ [] r m2 m1 b9
  have hraw : rawO (bytesO o ++ r) = (t', o) := by
    unfold rawO
    simp only [TK.o5]
    rw [n3, k3, t3, v3, e3, m3, d1, Int.toNat_of_nonneg (by omega), Int.toNat_of_nonneg (by omega)]
    rfl
  unfold readO
  rw [hraw]
  simp only
  rw [if_pos d3, if_pos h]
  exact ⟨rfl, d2, d3⟩
theorem readA_of (a : AnV) (r : Bs) (h : anB a = true) : (readA (bytesA a ++ r)).2 = a ∧ (readA (bytesA a ++ r)).1.s = r ∧ (readA (bytesA a ++ r)).1.b = true := by
  obtain ⟨⟨b1, b2⟩, ⟨b3, b4⟩, b5, b8, b9⟩ := an_bounds h
  have hs : (tk0 (bytesA a ++ r)).s = num a.code.toNat ++ (text a.val ++ (num a.ver.toNat ++ (num a.rows.length ++ (rsBytes a.rows ++ r)))) := by
    show bytesA a ++ r = _
    simp [bytesA, headA, List.append_assoc]
  obtain ⟨n1, n2, n3⟩ := TK.num_of (t := tk0 (bytesA a ++ r)) rfl hs (by omega)
  obtain ⟨k1, k2, k3⟩ := TK.text_of n2 n1 (by omega)
  obtain ⟨e1, e2, e3⟩ := TK.num_of k2 k1 (by omega)
  obtain ⟨m1, m2, m3⟩ := TK.many_of (m := 16) (code := 13) e2 e1 (by omega) (by omega)
  obtain ⟨t', d1, d2, d3⟩ := readRs_of a.rows _ [] r m2 m1 b9
  have hraw : rawA (bytesA a ++ r) = (t', a) := by
    unfold rawA
    simp only [TK.a3]
    rw [n3, k3, e3, m3, d1, Int.toNat_of_nonneg (by omega), Int.toNat_of_nonneg (by omega)]
    rfl
  unfold readA
  rw [hraw]
  simp only
  rw [if_pos d3]
  exact ⟨rfl, d2, d3⟩
theorem bytesO_ne (o : OpV) : ¬ bytesO o = [] := by
  intro h
  have := num_ne o.kind.toNat
  simp [bytesO, headO, this] at h
theorem rep_altT {w : World} {R : Nat → Prop} {ρ : Rho} {x y : V} {v : Value} (h : Rep w R ρ (.alt true x y) v) : Rep w R ρ x v := by cases h; assumption
theorem rep_altF {w : World} {R : Nat → Prop} {ρ : Rho} {x y : V} {v : Value} (h : Rep w R ρ (.alt false x y) v) : Rep w R ρ y v := by cases h; assumption
theorem rep_nilO {w : World} {R : Nat → Prop} {ρ : Rho} {i : Nat} {cs : List V} {v : Value} (hi : cs[i]? = some .nils) (h : Rep w R ρ (.agg cs) v) : Rep w R ρ (.agg (cs.set i (.sl []))) v := by
  cases h with
  | agg hl h1 hh =>
    have := Reps.nilAt (v' := .sl []) ⟨hl, hh⟩ hi fun x hx => by rw [hx.of_nils]; exact .slnil
    exact .agg this.1 h1 this.2
theorem Fn.nilO {f : FuncId} {cs : List V} {r : V} (i : Nat) (hi : cs[i]? = some .nils) (h : Fn Tryd.prog f [.agg (cs.set i (.sl []))] r) : Fn Tryd.prog f [.agg cs] r := h.weaken fun w R xs hx => by
  obtain ⟨x, rr, rfl, h1, h2⟩ := hx.uncons
  exact .cons (rep_nilO hi h1) h2
abbrev kO : OpV := ⟨4, [97], [], [118], 3, []⟩
abbrev kA : AnV := ⟨14, [], 2, []⟩
theorem kO_ok : opB kO = true := by kernel_rfl
theorem kA_ok : anB kA = true := by kernel_rfl
theorem kO_len : (bytesO kO).length ≤ 100 := by
  have q1 := numLe 4 (by omega); have q2 := textLe [97] (by decide); have q3 := textLe [] (by decide); have q4 := textLe [118] (by decide); have q5 := numLe 3 (by omega); have q6 := numLe 0 (by omega)
  show (headO kO ++ wsBytes []).length ≤ 100
  simp only [headO, wsBytes, List.length_append, List.map_nil, List.flatten_nil, List.length_nil, List.length_cons] at *
  simp only [show (4 : Int).toNat = 4 from rfl, show (3 : Int).toNat = 3 from rfl]
  omega
theorem kA_len : (bytesA kA).length ≤ 100 := by
  have q1 := numLe 14 (by omega); have q3 := textLe [] (by decide); have q5 := numLe 2 (by omega); have q6 := numLe 0 (by omega)
  show (headA kA ++ rsBytes []).length ≤ 100
  simp only [headA, rsBytes, List.length_append, List.map_nil, List.flatten_nil, List.length_nil, List.length_cons] at *
  simp only [show (14 : Int).toNat = 14 from rfl, show (2 : Int).toNat = 2 from rfl]
  omega

theorem k_bytes : Fn Tryd.prog 7 [.agg [.int .i64 4, .str [97], .str [], .str [118], .int .i64 3, .sl []]] (.str (bytesO kO)) := opBytes_ok kO kO_ok
theorem k_abytes : Fn Tryd.prog 12 [.agg [.int .i64 14, .str [], .int .i64 2, .sl []]] (.str (bytesA kA)) := anBytes_ok kA kA_ok
theorem k_read : Fn Tryd.prog 10 [.str (bytesO kO ++ [122])] (.tup [.agg [.int .i64 4, .str [97], .str [], .str [118], .int .i64 3, .sl []], .str [122], noErr]) := by
  have h := opRead_fn (bytesO kO ++ [122])
  obtain ⟨h1, h2, h3⟩ := readO_of kO [122] kO_ok
  rw [h1, h2, h3] at h
  exact h.res fun w R x hx => rep_tup3 hx fun y hy => rep_altT hy
theorem k_aread : Fn Tryd.prog 11 [.str (bytesA kA ++ [121])] (.tup [.agg [.int .i64 14, .str [], .int .i64 2, .sl []], .str [121], noErr]) := by
  have h := anRead_fn (bytesA kA ++ [121])
  obtain ⟨h1, h2, h3⟩ := readA_of kA [121] kA_ok
  rw [h1, h2, h3] at h
  exact h.res fun w R x hx => rep_tup3 hx fun y hy => rep_altT hy
theorem k_read0 : Fn Tryd.prog 10 [.str []] (.tup [.agg (encO zeroO), .str [], errV [[112, 97, 99, 107]] 11]) := by
  have h := opRead_fn []
  have e : readO [] = (⟨[], false, true, 11, 0⟩, zeroO) := by kernel_rfl
  rw [e] at h
  exact h.res fun w R x hx => rep_tup3 hx fun y hy => rep_altT (rep_altF hy)
theorem k_is : Fn Tryd.prog 6 [.agg [.int .i64 4, .str [97], .str [], .str [118], .int .i64 3, .sl []]] (.bool true) := by have h := opIs_fn kO; rw [kO_ok] at h; exact h
theorem k_is0 : Fn Tryd.prog 6 [.agg [.int .i64 0, .str [], .str [], .str [], .int .i64 0, .nils]] (.bool false) := Fn.nilO 5 rfl (by have h := opIs_fn zeroO; rw [show opB zeroO = false by kernel_rfl] at h; exact h)
theorem k_wr : Fn Tryd.prog 8 [.agg [.int .i64 4, .str [97], .str [], .str [118], .int .i64 3, .sl []]] (.bool true) := by have h := opWrites_fn kO; rw [show writesB kO = true by kernel_rfl] at h; exact h
theorem k_wr0 : Fn Tryd.prog 8 [.agg [.int .i64 1, .str [], .str [], .str [], .int .i64 0, .nils]] (.bool false) := Fn.nilO 5 rfl (by have h := opWrites_fn ⟨1, [], [], [], 0, []⟩; rw [show writesB ⟨1, [], [], [], 0, []⟩ = false by kernel_rfl] at h; exact h)
theorem k_key : Fn Tryd.prog 9 [.agg [.int .i64 6, .str [], .str [], .str [], .int .i64 0, .sl [[.str [107], .str [], .bool false]]]] (.str [107]) := opKey_fn ⟨6, [], [], [], 0, [⟨[107], [], false⟩]⟩
theorem k_same : Fn Tryd.prog 13 [.agg [.int .i64 4, .str [97], .str [], .str [118], .int .i64 3, .sl []], .agg [.int .i64 4, .str [97], .str [], .str [118], .int .i64 3, .sl []]] (.bool true) := by have h := opSame_fn kO kO; rw [decide_eq_true rfl] at h; exact h
theorem k_asame : Fn Tryd.prog 15 [.agg [.int .i64 14, .str [], .int .i64 2, .sl []], .agg [.int .i64 14, .str [], .int .i64 2, .sl []]] (.bool true) := by have h := anSame_fn kA kA; rw [decide_eq_true rfl] at h; exact h

set_option maxRecDepth 100000 in
set_option maxHeartbeats 2000000 in
theorem known6_fn  : Fn Tryd.prog 5 [] (.bool true) := by
  refine Fn.mk' base Tryd.func5 rfl rfl rfl ?_
  repeat' (first
    | ((with_reducible show AW _ _ _ (Code.seq (Code.region 5 _ _) _) _ _ _); (refine AW.nilC 5001 3 rfl rfl ?_))
    | ((with_reducible show AW _ _ _ (Code.seq (Code.region 2 _ _) _) _ _ _); (refine AW.nilC 2001 5 rfl rfl ?_))
      | (with_reducible refine AW.seq ?_) | (with_reducible refine AW.region base (by kernel_rfl) ?_) | (with_reducible refine AW.cond ?_) | (with_reducible refine AW.block ?_) | (with_reducible refine AW.ret ?_) | (with_reducible refine AW.exit ?_) | (with_reducible refine AW.skip ?_)
      | ((conv => whnf); (first
       | ((with_reducible show AW _ _ _ (Code.seq (Code.region 5 _ _) _) _ _ _); (refine AW.nilC 5001 3 rfl rfl ?_))
       | ((with_reducible show AW _ _ _ (Code.seq (Code.region 2 _ _) _) _ _ _); (refine AW.nilC 2001 5 rfl rfl ?_))
         | (with_reducible refine Br.t ?_)
         | (with_reducible refine Br.f ?_)
         | ((with_reducible refine Or.inl ?_); (conv => whnf); (with_reducible refine And.intro LitSl.mk ?_))
         | (refine Br.t ?_)
         | (refine Br.f ?_)
         | (refine Or.inl ⟨_, k_is, ?_⟩)
         | ((with_reducible refine Or.inl ?_); (conv => whnf); (refine ⟨_, k_is, ?_⟩))
         | (refine Or.inl ⟨_, k_is0, ?_⟩)
         | ((with_reducible refine Or.inl ?_); (conv => whnf); (refine ⟨_, k_is0, ?_⟩))
         | (refine Or.inl ⟨_, k_wr, ?_⟩)
         | ((with_reducible refine Or.inl ?_); (conv => whnf); (refine ⟨_, k_wr, ?_⟩))
         | (refine Or.inl ⟨_, k_wr0, ?_⟩)
         | ((with_reducible refine Or.inl ?_); (conv => whnf); (refine ⟨_, k_wr0, ?_⟩))
         | (refine Or.inl ⟨_, k_bytes, ?_⟩)
         | ((with_reducible refine Or.inl ?_); (conv => whnf); (refine ⟨_, k_bytes, ?_⟩))
         | (refine Or.inl ⟨_, k_abytes, ?_⟩)
         | ((with_reducible refine Or.inl ?_); (conv => whnf); (refine ⟨_, k_abytes, ?_⟩))
         | (refine Or.inl ⟨_, k_read, ?_⟩)
         | ((with_reducible refine Or.inl ?_); (conv => whnf); (refine ⟨_, k_read, ?_⟩))
         | (refine Or.inl ⟨_, k_aread, ?_⟩)
         | ((with_reducible refine Or.inl ?_); (conv => whnf); (refine ⟨_, k_aread, ?_⟩))
         | (refine Or.inl ⟨_, k_read0, ?_⟩)
         | ((with_reducible refine Or.inl ?_); (conv => whnf); (refine ⟨_, k_read0, ?_⟩))
         | (refine Or.inl ⟨_, k_key, ?_⟩)
         | ((with_reducible refine Or.inl ?_); (conv => whnf); (refine ⟨_, k_key, ?_⟩))
         | (refine Or.inl ⟨_, k_same, ?_⟩)
         | ((with_reducible refine Or.inl ?_); (conv => whnf); (refine ⟨_, k_same, ?_⟩))
         | (refine Or.inl ⟨_, k_asame, ?_⟩)
         | ((with_reducible refine Or.inl ?_); (conv => whnf); (refine ⟨_, k_asame, ?_⟩))
         | (refine Or.inl ⟨_, fis_fn [[112, 97, 99, 107]] 11 _, ?_⟩)
         | ((with_reducible refine Or.inl ?_); (conv => whnf); (refine ⟨_, fis_fn [[112, 97, 99, 107]] 11 _, ?_⟩))
         | (with_reducible refine Br.mk (fun hb => ?_) (fun hb => ?_) <;> (try rw [hb]) <;> (try simp only [List.length_map, decide_eq_true_eq, decide_eq_false_iff_not, Bool.not_eq_true', Bool.not_eq_false', Int.ofNat_lt, Int.ofNat_le, Int.not_lt, Int.not_le, Int.toNat_natCast] at hb))
         | (with_reducible refine ⟨_, (show ByteRows _ _ by first | exact ByteRows.map _ | (repeat (first | exact ByteRows.nil | exact ByteRows.map _ | refine ByteRows.cons ?_ | refine ByteRows.app ?_ ?_))), ?_⟩)
         | ((fail_if_success (with_reducible show ∃ j, Fits _ _ _ _ ∧ _)); (refine Exists.intro _ (And.intro (ByteRows.rep _) ?_)))
         | ((fail_if_success (with_reducible show ∃ j, Fits _ _ _ _ ∧ _)); (refine Exists.intro _ (And.intro (ByteRows.app (ByteRows.map _) (ByteRows.cons ByteRows.nil)) ?_)))
         | ((with_reducible refine Or.inl (And.intro ?_ ?_)); (focus (first | with_reducible rfl | exact trivial | (exact ⟨rfl, trivial⟩) | (exact ⟨rfl, rfl, trivial⟩) | omega | (intro r hr; simp only [List.mem_singleton] at hr; subst hr; rfl)  | ((have := kO_len; simp only [maxLen]; omega)) | ((have := kA_len; simp only [maxLen]; omega)) | ((have := kO_len; show _ ≤ maxLen; simp only [maxLen]; simp; omega)) | ((have := kA_len; simp only [maxLen]; simp; omega)) | (simp only [in64]; omega) | assumption | (simp; done) | (simp [V.cells]; done) | (simp [in64, maxLen, limK] at *; omega) | ((show confB _ _ = true); kernel_rfl) | rfl)))
         | ((with_reducible refine And.intro ?_ ?_); (focus (first | with_reducible rfl | exact trivial | (exact ⟨rfl, trivial⟩) | (exact ⟨rfl, rfl, trivial⟩) | omega | (intro r hr; simp only [List.mem_singleton] at hr; subst hr; rfl)  | ((have := kO_len; simp only [maxLen]; omega)) | ((have := kA_len; simp only [maxLen]; omega)) | ((have := kO_len; show _ ≤ maxLen; simp only [maxLen]; simp; omega)) | ((have := kA_len; simp only [maxLen]; simp; omega)) | (simp only [in64]; omega) | assumption | (simp; done) | (simp [V.cells]; done) | (simp [in64, maxLen, limK] at *; omega) | ((show confB _ _ = true); kernel_rfl) | rfl)))
         | (intro row hrow; (try simp only [Int.toNat_natCast, List.length_map, toNat_pred, toNat_succ', toNat_zero', toNat_one'] at hrow); (first | (have hsm := same_map (by assumption) hrow; subst hsm; clear hrow) | (obtain ⟨p, hp, rfl⟩ := of_map hrow; clear hrow)))
         | (with_reducible refine AW.seq ?_) | (with_reducible refine AW.region base (by kernel_rfl) ?_) | (with_reducible refine AW.cond ?_) | (with_reducible refine AW.block ?_) | (with_reducible refine AW.ret ?_) | (with_reducible refine AW.exit ?_) | (with_reducible refine AW.skip ?_))))
  all_goals (conv => whnf)
  all_goals (first | rfl | (simp only [V.bool.injEq, V.tup.injEq, V.agg.injEq, V.str.injEq, V.int.injEq, V.sl.injEq, V.ifc.injEq, List.cons.injEq, and_true, true_and, and_self]; done) | (simp only [V.bool.injEq, V.tup.injEq, V.agg.injEq, V.str.injEq, V.int.injEq, V.sl.injEq, V.ifc.injEq, List.cons.injEq, and_true, true_and, and_self]; grind) | (simp  at *; done) | (simp  at *; grind))
end Go.Proofs.YtnblecdpkbempaaDoor
