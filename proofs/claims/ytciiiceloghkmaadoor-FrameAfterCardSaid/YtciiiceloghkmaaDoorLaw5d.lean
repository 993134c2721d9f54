/-
  A law of frames: what stands behind a frame that is not whole: its walk. No conditions.
-/
import Derived.Test.YtciiiceloghkmaaDoorLaw5c
namespace Go.Proofs.YtciiiceloghkmaaDoor
open Go.RowKit
set_option linter.unusedSimpArgs false
set_option linter.unusedVariables false
theorem mulp_back (z : Nat) (hz : z < 4294967296) : z * 16777619 % 4294967296 * 899433627 % 4294967296 = z := by
  rw [Nat.mod_mul_mod, Nat.mul_assoc, show 16777619 * 899433627 = 4294967296 * 3513497 + 1 from rfl, Nat.mul_add, Nat.mul_one, show z * (4294967296 * 3513497) = 4294967296 * (3513497 * z) by rw [Nat.mul_comm z, Nat.mul_assoc], Nat.mul_add_mod, Nat.mod_eq_of_lt hz]
theorem mulp_inj {x y : Nat} (hx : x < 4294967296) (hy : y < 4294967296) (h : (x * 16777619) % 4294967296 = (y * 16777619) % 4294967296) : x = y := by
  rw [← mulp_back x hx, h, mulp_back y hy]
theorem xor_lt32 {n : Nat} (h : n < 4294967296) (b : UInt8) : n ^^^ b.toNat < 4294967296 := by
  have := Nat.xor_lt_two_pow (x := n) (y := b.toNat) (n := 32) (by omega) (by have := UInt8.toNat_lt b; omega)
  omega
theorem xor_undo (n b : Nat) : (n ^^^ b) ^^^ b = n := by rw [Nat.xor_assoc, Nat.xor_self, Nat.xor_zero]
theorem xor_undo' (n b : Nat) : n ^^^ (n ^^^ b) = b := by rw [← Nat.xor_assoc, Nat.xor_self, Nat.zero_xor]
theorem sumStep_xor {n m : Nat} {b b' : UInt8} (hn : n < 4294967296) (hm : m < 4294967296) (h : sumStep n b = sumStep m b') : n ^^^ b.toNat = m ^^^ b'.toNat := by
  rw [sumStep, sumStep] at h
  exact mulp_inj (xor_lt32 hn b) (xor_lt32 hm b') h
theorem sumStep_left {n m : Nat} {b : UInt8} (hn : n < 4294967296) (hm : m < 4294967296) (h : sumStep n b = sumStep m b) : n = m := by
  have := sumStep_xor hn hm h
  rw [← xor_undo n b.toNat, this, xor_undo]
theorem sumStep_right {n : Nat} {b b' : UInt8} (hn : n < 4294967296) (h : sumStep n b = sumStep n b') : b = b' := by
  have := sumStep_xor hn hn h
  apply UInt8.toNat_inj.1
  rw [← xor_undo' n b.toNat, this, xor_undo']
theorem fold_inj : ∀ (r : Bs) (n m : Nat), n < 4294967296 → m < 4294967296 → r.foldl sumStep n = r.foldl sumStep m → n = m
  | [], n, m, _, _, h => h
  | b :: r, n, m, hn, hm, h => by
    rw [List.foldl_cons, List.foldl_cons] at h
    exact sumStep_left hn hm (fold_inj r _ _ (sumStep_lt _ _) (sumStep_lt _ _) h)
theorem sum_byte (a c : Bs) (x y : UInt8) (h : sum (a ++ x :: c) = sum (a ++ y :: c)) : x = y := by
  rw [sum_app, sum_app, List.foldl_cons, List.foldl_cons] at h
  exact sumStep_right (sum_lt a) (fold_inj c _ _ (sumStep_lt _ _) (sumStep_lt _ _) h)
theorem sum_set {s : Bs} {i : Nat} {x y : UInt8} (hi : s[i]? = some x) (hne : y ≠ x) : sum (s.set i y) ≠ sum s := by
  intro h
  obtain ⟨hl, he⟩ := List.getElem?_eq_some_iff.1 hi
  have e1 : s = s.take i ++ x :: s.drop (i + 1) := by rw [← he, ← List.drop_eq_getElem_cons hl, List.take_append_drop]
  have e2 : s.set i y = s.take i ++ y :: s.drop (i + 1) := by rw [List.set_eq_take_append_cons_drop, if_pos hl]
  rw [e2] at h
  have h3 : sum (s.take i ++ y :: s.drop (i + 1)) = sum (s.take i ++ x :: s.drop (i + 1)) := h.trans (congrArg sum e1)
  exact hne (sum_byte _ _ _ _ h3)
theorem bytes4_inj {n m : Nat} (hn : n < 4294967296) (hm : m < 4294967296) (h : bytes4 n = bytes4 m) : n = m := by
  simp only [bytes4, List.cons.injEq, and_true] at h
  obtain ⟨h0, h1, h2, h3⟩ := h
  have h0 := congrArg UInt8.toNat h0
  have h1 := congrArg UInt8.toNat h1
  have h2 := congrArg UInt8.toNat h2
  have h3 := congrArg UInt8.toNat h3
  simp only [UInt8.toNat_ofNat'] at h0 h1 h2 h3
  omega
theorem ByteRows.set {r : List (List V)} {l : Bs} (h : ByteRows r l) (i : Nat) (n : Int) : ByteRows (r.set i [.int .u8 n]) (l.set i (UInt8.ofNat n.toNat)) := by
  induction h generalizing i with
  | nil => exact .nil
  | cons h ih =>
    cases i with
    | zero => exact .cons h
    | succ i => exact .cons (ih i)
def mid : Bs := [109, 105, 100, 100, 108, 101]
theorem text_mid (t : Bs) (h : t.length = 6) : text t = 6 :: t := by rw [text, h, num_lo (by omega)]; rfl
theorem wrap_mid_len : (wrap mid).length = 11 := by rw [wrap_len, text_mid mid rfl]; rfl
def turned (p : UInt8) (spoil : Int) : UInt8 := UInt8.ofNat ((((p.toNat : Int).toNat ^^^ spoil.toNat : Nat) : Int)).toNat
theorem turned_ne {p : UInt8} {spoil : Int} (h0 : 1 ≤ spoil) (h1 : spoil ≤ 255) : turned p spoil ≠ p := by
  intro h
  have h := congrArg UInt8.toNat h
  rw [turned, Int.toNat_natCast, Int.toNat_natCast, UInt8.toNat_ofNat'] at h
  have hlt := Nat.xor_lt_two_pow (x := p.toNat) (y := spoil.toNat) (n := 8) (by have := UInt8.toNat_lt p; omega) (by omega)
  rw [Nat.mod_eq_of_lt (by omega)] at h
  have h2 := xor_undo' p.toNat spoil.toNat
  rw [h, Nat.xor_self] at h2
  omega
theorem after_bad {p : UInt8} {spoil : Int} {n : Nat} (h0 : 1 ≤ spoil) (h1 : spoil ≤ 255) (hn : 5 ≤ n) (hn2 : n ≤ 10) (hp : (wrap mid)[n]? = some p) (rest : Bs) (hr : rest.length ≤ 1000000000) : Bad ((wrap mid).set n (turned p spoil) ++ rest) := by
  obtain ⟨k, rfl⟩ : ∃ k, n = 4 + (k + 1) := ⟨n - 5, by omega⟩
  have hb4 := bytes4_len (sum (text mid))
  have e1 : (wrap mid).set (4 + (k + 1)) (turned p spoil) = bytes4 (sum (text mid)) ++ text (mid.set k (turned p spoil)) := by
    rw [text_mid (mid.set k (turned p spoil)) (by rw [List.length_set]; rfl), wrap, List.set_append_right _ _ (by rw [hb4]; omega), hb4, show 4 + (k + 1) - 4 = k + 1 by omega, text_mid mid rfl, List.set_cons_succ]
  have hp' : mid[k]? = some p := by
    rw [wrap, List.getElem?_append_right (by rw [hb4]; omega), hb4, show 4 + (k + 1) - 4 = k + 1 by omega, text_mid mid rfl, List.getElem?_cons_succ] at hp
    exact hp
  rw [e1, List.append_assoc]
  refine bad_spoilt hb4 (fun h => ?_) (by rw [List.length_set]; decide) hr
  have h2 := bytes4_inj (sum_lt _) (sum_lt _) h
  have e3 : text (mid.set k (turned p spoil)) = (text mid).set (k + 1) (turned p spoil) := by
    rw [text_mid (mid.set k (turned p spoil)) (by rw [List.length_set]; rfl), text_mid mid rfl, List.set_cons_succ]
  rw [e3] at h2
  exact sum_set (s := text mid) (i := k + 1) (by rw [text_mid mid rfl, List.getElem?_cons_succ]; exact hp') (turned_ne h0 h1) h2

set_option maxRecDepth 100000 in
set_option maxHeartbeats 1000000 in
theorem frameAfter_fn (a b : List Bs) (spoil : Int) (more : Bs) (hsp0 : 0 ≤ spoil ∧ spoil ≤ 255) : Fn Tryd.prog 6 [.sl (a.map encT), .sl (b.map encT), .int .u8 spoil, .str more] (.bool true) := by
  refine Fn.mk' base Tryd.func6 rfl rfl rfl ?_
  refine AW.len 0 rfl (fun hlen => ?_)
  simp only [List.length_map, maxLen] at hlen
  refine AW.len 1 rfl (fun hlen2 => ?_)
  simp only [List.length_map, maxLen] at hlen2
  repeat' (first
      | (with_reducible refine AW.seq ?_) | (with_reducible refine AW.region base (by kernel_rfl) ?_) | (with_reducible refine AW.cond ?_) | (with_reducible refine AW.block ?_) | (with_reducible refine AW.ret ?_) | (with_reducible refine AW.exit ?_) | (with_reducible refine AW.skip ?_)
      | ((conv => whnf); (first
         | (with_reducible refine Br.t ?_)
         | (with_reducible refine Br.f ?_)
         | (refine Br.t ?_)
         | (refine Br.f ?_)
         | (with_reducible refine Or.inl ⟨_, known5_fn, ?_⟩)
         | ((with_reducible refine Or.inl ?_); (conv => whnf); (with_reducible refine ⟨_, known5_fn, ?_⟩))
         | (with_reducible refine Br.mk (fun hb => ?_) (fun hb => ?_) <;> (try rw [hb]) <;> (try simp only [List.length_map, decide_eq_true_eq, decide_eq_false_iff_not, Bool.not_eq_true', Bool.not_eq_false', Int.ofNat_lt, Int.ofNat_le, Int.not_lt, Int.not_le, Int.toNat_natCast] at hb))
         | (with_reducible refine ⟨_, (by first | exact ByteRows.map _ | (repeat (first | exact ByteRows.nil | exact ByteRows.map _ | refine ByteRows.cons ?_ | refine ByteRows.app ?_ ?_))), ?_⟩)
         | (refine Exists.intro _ (And.intro (ByteRows.rep _) ?_))
         | (refine Exists.intro _ (And.intro (ByteRows.app (ByteRows.map _) (ByteRows.cons ByteRows.nil)) ?_))
         | ((with_reducible refine And.intro ?_ ?_); (focus (first | with_reducible rfl | exact trivial | (exact ⟨rfl, trivial⟩) | (exact ⟨rfl, rfl, trivial⟩) | omega | (intro r hr; simp only [List.mem_singleton] at hr; subst hr; rfl)  | ((simp only [List.length_map] at *; omega)) | ((simp only [in64, maxLen, List.length_append] at *; omega)) | ((have := (frame_len p (by omega)).1; simp only [maxLen, List.length_append] at *; omega)) | ((simp only [List.length_map, wrap_mid_len]; omega)) | ((rw [wrap_mid_len]; simp only [maxLen]; omega)) | ((simp only [limK]; have := UInt8.toNat_lt p; omega)) | ((simp only [List.length_append, List.length_set, wrap_mid_len, maxLen]; omega)) | (simp only [in64]; omega) | assumption | (simp; done) | (simp [V.cells]; done) | (simp [in64, maxLen, limK] at *; omega) | ((show confB _ _ = true); kernel_rfl) | rfl)))
         | (intro row hrow; (try simp only [Int.toNat_natCast, List.length_map, toNat_pred, toNat_succ', toNat_zero', toNat_one'] at hrow); (first | (have hsm := same_map (by assumption) hrow; subst hsm; clear hrow) | (obtain ⟨p, hp, rfl⟩ := of_map hrow; clear hrow)))
         | (with_reducible refine AW.seq ?_) | (with_reducible refine AW.region base (by kernel_rfl) ?_) | (with_reducible refine AW.cond ?_) | (with_reducible refine AW.block ?_) | (with_reducible refine AW.ret ?_) | (with_reducible refine AW.exit ?_) | (with_reducible refine AW.skip ?_))))
  all_goals try ((conv => whnf); first | rfl | done)
  refine AW.loop (fun (⟨i, s⟩ : Nat × Bs) => i ≤ a.length ∧ (a.length ≤ 8 ∧ b.length ≤ 8) ∧ (∀ (j : Nat) (q : Bs), j < i → a[j]? = some q → q.length ≤ 60) ∧ s = wraps (a.take i) ∧ s.length ≤ 80 * i) (fun (⟨i, s⟩ : Nat × Bs) => ⟨[(0, .sl (a.map encT)), (1, .sl (b.map encT)), (2, .int .u8 spoil), (9, .str s), (10, .str []), (11, .int .i64 (i : Int))], []⟩) (fun (⟨i, s⟩ : Nat × Bs) => a.length - i) (0, []) ?_ ?_ ?_
  · (exact ⟨by omega, by omega, fun j q h => by omega, by simp [wraps], by simp⟩)
  · (refine ⟨⟨[], ?_⟩⟩; repeat' (first | (with_reducible rfl) | exact trivial | ((conv => whnf); (first | (with_reducible refine And.intro ?_ ?_) | (first | with_reducible rfl | (refine congrArg V.str ?_; (first | with_reducible rfl | omega | rfl | (simp; done))) | (refine congrArg (V.int _) ?_; (first | with_reducible rfl | omega | rfl | (simp; done))) | (refine congrArg V.bool ?_; (first | with_reducible rfl | omega | rfl | (simp; done))) | (refine congrArg V.sl ?_; (first | with_reducible rfl | omega | rfl | (simp; done))) | (first | with_reducible rfl | omega | rfl | (simp; done)) | rfl)))))
  · rintro ⟨i, s⟩ hk
    obtain ⟨hk1, hk2, h60, hs, hsl⟩ := hk
    rcases (by omega : i = a.length ∨ i < a.length) with hi | hi
    · subst hi
      rw [List.take_length] at hs
      have h60a : ∀ t ∈ a, t.length ≤ 60 := fun t ht => by
        obtain ⟨j, hj, rfl⟩ := List.mem_iff_getElem.1 ht
        exact h60 j _ hj (List.getElem?_eq_getElem hj)
      have hs0 := hs
      have hsl0 := hsl
      repeat' (first
          | (with_reducible refine AW.seq ?_) | (with_reducible refine AW.region base (by kernel_rfl) ?_) | (with_reducible refine AW.cond ?_) | (with_reducible refine AW.block ?_) | (with_reducible refine AW.ret ?_) | (with_reducible refine AW.exit ?_) | (with_reducible refine AW.skip ?_)
          | ((conv => whnf); (first
             | (with_reducible refine Br.t ?_)
             | (with_reducible refine Br.f ?_)
             | (refine Br.t ?_)
             | (refine Br.f ?_)
             | (with_reducible refine Br.mk (fun hb => ?_) (fun hb => (by exfalso; (first | (simp at hb; done) | omega | (simp only [decide_eq_false_iff_not, decide_eq_true_eq] at hb; omega) | (simp only [List.length_map, wrap_mid_len] at hb; omega) | (simp at hb; omega) | (simp only [List.length_map, wrap_mid_len] at hb; simp at hb; omega) | (simp only [decide_eq_false_iff_not, List.length_append] at hb; omega)))))
             | (with_reducible refine Br.mk (fun hb => (by exfalso; (first | (simp at hb; done) | omega | (simp only [decide_eq_false_iff_not, decide_eq_true_eq] at hb; omega) | (simp only [List.length_map, wrap_mid_len] at hb; omega) | (simp at hb; omega) | (simp only [List.length_map, wrap_mid_len] at hb; simp at hb; omega) | (simp only [decide_eq_false_iff_not, List.length_append] at hb; omega)))) (fun hb => ?_))
             | (refine Exists.intro _ (And.intro (ByteRows.set (ByteRows.map _) _ _) ?_))
             | (with_reducible refine Br.mk (fun hb => ?_) (fun hb => ?_) <;> (try rw [hb]) <;> (try simp only [List.length_map, decide_eq_true_eq, decide_eq_false_iff_not, Bool.not_eq_true', Bool.not_eq_false', Int.ofNat_lt, Int.ofNat_le, Int.not_lt, Int.not_le, Int.toNat_natCast] at hb))
             | (with_reducible refine ⟨_, (by first | exact ByteRows.map _ | (repeat (first | exact ByteRows.nil | exact ByteRows.map _ | refine ByteRows.cons ?_ | refine ByteRows.app ?_ ?_))), ?_⟩)
             | (refine Exists.intro _ (And.intro (ByteRows.rep _) ?_))
             | (refine Exists.intro _ (And.intro (ByteRows.app (ByteRows.map _) (ByteRows.cons ByteRows.nil)) ?_))
             | ((with_reducible refine And.intro ?_ ?_); (focus (first | with_reducible rfl | exact trivial | (exact ⟨rfl, trivial⟩) | (exact ⟨rfl, rfl, trivial⟩) | omega | (intro r hr; simp only [List.mem_singleton] at hr; subst hr; rfl)  | ((simp only [List.length_map] at *; omega)) | ((simp only [in64, maxLen, List.length_append] at *; omega)) | ((have := (frame_len p (by omega)).1; simp only [maxLen, List.length_append] at *; omega)) | ((simp only [List.length_map, wrap_mid_len]; omega)) | ((rw [wrap_mid_len]; simp only [maxLen]; omega)) | ((simp only [limK]; have := UInt8.toNat_lt p; omega)) | ((simp only [List.length_append, List.length_set, wrap_mid_len, maxLen]; omega)) | (simp only [in64]; omega) | assumption | (simp; done) | (simp [V.cells]; done) | (simp [in64, maxLen, limK] at *; omega) | ((show confB _ _ = true); kernel_rfl) | rfl)))
             | (intro row hrow; (try simp only [Int.toNat_natCast, List.length_map, toNat_pred, toNat_succ', toNat_zero', toNat_one'] at hrow); (first | (have hsm := same_map (by assumption) hrow; subst hsm; clear hrow) | (obtain ⟨p, hp, rfl⟩ := of_map hrow; clear hrow)))
             | (with_reducible refine AW.seq ?_) | (with_reducible refine AW.region base (by kernel_rfl) ?_) | (with_reducible refine AW.cond ?_) | (with_reducible refine AW.block ?_) | (with_reducible refine AW.ret ?_) | (with_reducible refine AW.exit ?_) | (with_reducible refine AW.skip ?_))))
      refine AW.loop (fun (⟨j, t⟩ : Nat × Bs) => j ≤ b.length ∧ b.length ≤ 8 ∧ (∀ (i : Nat) (q : Bs), i < j → b[i]? = some q → q.length ≤ 60) ∧ t = wraps (b.take j) ∧ t.length ≤ 80 * j) (fun (⟨j, t⟩ : Nat × Bs) => ⟨[(0, .sl (a.map encT)), (1, .sl (b.map encT)), (2, .int .u8 spoil), (9, .str s), (10, .str t), (12, .int .i64 (j : Int))], []⟩) (fun (⟨j, t⟩ : Nat × Bs) => b.length - j) (0, []) ?_ ?_ ?_
      · (exact ⟨by omega, by omega, fun j q h => by omega, by simp [wraps], by simp⟩)
      · (refine ⟨⟨[], ?_⟩⟩; repeat' (first | (with_reducible rfl) | exact trivial | ((conv => whnf); (first | (with_reducible refine And.intro ?_ ?_) | (first | with_reducible rfl | (refine congrArg V.str ?_; (first | with_reducible rfl | omega | rfl | (simp; done))) | (refine congrArg (V.int _) ?_; (first | with_reducible rfl | omega | rfl | (simp; done))) | (refine congrArg V.bool ?_; (first | with_reducible rfl | omega | rfl | (simp; done))) | (refine congrArg V.sl ?_; (first | with_reducible rfl | omega | rfl | (simp; done))) | (first | with_reducible rfl | omega | rfl | (simp; done)) | rfl)))))
      · rintro ⟨j, t⟩ hk
        obtain ⟨hk1, hk2, h60, hs, hsl⟩ := hk
        rcases (by omega : j = b.length ∨ j < b.length) with hi | hi
        · subst hi
          rw [List.take_length] at hs
          have h60b : ∀ t ∈ b, t.length ≤ 60 := fun t ht => by
            obtain ⟨j, hj, rfl⟩ := List.mem_iff_getElem.1 ht
            exact h60 j _ hj (List.getElem?_eq_getElem hj)
          have hs' : s = wraps a := hs0
          have ht' : t = wraps b := hs
          have hla : ∀ t ∈ a, t.length ≤ 200000 := fun t ht => by have := h60a t ht; omega
          have hlab : ∀ t ∈ a ++ b, t.length ≤ 200000 := fun t ht => by
            rcases List.mem_append.1 ht with h | h
            · have := h60a t h; omega
            · have := h60b t h; omega
          have hlt : (s ++ t).length = (wraps (a ++ b)).length := by rw [wraps_app, hs', ht']
          rcases (by omega : spoil = 0 ∨ 1 ≤ spoil) with hsp | hsp
          · subst hsp
            repeat' (first
                | (with_reducible refine AW.seq ?_) | (with_reducible refine AW.region base (by kernel_rfl) ?_) | (with_reducible refine AW.cond ?_) | (with_reducible refine AW.block ?_) | (with_reducible refine AW.ret ?_) | (with_reducible refine AW.exit ?_) | (with_reducible refine AW.skip ?_)
                | ((conv => whnf); (first
                   | (with_reducible refine Br.t ?_)
                   | (with_reducible refine Br.f ?_)
                   | (refine Br.t ?_)
                   | (refine Br.f ?_)
                   | (with_reducible refine Br.mk (fun hb => ?_) (fun hb => (by exfalso; (first | (simp at hb; done) | omega | (simp only [decide_eq_false_iff_not, decide_eq_true_eq] at hb; omega) | (simp only [List.length_map, wrap_mid_len] at hb; omega) | (simp at hb; omega) | (simp only [List.length_map, wrap_mid_len] at hb; simp at hb; omega) | (simp only [decide_eq_false_iff_not, List.length_append] at hb; omega)))))
                   | (with_reducible refine Br.mk (fun hb => (by exfalso; (first | (simp at hb; done) | omega | (simp only [decide_eq_false_iff_not, decide_eq_true_eq] at hb; omega) | (simp only [List.length_map, wrap_mid_len] at hb; omega) | (simp at hb; omega) | (simp only [List.length_map, wrap_mid_len] at hb; simp at hb; omega) | (simp only [decide_eq_false_iff_not, List.length_append] at hb; omega)))) (fun hb => ?_))
                   | (refine Exists.intro _ (And.intro (ByteRows.set (ByteRows.map _) _ _) ?_))
                   | (refine Or.inl ⟨_, frameWrap_fn mid (by decide), ?_⟩)
                   | ((with_reducible refine Or.inl ?_); (conv => whnf); (refine ⟨_, frameWrap_fn mid (by decide), ?_⟩))
                   | (with_reducible refine Br.mk (fun hb => ?_) (fun hb => ?_) <;> (try rw [hb]) <;> (try simp only [List.length_map, decide_eq_true_eq, decide_eq_false_iff_not, Bool.not_eq_true', Bool.not_eq_false', Int.ofNat_lt, Int.ofNat_le, Int.not_lt, Int.not_le, Int.toNat_natCast] at hb))
                   | (with_reducible refine ⟨_, (by first | exact ByteRows.map _ | (repeat (first | exact ByteRows.nil | exact ByteRows.map _ | refine ByteRows.cons ?_ | refine ByteRows.app ?_ ?_))), ?_⟩)
                   | (refine Exists.intro _ (And.intro (ByteRows.rep _) ?_))
                   | (refine Exists.intro _ (And.intro (ByteRows.app (ByteRows.map _) (ByteRows.cons ByteRows.nil)) ?_))
                   | ((with_reducible refine And.intro ?_ ?_); (focus (first | with_reducible rfl | exact trivial | (exact ⟨rfl, trivial⟩) | (exact ⟨rfl, rfl, trivial⟩) | omega | (intro r hr; simp only [List.mem_singleton] at hr; subst hr; rfl)  | ((simp only [List.length_map] at *; omega)) | ((simp only [in64, maxLen, List.length_append] at *; omega)) | ((have := (frame_len p (by omega)).1; simp only [maxLen, List.length_append] at *; omega)) | ((simp only [List.length_map, wrap_mid_len]; omega)) | ((rw [wrap_mid_len]; simp only [maxLen]; omega)) | ((simp only [limK]; have := UInt8.toNat_lt p; omega)) | ((simp only [List.length_append, List.length_set, wrap_mid_len, maxLen]; omega)) | (simp only [in64]; omega) | assumption | (simp; done) | (simp [V.cells]; done) | (simp [in64, maxLen, limK] at *; omega) | ((show confB _ _ = true); kernel_rfl) | rfl)))
                   | (intro row hrow; (try simp only [Int.toNat_natCast, List.length_map, toNat_pred, toNat_succ', toNat_zero', toNat_one'] at hrow); (first | (have hsm := same_map (by assumption) hrow; subst hsm; clear hrow) | (obtain ⟨p, hp, rfl⟩ := of_map hrow; clear hrow)))
                   | (with_reducible refine AW.seq ?_) | (with_reducible refine AW.region base (by kernel_rfl) ?_) | (with_reducible refine AW.cond ?_) | (with_reducible refine AW.block ?_) | (with_reducible refine AW.ret ?_) | (with_reducible refine AW.exit ?_) | (with_reducible refine AW.skip ?_))))
            all_goals ((conv => whnf); first | done | rfl | (exact congrArg V.bool (decide_eq_true (by first | (rw [List.length_map, wrap_mid_len]; rfl) | fail))) | (exfalso; simp at *; omega))
          · have hn1 : 5 ≤ (5 + spoil % 6).toNat ∧ (5 + spoil % 6).toNat ≤ 10 := by omega
            have hbadt : ∀ p, (wrap mid)[(5 + spoil % 6).toNat]? = some p → Bad ((wrap mid).set (5 + spoil % 6).toNat (turned p spoil) ++ t) := fun p hp => after_bad hsp hsp0.2 hn1.1 hn1.2 hp t (by omega)
            repeat' (first
                | (with_reducible refine AW.seq ?_) | (with_reducible refine AW.region base (by kernel_rfl) ?_) | (with_reducible refine AW.cond ?_) | (with_reducible refine AW.block ?_) | (with_reducible refine AW.ret ?_) | (with_reducible refine AW.exit ?_) | (with_reducible refine AW.skip ?_)
                | ((conv => whnf); (first
                   | (with_reducible refine Br.t ?_)
                   | (with_reducible refine Br.f ?_)
                   | (refine Br.t ?_)
                   | (refine Br.f ?_)
                   | (with_reducible refine Br.mk (fun hb => ?_) (fun hb => (by exfalso; (first | (simp at hb; done) | omega | (simp only [decide_eq_false_iff_not, decide_eq_true_eq] at hb; omega) | (simp only [List.length_map, wrap_mid_len] at hb; omega) | (simp at hb; omega) | (simp only [List.length_map, wrap_mid_len] at hb; simp at hb; omega) | (simp only [decide_eq_false_iff_not, List.length_append] at hb; omega)))))
                   | (with_reducible refine Br.mk (fun hb => (by exfalso; (first | (simp at hb; done) | omega | (simp only [decide_eq_false_iff_not, decide_eq_true_eq] at hb; omega) | (simp only [List.length_map, wrap_mid_len] at hb; omega) | (simp at hb; omega) | (simp only [List.length_map, wrap_mid_len] at hb; simp at hb; omega) | (simp only [decide_eq_false_iff_not, List.length_append] at hb; omega)))) (fun hb => ?_))
                   | (refine Exists.intro _ (And.intro (ByteRows.set (ByteRows.map _) _ _) ?_))
                   | (refine Or.inl ⟨_, frameWrap_fn mid (by decide), ?_⟩)
                   | ((with_reducible refine Or.inl ?_); (conv => whnf); (refine ⟨_, frameWrap_fn mid (by decide), ?_⟩))
                   | (with_reducible refine Or.inl ⟨_, all_of _ a _ (by first | (simp only [List.append_assoc]; rw [hs']; exact congrArg _ rfl) | fail) (hbadt p (by assumption)) hla (by first | (simp only [List.length_append, List.length_set, wrap_mid_len]; omega) | fail) (by omega), ?_⟩)
                   | ((with_reducible refine Or.inl ?_); (conv => whnf); (with_reducible refine ⟨_, all_of _ a _ (by first | (simp only [List.append_assoc]; rw [hs']; exact congrArg _ rfl) | fail) (hbadt p (by assumption)) hla (by first | (simp only [List.length_append, List.length_set, wrap_mid_len]; omega) | fail) (by omega), ?_⟩))
                   | (with_reducible refine Or.inl ⟨_, all_of _ (a ++ b) [] (by first | (rw [wraps_app, List.append_nil, ← hs', ← ht']) | fail) (bad_short (by decide)) hlab (by first | (rw [List.length_append]; omega) | fail) (by first | (rw [List.length_append]; omega) | fail), ?_⟩)
                   | ((with_reducible refine Or.inl ?_); (conv => whnf); (with_reducible refine ⟨_, all_of _ (a ++ b) [] (by first | (rw [wraps_app, List.append_nil, ← hs', ← ht']) | fail) (bad_short (by decide)) hlab (by first | (rw [List.length_append]; omega) | fail) (by first | (rw [List.length_append]; omega) | fail), ?_⟩))
                   | (with_reducible refine Or.inl ⟨_, same_self a, ?_⟩)
                   | ((with_reducible refine Or.inl ?_); (conv => whnf); (with_reducible refine ⟨_, same_self a, ?_⟩))
                   | (with_reducible refine Br.mk (fun hb => ?_) (fun hb => ?_) <;> (try rw [hb]) <;> (try simp only [List.length_map, decide_eq_true_eq, decide_eq_false_iff_not, Bool.not_eq_true', Bool.not_eq_false', Int.ofNat_lt, Int.ofNat_le, Int.not_lt, Int.not_le, Int.toNat_natCast] at hb))
                   | (with_reducible refine ⟨_, (by first | exact ByteRows.map _ | (repeat (first | exact ByteRows.nil | exact ByteRows.map _ | refine ByteRows.cons ?_ | refine ByteRows.app ?_ ?_))), ?_⟩)
                   | (refine Exists.intro _ (And.intro (ByteRows.rep _) ?_))
                   | (refine Exists.intro _ (And.intro (ByteRows.app (ByteRows.map _) (ByteRows.cons ByteRows.nil)) ?_))
                   | ((with_reducible refine And.intro ?_ ?_); (focus (first | with_reducible rfl | exact trivial | (exact ⟨rfl, trivial⟩) | (exact ⟨rfl, rfl, trivial⟩) | omega | (intro r hr; simp only [List.mem_singleton] at hr; subst hr; rfl)  | ((simp only [List.length_map] at *; omega)) | ((simp only [in64, maxLen, List.length_append] at *; omega)) | ((have := (frame_len p (by omega)).1; simp only [maxLen, List.length_append] at *; omega)) | ((simp only [List.length_map, wrap_mid_len]; omega)) | ((rw [wrap_mid_len]; simp only [maxLen]; omega)) | ((simp only [limK]; have := UInt8.toNat_lt p; omega)) | ((simp only [List.length_append, List.length_set, wrap_mid_len, maxLen]; omega)) | (simp only [in64]; omega) | assumption | (simp; done) | (simp [V.cells]; done) | (simp [in64, maxLen, limK] at *; omega) | ((show confB _ _ = true); kernel_rfl) | rfl)))
                   | (intro row hrow; (try simp only [Int.toNat_natCast, List.length_map, toNat_pred, toNat_succ', toNat_zero', toNat_one'] at hrow); (first | (have hsm := same_map (by assumption) hrow; subst hsm; clear hrow) | (obtain ⟨p, hp, rfl⟩ := of_map hrow; clear hrow)))
                   | (with_reducible refine AW.seq ?_) | (with_reducible refine AW.region base (by kernel_rfl) ?_) | (with_reducible refine AW.cond ?_) | (with_reducible refine AW.block ?_) | (with_reducible refine AW.ret ?_) | (with_reducible refine AW.exit ?_) | (with_reducible refine AW.skip ?_))))
            all_goals ((conv => whnf); first | done | rfl | (exact absurd (by first | (rw [wrap_mid_len]; rfl) | fail) hb) | (exact absurd (by first | (rw [hs']) | fail) hb) | (exact congrArg V.bool (decide_eq_true (by first | (rw [← hlt, List.length_append]; omega) | (simp only [List.length_map, List.length_append]; omega) | fail))) | (exfalso; omega))
    
        obtain ⟨p, hp⟩ : ∃ p, b[j]? = some p := ⟨_, List.getElem?_eq_getElem hi⟩
        have hstep := wraps_take hp
        rcases Nat.lt_or_ge 60 p.length with h8 | h8
        · skip
          repeat' (first
              | (with_reducible refine AW.seq ?_) | (with_reducible refine AW.region base (by kernel_rfl) ?_) | (with_reducible refine AW.cond ?_) | (with_reducible refine AW.block ?_) | (with_reducible refine AW.ret ?_) | (with_reducible refine AW.exit ?_) | (with_reducible refine AW.skip ?_)
              | ((conv => whnf); (first
                 | (with_reducible refine Br.t ?_)
                 | (with_reducible refine Br.f ?_)
                 | (refine Br.t ?_)
                 | (refine Br.f ?_)
                 | (with_reducible refine Br.mk (fun hb => ?_) (fun hb => (by exfalso; (first | (simp at hb; done) | omega | (simp only [decide_eq_false_iff_not, decide_eq_true_eq] at hb; omega) | (simp only [List.length_map, wrap_mid_len] at hb; omega) | (simp at hb; omega) | (simp only [List.length_map, wrap_mid_len] at hb; simp at hb; omega) | (simp only [decide_eq_false_iff_not, List.length_append] at hb; omega)))))
                 | (with_reducible refine Br.mk (fun hb => (by exfalso; (first | (simp at hb; done) | omega | (simp only [decide_eq_false_iff_not, decide_eq_true_eq] at hb; omega) | (simp only [List.length_map, wrap_mid_len] at hb; omega) | (simp at hb; omega) | (simp only [List.length_map, wrap_mid_len] at hb; simp at hb; omega) | (simp only [decide_eq_false_iff_not, List.length_append] at hb; omega)))) (fun hb => ?_))
                 | (refine Exists.intro _ (And.intro (ByteRows.set (ByteRows.map _) _ _) ?_))
                 | (with_reducible refine Or.inl ⟨_, frameWrap_fn _ (by omega), ?_⟩)
                 | ((with_reducible refine Or.inl ?_); (conv => whnf); (with_reducible refine ⟨_, frameWrap_fn _ (by omega), ?_⟩))
                 | (with_reducible refine Br.mk (fun hb => ?_) (fun hb => ?_) <;> (try rw [hb]) <;> (try simp only [List.length_map, decide_eq_true_eq, decide_eq_false_iff_not, Bool.not_eq_true', Bool.not_eq_false', Int.ofNat_lt, Int.ofNat_le, Int.not_lt, Int.not_le, Int.toNat_natCast] at hb))
                 | (with_reducible refine ⟨_, (by first | exact ByteRows.map _ | (repeat (first | exact ByteRows.nil | exact ByteRows.map _ | refine ByteRows.cons ?_ | refine ByteRows.app ?_ ?_))), ?_⟩)
                 | (refine Exists.intro _ (And.intro (ByteRows.rep _) ?_))
                 | (refine Exists.intro _ (And.intro (ByteRows.app (ByteRows.map _) (ByteRows.cons ByteRows.nil)) ?_))
                 | ((with_reducible refine And.intro ?_ ?_); (focus (first | with_reducible rfl | exact trivial | (exact ⟨rfl, trivial⟩) | (exact ⟨rfl, rfl, trivial⟩) | omega | (intro r hr; simp only [List.mem_singleton] at hr; subst hr; rfl)  | ((simp only [List.length_map] at *; omega)) | ((simp only [in64, maxLen, List.length_append] at *; omega)) | ((have := (frame_len p (by omega)).1; simp only [maxLen, List.length_append] at *; omega)) | ((simp only [List.length_map, wrap_mid_len]; omega)) | ((rw [wrap_mid_len]; simp only [maxLen]; omega)) | ((simp only [limK]; have := UInt8.toNat_lt p; omega)) | ((simp only [List.length_append, List.length_set, wrap_mid_len, maxLen]; omega)) | (simp only [in64]; omega) | assumption | (simp; done) | (simp [V.cells]; done) | (simp [in64, maxLen, limK] at *; omega) | ((show confB _ _ = true); kernel_rfl) | rfl)))
                 | (intro row hrow; (try simp only [Int.toNat_natCast, List.length_map, toNat_pred, toNat_succ', toNat_zero', toNat_one'] at hrow); (first | (have hsm := same_map (by assumption) hrow; subst hsm; clear hrow) | (obtain ⟨p, hp, rfl⟩ := of_map hrow; clear hrow)))
                 | (with_reducible refine AW.seq ?_) | (with_reducible refine AW.region base (by kernel_rfl) ?_) | (with_reducible refine AW.cond ?_) | (with_reducible refine AW.block ?_) | (with_reducible refine AW.ret ?_) | (with_reducible refine AW.exit ?_) | (with_reducible refine AW.skip ?_))))
          all_goals ((conv => whnf); first | done | rfl | (exfalso; simp at *; omega))
        have hfl := frame_len p (by omega)
        repeat' (first
            | (with_reducible refine AW.seq ?_) | (with_reducible refine AW.region base (by kernel_rfl) ?_) | (with_reducible refine AW.cond ?_) | (with_reducible refine AW.block ?_) | (with_reducible refine AW.ret ?_) | (with_reducible refine AW.exit ?_) | (with_reducible refine AW.skip ?_)
            | ((conv => whnf); (first
               | (with_reducible refine Br.t ?_)
               | (with_reducible refine Br.f ?_)
               | (refine Br.t ?_)
               | (refine Br.f ?_)
               | (with_reducible refine Br.mk (fun hb => ?_) (fun hb => (by exfalso; (first | (simp at hb; done) | omega | (simp only [decide_eq_false_iff_not, decide_eq_true_eq] at hb; omega) | (simp only [List.length_map, wrap_mid_len] at hb; omega) | (simp at hb; omega) | (simp only [List.length_map, wrap_mid_len] at hb; simp at hb; omega) | (simp only [decide_eq_false_iff_not, List.length_append] at hb; omega)))))
               | (with_reducible refine Br.mk (fun hb => (by exfalso; (first | (simp at hb; done) | omega | (simp only [decide_eq_false_iff_not, decide_eq_true_eq] at hb; omega) | (simp only [List.length_map, wrap_mid_len] at hb; omega) | (simp at hb; omega) | (simp only [List.length_map, wrap_mid_len] at hb; simp at hb; omega) | (simp only [decide_eq_false_iff_not, List.length_append] at hb; omega)))) (fun hb => ?_))
               | (refine Exists.intro _ (And.intro (ByteRows.set (ByteRows.map _) _ _) ?_))
               | (with_reducible refine Or.inl ⟨_, known5_fn, ?_⟩)
               | ((with_reducible refine Or.inl ?_); (conv => whnf); (with_reducible refine ⟨_, known5_fn, ?_⟩))
               | (with_reducible refine Or.inl ⟨_, frameWrap_fn _ (by omega), ?_⟩)
               | ((with_reducible refine Or.inl ?_); (conv => whnf); (with_reducible refine ⟨_, frameWrap_fn _ (by omega), ?_⟩))
               | (with_reducible refine Br.mk (fun hb => ?_) (fun hb => ?_) <;> (try rw [hb]) <;> (try simp only [List.length_map, decide_eq_true_eq, decide_eq_false_iff_not, Bool.not_eq_true', Bool.not_eq_false', Int.ofNat_lt, Int.ofNat_le, Int.not_lt, Int.not_le, Int.toNat_natCast] at hb))
               | (with_reducible refine ⟨_, (by first | exact ByteRows.map _ | (repeat (first | exact ByteRows.nil | exact ByteRows.map _ | refine ByteRows.cons ?_ | refine ByteRows.app ?_ ?_))), ?_⟩)
               | (refine Exists.intro _ (And.intro (ByteRows.rep _) ?_))
               | (refine Exists.intro _ (And.intro (ByteRows.app (ByteRows.map _) (ByteRows.cons ByteRows.nil)) ?_))
               | ((with_reducible refine And.intro ?_ ?_); (focus (first | with_reducible rfl | exact trivial | (exact ⟨rfl, trivial⟩) | (exact ⟨rfl, rfl, trivial⟩) | omega | (intro r hr; simp only [List.mem_singleton] at hr; subst hr; rfl)  | ((simp only [List.length_map] at *; omega)) | ((simp only [in64, maxLen, List.length_append] at *; omega)) | ((have := (frame_len p (by omega)).1; simp only [maxLen, List.length_append] at *; omega)) | ((simp only [List.length_map, wrap_mid_len]; omega)) | ((rw [wrap_mid_len]; simp only [maxLen]; omega)) | ((simp only [limK]; have := UInt8.toNat_lt p; omega)) | ((simp only [List.length_append, List.length_set, wrap_mid_len, maxLen]; omega)) | (simp only [in64]; omega) | assumption | (simp; done) | (simp [V.cells]; done) | (simp [in64, maxLen, limK] at *; omega) | ((show confB _ _ = true); kernel_rfl) | rfl)))
               | (intro row hrow; (try simp only [Int.toNat_natCast, List.length_map, toNat_pred, toNat_succ', toNat_zero', toNat_one'] at hrow); (first | (have hsm := same_map (by assumption) hrow; subst hsm; clear hrow) | (obtain ⟨p, hp, rfl⟩ := of_map hrow; clear hrow)))
               | (with_reducible refine AW.seq ?_) | (with_reducible refine AW.region base (by kernel_rfl) ?_) | (with_reducible refine AW.cond ?_) | (with_reducible refine AW.block ?_) | (with_reducible refine AW.ret ?_) | (with_reducible refine AW.exit ?_) | (with_reducible refine AW.skip ?_))))
        all_goals (try first | with_reducible assumption | ((show (_ : Int) ≤ _); (first | omega | (simp at *; omega))) | ((show (_ : Nat) ≤ _); (first | omega | (simp at *; omega))) | ((show in64 _); (simp only [in64] at *; (first | omega | (simp at *; omega)))) | ((show (_ : Int) < _); (first | omega | (simp at *; omega))) | ((show ¬ (_ : Int) = _); (first | omega | (simp at *; omega))) | ((with_reducible refine And.intro ?_ ?_) <;> (first | omega | (simp at *; omega))))
        all_goals (first
          | (with_reducible exact absurd rfl (by assumption))
          | ((conv => whnf); (refine ⟨(j + 1, ?_), ?_⟩); (rotate_left 1); (refine And.intro ?_ (And.intro ?_ ?_)); (focus (refine ⟨⟨[], ?_⟩⟩; repeat' (first | (with_reducible rfl) | exact trivial | ((conv => whnf); (first | (with_reducible refine And.intro ?_ ?_) | (first | with_reducible rfl | (refine congrArg V.str ?_; (first | with_reducible rfl | omega | rfl | (simp; done))) | (refine congrArg (V.int _) ?_; (first | with_reducible rfl | omega | rfl | (simp; done))) | (refine congrArg V.bool ?_; (first | with_reducible rfl | omega | rfl | (simp; done))) | (refine congrArg V.sl ?_; (first | with_reducible rfl | omega | rfl | (simp; done))) | (first | with_reducible rfl | omega | rfl | (simp; done)) | rfl)))))); (focus (refine ⟨by omega, hk2, ?_, ?_, ?_⟩; (focus (intro i q hj hq; rcases (by omega : i < j ∨ i = j) with h | h; (focus (exact h60 i q h hq)); (focus (subst h; rw [hp] at hq; cases hq; exact h8)))); (focus (rw [hstep, hs])); (focus (rw [List.length_append]; omega)))); (focus (first | omega | (dsimp only; omega) | (simp; done) | (simp; omega) | (simp at *; omega))))
          | ((conv => whnf); (try (first | rfl | (exfalso; simp_all; done) | (exfalso; simp at *; omega))); done))

    obtain ⟨p, hp⟩ : ∃ p, a[i]? = some p := ⟨_, List.getElem?_eq_getElem hi⟩
    have hstep := wraps_take hp
    rcases Nat.lt_or_ge 60 p.length with h8 | h8
    · skip
      repeat' (first
          | (with_reducible refine AW.seq ?_) | (with_reducible refine AW.region base (by kernel_rfl) ?_) | (with_reducible refine AW.cond ?_) | (with_reducible refine AW.block ?_) | (with_reducible refine AW.ret ?_) | (with_reducible refine AW.exit ?_) | (with_reducible refine AW.skip ?_)
          | ((conv => whnf); (first
             | (with_reducible refine Br.t ?_)
             | (with_reducible refine Br.f ?_)
             | (refine Br.t ?_)
             | (refine Br.f ?_)
             | (with_reducible refine Br.mk (fun hb => ?_) (fun hb => (by exfalso; (first | (simp at hb; done) | omega | (simp only [decide_eq_false_iff_not, decide_eq_true_eq] at hb; omega) | (simp only [List.length_map, wrap_mid_len] at hb; omega) | (simp at hb; omega) | (simp only [List.length_map, wrap_mid_len] at hb; simp at hb; omega) | (simp only [decide_eq_false_iff_not, List.length_append] at hb; omega)))))
             | (with_reducible refine Br.mk (fun hb => (by exfalso; (first | (simp at hb; done) | omega | (simp only [decide_eq_false_iff_not, decide_eq_true_eq] at hb; omega) | (simp only [List.length_map, wrap_mid_len] at hb; omega) | (simp at hb; omega) | (simp only [List.length_map, wrap_mid_len] at hb; simp at hb; omega) | (simp only [decide_eq_false_iff_not, List.length_append] at hb; omega)))) (fun hb => ?_))
             | (refine Exists.intro _ (And.intro (ByteRows.set (ByteRows.map _) _ _) ?_))
             | (with_reducible refine Or.inl ⟨_, frameWrap_fn _ (by omega), ?_⟩)
             | ((with_reducible refine Or.inl ?_); (conv => whnf); (with_reducible refine ⟨_, frameWrap_fn _ (by omega), ?_⟩))
             | (with_reducible refine Br.mk (fun hb => ?_) (fun hb => ?_) <;> (try rw [hb]) <;> (try simp only [List.length_map, decide_eq_true_eq, decide_eq_false_iff_not, Bool.not_eq_true', Bool.not_eq_false', Int.ofNat_lt, Int.ofNat_le, Int.not_lt, Int.not_le, Int.toNat_natCast] at hb))
             | (with_reducible refine ⟨_, (by first | exact ByteRows.map _ | (repeat (first | exact ByteRows.nil | exact ByteRows.map _ | refine ByteRows.cons ?_ | refine ByteRows.app ?_ ?_))), ?_⟩)
             | (refine Exists.intro _ (And.intro (ByteRows.rep _) ?_))
             | (refine Exists.intro _ (And.intro (ByteRows.app (ByteRows.map _) (ByteRows.cons ByteRows.nil)) ?_))
             | ((with_reducible refine And.intro ?_ ?_); (focus (first | with_reducible rfl | exact trivial | (exact ⟨rfl, trivial⟩) | (exact ⟨rfl, rfl, trivial⟩) | omega | (intro r hr; simp only [List.mem_singleton] at hr; subst hr; rfl)  | ((simp only [List.length_map] at *; omega)) | ((simp only [in64, maxLen, List.length_append] at *; omega)) | ((have := (frame_len p (by omega)).1; simp only [maxLen, List.length_append] at *; omega)) | ((simp only [List.length_map, wrap_mid_len]; omega)) | ((rw [wrap_mid_len]; simp only [maxLen]; omega)) | ((simp only [limK]; have := UInt8.toNat_lt p; omega)) | ((simp only [List.length_append, List.length_set, wrap_mid_len, maxLen]; omega)) | (simp only [in64]; omega) | assumption | (simp; done) | (simp [V.cells]; done) | (simp [in64, maxLen, limK] at *; omega) | ((show confB _ _ = true); kernel_rfl) | rfl)))
             | (intro row hrow; (try simp only [Int.toNat_natCast, List.length_map, toNat_pred, toNat_succ', toNat_zero', toNat_one'] at hrow); (first | (have hsm := same_map (by assumption) hrow; subst hsm; clear hrow) | (obtain ⟨p, hp, rfl⟩ := of_map hrow; clear hrow)))
             | (with_reducible refine AW.seq ?_) | (with_reducible refine AW.region base (by kernel_rfl) ?_) | (with_reducible refine AW.cond ?_) | (with_reducible refine AW.block ?_) | (with_reducible refine AW.ret ?_) | (with_reducible refine AW.exit ?_) | (with_reducible refine AW.skip ?_))))
      all_goals ((conv => whnf); first | done | rfl | (exfalso; simp at *; omega))
    have hfl := frame_len p (by omega)
    repeat' (first
        | (with_reducible refine AW.seq ?_) | (with_reducible refine AW.region base (by kernel_rfl) ?_) | (with_reducible refine AW.cond ?_) | (with_reducible refine AW.block ?_) | (with_reducible refine AW.ret ?_) | (with_reducible refine AW.exit ?_) | (with_reducible refine AW.skip ?_)
        | ((conv => whnf); (first
           | (with_reducible refine Br.t ?_)
           | (with_reducible refine Br.f ?_)
           | (refine Br.t ?_)
           | (refine Br.f ?_)
           | (with_reducible refine Br.mk (fun hb => ?_) (fun hb => (by exfalso; (first | (simp at hb; done) | omega | (simp only [decide_eq_false_iff_not, decide_eq_true_eq] at hb; omega) | (simp only [List.length_map, wrap_mid_len] at hb; omega) | (simp at hb; omega) | (simp only [List.length_map, wrap_mid_len] at hb; simp at hb; omega) | (simp only [decide_eq_false_iff_not, List.length_append] at hb; omega)))))
           | (with_reducible refine Br.mk (fun hb => (by exfalso; (first | (simp at hb; done) | omega | (simp only [decide_eq_false_iff_not, decide_eq_true_eq] at hb; omega) | (simp only [List.length_map, wrap_mid_len] at hb; omega) | (simp at hb; omega) | (simp only [List.length_map, wrap_mid_len] at hb; simp at hb; omega) | (simp only [decide_eq_false_iff_not, List.length_append] at hb; omega)))) (fun hb => ?_))
           | (refine Exists.intro _ (And.intro (ByteRows.set (ByteRows.map _) _ _) ?_))
           | (with_reducible refine Or.inl ⟨_, known5_fn, ?_⟩)
           | ((with_reducible refine Or.inl ?_); (conv => whnf); (with_reducible refine ⟨_, known5_fn, ?_⟩))
           | (with_reducible refine Or.inl ⟨_, frameWrap_fn _ (by omega), ?_⟩)
           | ((with_reducible refine Or.inl ?_); (conv => whnf); (with_reducible refine ⟨_, frameWrap_fn _ (by omega), ?_⟩))
           | (with_reducible refine Br.mk (fun hb => ?_) (fun hb => ?_) <;> (try rw [hb]) <;> (try simp only [List.length_map, decide_eq_true_eq, decide_eq_false_iff_not, Bool.not_eq_true', Bool.not_eq_false', Int.ofNat_lt, Int.ofNat_le, Int.not_lt, Int.not_le, Int.toNat_natCast] at hb))
           | (with_reducible refine ⟨_, (by first | exact ByteRows.map _ | (repeat (first | exact ByteRows.nil | exact ByteRows.map _ | refine ByteRows.cons ?_ | refine ByteRows.app ?_ ?_))), ?_⟩)
           | (refine Exists.intro _ (And.intro (ByteRows.rep _) ?_))
           | (refine Exists.intro _ (And.intro (ByteRows.app (ByteRows.map _) (ByteRows.cons ByteRows.nil)) ?_))
           | ((with_reducible refine And.intro ?_ ?_); (focus (first | with_reducible rfl | exact trivial | (exact ⟨rfl, trivial⟩) | (exact ⟨rfl, rfl, trivial⟩) | omega | (intro r hr; simp only [List.mem_singleton] at hr; subst hr; rfl)  | ((simp only [List.length_map] at *; omega)) | ((simp only [in64, maxLen, List.length_append] at *; omega)) | ((have := (frame_len p (by omega)).1; simp only [maxLen, List.length_append] at *; omega)) | ((simp only [List.length_map, wrap_mid_len]; omega)) | ((rw [wrap_mid_len]; simp only [maxLen]; omega)) | ((simp only [limK]; have := UInt8.toNat_lt p; omega)) | ((simp only [List.length_append, List.length_set, wrap_mid_len, maxLen]; omega)) | (simp only [in64]; omega) | assumption | (simp; done) | (simp [V.cells]; done) | (simp [in64, maxLen, limK] at *; omega) | ((show confB _ _ = true); kernel_rfl) | rfl)))
           | (intro row hrow; (try simp only [Int.toNat_natCast, List.length_map, toNat_pred, toNat_succ', toNat_zero', toNat_one'] at hrow); (first | (have hsm := same_map (by assumption) hrow; subst hsm; clear hrow) | (obtain ⟨p, hp, rfl⟩ := of_map hrow; clear hrow)))
           | (with_reducible refine AW.seq ?_) | (with_reducible refine AW.region base (by kernel_rfl) ?_) | (with_reducible refine AW.cond ?_) | (with_reducible refine AW.block ?_) | (with_reducible refine AW.ret ?_) | (with_reducible refine AW.exit ?_) | (with_reducible refine AW.skip ?_))))
    all_goals (try first | with_reducible assumption | ((show (_ : Int) ≤ _); (first | omega | (simp at *; omega))) | ((show (_ : Nat) ≤ _); (first | omega | (simp at *; omega))) | ((show in64 _); (simp only [in64] at *; (first | omega | (simp at *; omega)))) | ((show (_ : Int) < _); (first | omega | (simp at *; omega))) | ((show ¬ (_ : Int) = _); (first | omega | (simp at *; omega))) | ((with_reducible refine And.intro ?_ ?_) <;> (first | omega | (simp at *; omega))))
    all_goals (first
      | (with_reducible exact absurd rfl (by assumption))
      | ((conv => whnf); (refine ⟨(i + 1, ?_), ?_⟩); (rotate_left 1); (refine And.intro ?_ (And.intro ?_ ?_)); (focus (refine ⟨⟨[], ?_⟩⟩; repeat' (first | (with_reducible rfl) | exact trivial | ((conv => whnf); (first | (with_reducible refine And.intro ?_ ?_) | (first | with_reducible rfl | (refine congrArg V.str ?_; (first | with_reducible rfl | omega | rfl | (simp; done))) | (refine congrArg (V.int _) ?_; (first | with_reducible rfl | omega | rfl | (simp; done))) | (refine congrArg V.bool ?_; (first | with_reducible rfl | omega | rfl | (simp; done))) | (refine congrArg V.sl ?_; (first | with_reducible rfl | omega | rfl | (simp; done))) | (first | with_reducible rfl | omega | rfl | (simp; done)) | rfl)))))); (focus (refine ⟨by omega, hk2, ?_, ?_, ?_⟩; (focus (intro j q hj hq; rcases (by omega : j < i ∨ j = i) with h | h; (focus (exact h60 j q h hq)); (focus (subst h; rw [hp] at hq; cases hq; exact h8)))); (focus (rw [hstep, hs])); (focus (rw [List.length_append]; omega)))); (focus (first | omega | (dsimp only; omega) | (simp; done) | (simp; omega) | (simp at *; omega))))
      | ((conv => whnf); (try (first | rfl | (exfalso; simp_all; done) | (exfalso; simp at *; omega))); done))

end Go.Proofs.YtciiiceloghkmaaDoor
