/-
  A law of ops: batches of so many writes: its walk. No conditions.
-/
import Derived.Test.YtnblecdpkbempaaDoorLaw6k
namespace Go.Proofs.YtnblecdpkbempaaDoor
open Go.RowKit
set_option linter.unusedSimpArgs false
set_option linter.unusedVariables false
def lastK : Option Bs → List Wr → Option Bs
  | p, [] => p
  | _, w :: r => lastK (some w.k) r
theorem wrsB_snoc : ∀ (l : List Wr) (p : Option Bs) (w : Wr), wrsB p (l ++ [w]) = (wrsB p l && (wrB w && belowW (lastK p l) w.k))
  | [], p, w => by simp [wrsB, lastK]
  | x :: l, p, w => by rw [List.cons_append, wrsB, wrsB, wrsB_snoc l, lastK]; simp [Bool.and_assoc]
theorem lastK_snoc : ∀ (l : List Wr) (p : Option Bs) (w : Wr), lastK p (l ++ [w]) = some w.k
  | [], p, w => rfl
  | x :: l, p, w => by rw [List.cons_append, lastK, lastK_snoc l]
def bitI (del : Int) (i : Nat) : Bool := decide ((((del / 2 ^ (IntKind.wrap .u64 (i : Int)).toNat).toNat &&& (1 : Int).toNat : Nat) : Int) = 1)
/-- the writes, as many -/
def wOf (keys : List UInt8) (del v : Int) (i : Nat) : Wr := ⟨[keys.getD i 0], List.replicate (v % 50).toNat 0, bitI del i⟩
def wsOf (keys : List UInt8) (del v : Int) (i : Nat) : List Wr := (List.range i).map (wOf keys del v)
def okStep (keys : List UInt8) (del v : Int) (i : Nat) : Bool := (!bitI del i || decide (v % 50 = 0)) && decide (v % 50 ≤ 40) && (decide (i = 0) || decide ((keys.getD (i - 1) 0).toNat < (keys.getD i 0).toNat))
def okOf (keys : List UInt8) (del v : Int) (b : Bool) : Nat → Bool
  | 0 => b
  | i + 1 => okOf keys del v b i && okStep keys del v i
theorem wsOf_succ (keys : List UInt8) (del v : Int) (i : Nat) : wsOf keys del v (i + 1) = wsOf keys del v i ++ [wOf keys del v i] := by
  simp [wsOf, List.range_succ]
theorem wsOf_len (keys : List UInt8) (del v : Int) (i : Nat) : (wsOf keys del v i).length = i := by simp [wsOf]
theorem lastK_ws (keys : List UInt8) (del v : Int) (i : Nat) : lastK none (wsOf keys del v i) = if i = 0 then none else some [keys.getD (i - 1) 0] := by
  cases i with
  | zero => rfl
  | succ i => rw [wsOf_succ, lastK_snoc]; simp [wOf]
theorem blt_one (a b : UInt8) : blt [a] [b] = decide (a.toNat < b.toNat) := by
  unfold blt
  simp only [Op.bytesLess, Bool.and_false, Bool.or_false, UInt8.lt_iff_toNat_lt]
theorem wrB_of (keys : List UInt8) (del v : Int) (i : Nat) (hv : 0 ≤ v) : (wrB (wOf keys del v i) && belowW (lastK none (wsOf keys del v i)) (wOf keys del v i).k) = okStep keys del v i := by
  rw [lastK_ws]
  unfold wrB wOf okStep
  have h1 : (List.replicate (v % 50).toNat (0 : UInt8)).length = (v % 50).toNat := List.length_replicate
  have h2 : decide ((List.replicate (v % 50).toNat (0 : UInt8)).length ≤ 40) = decide (v % 50 ≤ 40) := by rw [h1]; exact decide_eq_decide.2 (by omega)
  have h3 : decide (List.replicate (v % 50).toNat (0 : UInt8) = []) = decide (v % 50 = 0) := decide_eq_decide.2 (by rw [List.replicate_eq_nil_iff]; omega)
  have hk : isKeyB [keys.getD i 0] = true := rfl
  simp only [h2, h3, hk, Bool.true_and]
  by_cases hi : i = 0
  · simp only [hi, if_true, belowW, decide_true, Bool.true_or, Bool.and_true]
    cases bitI del 0 <;> cases decide (v % 50 = 0) <;> cases decide (v % 50 ≤ 40) <;> rfl
  · simp only [if_neg hi, belowW, blt_one, decide_eq_false hi, Bool.false_or]
    cases bitI del i <;> cases decide (v % 50 = 0) <;> cases decide (v % 50 ≤ 40) <;> rfl
theorem okOf_eq (keys : List UInt8) (del v : Int) (b : Bool) (hv : 0 ≤ v) : ∀ (i : Nat), okOf keys del v b i = (b && wrsB none (wsOf keys del v i))
  | 0 => by simp [okOf, wsOf, wrsB]
  | i + 1 => by rw [okOf, okOf_eq keys del v b hv i, wsOf_succ, wrsB_snoc, wrB_of _ _ _ _ hv, Bool.and_assoc]
theorem batch_law (keys : List UInt8) (del v : Int) (hv : 0 ≤ v) : opB ⟨6, [], [], [], 0, wsOf keys del v keys.length⟩ = okOf keys del v (decide (1 ≤ keys.length) && decide (keys.length ≤ 4)) keys.length := by
  rw [okOf_eq _ _ _ _ hv]
  show (decide ((1 : Int) ≤ 6) && decide ((6 : Int) ≤ 7) && partsB ⟨6, [], [], [], 0, wsOf keys del v keys.length⟩ && (decide (([] : Bs) = []) && isWritesB (wsOf keys del v keys.length))) = _
  rw [show partsB ⟨6, [], [], [], 0, wsOf keys del v keys.length⟩ = true by simp [partsB]]
  simp only [isWritesB, wsOf_len]
  cases wrsB none (wsOf keys del v keys.length) <;> cases decide (1 ≤ keys.length) <;> cases decide (keys.length ≤ 4) <;> rfl
theorem batch_key (keys : List UInt8) (del v : Int) (k : UInt8) (h : keys[0]? = some k) (h0 : 0 < keys.length) : keyO ⟨6, [], [], [], 0, wsOf keys del v keys.length⟩ = [k] := by
  have e : (wsOf keys del v keys.length).head? = some (wOf keys del v 0) := by
    unfold wsOf
    obtain ⟨n, hn⟩ : ∃ n, keys.length = n + 1 := ⟨keys.length - 1, by omega⟩
    rw [hn, List.range_succ_eq_map]; rfl
  unfold keyO
  simp only [if_true, e, Option.map_some, Option.getD_some]
  simp [wOf, List.getD_eq_getElem?_getD, h]
theorem u8_back (b : UInt8) : UInt8.ofNat ((b.toNat : Int)).toNat = b := by rw [Int.toNat_natCast]; simp
theorem wrap_u64 (n : Nat) (h : n < 100) : IntKind.wrap .u64 (n : Int) = n := by
  simp only [IntKind.wrap, IntKind.bits, IntKind.signed, Bool.false_and, Bool.false_eq_true, if_false]; omega
set_option maxRecDepth 100000 in
set_option maxHeartbeats 400000 in
theorem opBatches_fn (keys : List UInt8) (del v : Int) (hd : 0 ≤ del ∧ del ≤ 255) (hv : 0 ≤ v ∧ v ≤ 255) : Fn Tryd.prog 4 [.sl (keys.map encB), .int .u8 del, .int .u8 v] (.bool true) := by
  refine Fn.mk' base Tryd.func4 rfl rfl rfl ?_
  repeat' (first
      | (with_reducible refine AW.seq ?_) | (with_reducible refine AW.region base (by kernel_rfl) ?_) | (with_reducible refine AW.cond ?_) | (with_reducible refine AW.block ?_) | (with_reducible refine AW.ret ?_) | (with_reducible refine AW.exit ?_) | (with_reducible refine AW.skip ?_)
      | ((conv => whnf); (first
         | (with_reducible refine Br.t ?_)
         | (with_reducible refine Br.f ?_)
         | ((with_reducible refine Or.inl ?_); (conv => whnf); (with_reducible refine And.intro LitSl.mk ?_))
         | (refine Br.t ?_)
         | (refine Br.f ?_)
         | (with_reducible refine Or.inl ⟨_, known6_fn, ?_⟩)
         | ((with_reducible refine Or.inl ?_); (conv => whnf); (with_reducible refine ⟨_, known6_fn, ?_⟩))
         | (with_reducible refine Br.mk (fun hb => ?_) (fun hb => ?_) <;> (try rw [hb]) <;> (try simp only [List.length_map, decide_eq_true_eq, decide_eq_false_iff_not, Bool.not_eq_true', Bool.not_eq_false', Int.ofNat_lt, Int.ofNat_le, Int.not_lt, Int.not_le, Int.toNat_natCast] at hb))
         | (with_reducible refine ⟨_, (show ByteRows _ _ by first | exact ByteRows.map _ | (repeat (first | exact ByteRows.nil | exact ByteRows.map _ | refine ByteRows.cons ?_ | refine ByteRows.app ?_ ?_))), ?_⟩)
         | ((fail_if_success (with_reducible show ∃ j, Fits _ _ _ _ ∧ _)); (refine Exists.intro _ (And.intro (ByteRows.rep _) ?_)))
         | ((fail_if_success (with_reducible show ∃ j, Fits _ _ _ _ ∧ _)); (refine Exists.intro _ (And.intro (ByteRows.app (ByteRows.map _) (ByteRows.cons ByteRows.nil)) ?_)))
         | ((with_reducible refine Or.inl (And.intro ?_ ?_)); (focus (first | with_reducible rfl | exact trivial | (exact ⟨rfl, trivial⟩) | (exact ⟨rfl, rfl, trivial⟩) | omega | (intro r hr; simp only [List.mem_singleton] at hr; subst hr; rfl)  | ((simp only [in64, List.length_map] at *; omega)) | ((simp only [List.length_map] at *; omega)) | ((exact ⟨by omega, by decide⟩)) | ((rw [wrap_u64 _ (by omega)]; simp only [IntKind.bits]; omega)) | ((refine ⟨?_, ?_, by decide, by decide⟩; (focus (exact Int.ediv_nonneg (by omega) (Int.pow_nonneg (by decide)))); (focus (simp only [limK]; exact Int.le_trans (Int.ediv_le_self _ (by omega)) (by omega))))) | ((refine ⟨rfl, by omega, by omega⟩)) | ((simp only [List.length_map, List.length_cons, List.length_nil]; rw [wsOf_len]; omega)) | (simp only [in64]; omega) | assumption | (simp; done) | (simp [V.cells]; done) | (simp [in64, maxLen, limK] at *; omega) | ((show confB _ _ = true); kernel_rfl) | rfl)))
         | ((with_reducible refine And.intro ?_ ?_); (focus (first | with_reducible rfl | exact trivial | (exact ⟨rfl, trivial⟩) | (exact ⟨rfl, rfl, trivial⟩) | omega | (intro r hr; simp only [List.mem_singleton] at hr; subst hr; rfl)  | ((simp only [in64, List.length_map] at *; omega)) | ((simp only [List.length_map] at *; omega)) | ((exact ⟨by omega, by decide⟩)) | ((rw [wrap_u64 _ (by omega)]; simp only [IntKind.bits]; omega)) | ((refine ⟨?_, ?_, by decide, by decide⟩; (focus (exact Int.ediv_nonneg (by omega) (Int.pow_nonneg (by decide)))); (focus (simp only [limK]; exact Int.le_trans (Int.ediv_le_self _ (by omega)) (by omega))))) | ((refine ⟨rfl, by omega, by omega⟩)) | ((simp only [List.length_map, List.length_cons, List.length_nil]; rw [wsOf_len]; omega)) | (simp only [in64]; omega) | assumption | (simp; done) | (simp [V.cells]; done) | (simp [in64, maxLen, limK] at *; omega) | ((show confB _ _ = true); kernel_rfl) | rfl)))
         | (intro row hrow; (try simp only [Int.toNat_natCast, List.length_map, toNat_pred, toNat_succ', toNat_zero', toNat_one'] at hrow); (first | (have hsm := same_map (by assumption) hrow; subst hsm; clear hrow) | (obtain ⟨p, hp, rfl⟩ := of_map hrow; clear hrow)))
         | (with_reducible refine AW.seq ?_) | (with_reducible refine AW.region base (by kernel_rfl) ?_) | (with_reducible refine AW.cond ?_) | (with_reducible refine AW.block ?_) | (with_reducible refine AW.ret ?_) | (with_reducible refine AW.exit ?_) | (with_reducible refine AW.skip ?_))))
  all_goals try ((conv => whnf); first | rfl | done)
  all_goals (
    refine AW.weakS 8 (v' := .bool (decide (1 ≤ keys.length) && decide (keys.length ≤ 4))) rfl (fun w R ρ x hx => by
      first
      | (rw [show (decide (1 ≤ keys.length) && decide (keys.length ≤ 4)) = decide (((keys.map encB).length : Int) ≤ 4) by rw [decide_eq_true (show 1 ≤ keys.length by omega), Bool.true_and]; exact decide_eq_decide.2 (by simp only [List.length_map]; omega)]; exact hx)
      | (rw [show (decide (1 ≤ keys.length) && decide (keys.length ≤ 4)) = false by rw [decide_eq_false (show ¬ 1 ≤ keys.length by omega)]; rfl]; exact hx)) ?_
    refine AW.adoptC 6001 5 999999999 (el := 27) rfl rfl rfl (rows_of 23 rfl) ?_
    refine AW.loop (fun (⟨i, b⟩ : Nat × Bool) => i ≤ keys.length ∧ keys.length ≤ 8 ∧ b = okOf keys del v (decide (1 ≤ keys.length) && decide (keys.length ≤ 4)) i) (fun (⟨i, b⟩ : Nat × Bool) => ⟨[(0, .sl (keys.map encB)), (1, .int .u8 del), (2, .int .u8 v), (7, .ptr 0 0), (8, .bool b), (9, .int .i64 (i : Int))], [.cells [.int .i64 6, .str [], .str [], .str [], .int .i64 0, .own 1], .rows 27 ((wsOf keys del v i).map encWr)]⟩) (fun (⟨i, b⟩ : Nat × Bool) => keys.length - i) (0, (decide (1 ≤ keys.length) && decide (keys.length ≤ 4))) ?_ ?_ ?_
    · exact ⟨Nat.zero_le _, by omega, rfl⟩
    · (refine ⟨⟨[6001, 999999999], ?_⟩⟩; repeat' (first | (with_reducible rfl) | exact trivial | ((conv => whnf); (first | (with_reducible refine And.intro ?_ ?_) | (first | with_reducible rfl | (refine congrArg V.str ?_; (first | with_reducible rfl | omega | (simp_all; done) | (simp_all; omega) | rfl | (simp; done))) | (refine congrArg (V.int _) ?_; (first | with_reducible rfl | omega | (simp_all; done) | (simp_all; omega) | rfl | (simp; done))) | (refine congrArg V.bool ?_; (first | with_reducible rfl | omega | (simp_all; done) | (simp_all; omega) | rfl | (simp; done))) | (refine congrArg V.sl ?_; (first | with_reducible rfl | omega | (simp_all; done) | (simp_all; omega) | rfl | (simp; done))) | (first | with_reducible rfl | omega | (simp_all; done) | (simp_all; omega) | rfl | (simp; done)) | rfl)))))
    · rintro ⟨i, b⟩ hk
      obtain ⟨hk1, hk2, hok⟩ := hk
      rcases (by omega : i = keys.length ∨ i < keys.length) with hi | hi
      · subst hi
        have hlaw := (batch_law keys del v (by omega)).trans hok.symm
        rcases Nat.eq_zero_or_pos keys.length with h0 | h0
        · try (exfalso; omega)
          repeat' (first
              | (with_reducible refine AW.seq ?_) | (with_reducible refine AW.region base (by kernel_rfl) ?_) | (with_reducible refine AW.cond ?_) | (with_reducible refine AW.block ?_) | (with_reducible refine AW.ret ?_) | (with_reducible refine AW.exit ?_) | (with_reducible refine AW.skip ?_)
              | ((conv => whnf); (first
                 | (with_reducible refine Br.t ?_)
                 | (with_reducible refine Br.f ?_)
                 | (with_reducible refine Br.mkT (fun hb => (by (first | (simp at hb; done) | omega | (simp at hb; omega) | (simp only [List.length_map, decide_eq_true_eq, decide_eq_false_iff_not] at hb; omega) | fail))) (fun hb => ?_))
                 | (with_reducible refine Br.mkF (fun hb => (by (first | (simp at hb; done) | omega | (simp at hb; omega) | (simp only [List.length_map, decide_eq_true_eq, decide_eq_false_iff_not] at hb; omega) | fail))) (fun hb => ?_))
                 | (with_reducible refine Br.mkT (fun hb => (by (first | (rw [hlaw] at hb; simp at hb; done) | (simp at hb; done) | omega | (simp only [List.length_map, decide_eq_true_eq, decide_eq_false_iff_not] at hb; omega) | (simp only [List.length_map] at hb; simp at hb; omega) | fail))) (fun hb => ?_))
                 | (with_reducible refine Br.mkF (fun hb => (by (first | (rw [hlaw] at hb; simp at hb; done) | (simp at hb; done) | omega | (simp only [List.length_map, decide_eq_true_eq, decide_eq_false_iff_not] at hb; omega) | (simp only [List.length_map] at hb; simp at hb; omega) | fail))) (fun hb => ?_))
                 | ((with_reducible refine Or.inl ?_); (conv => whnf); (with_reducible refine And.intro LitSl.mk ?_))
                 | (refine Br.t ?_)
                 | (refine Br.f ?_)
                 | (refine Exists.intro _ (And.intro (ByteRows.cons ByteRows.nil) ?_))
                 | (with_reducible refine Or.inl ⟨_, known6_fn, ?_⟩)
                 | ((with_reducible refine Or.inl ?_); (conv => whnf); (with_reducible refine ⟨_, known6_fn, ?_⟩))
                 | (refine Or.inl ⟨_, opIs_fn ⟨6, [], [], [], 0, wsOf keys del v keys.length⟩, ?_⟩)
                 | ((with_reducible refine Or.inl ?_); (conv => whnf); (refine ⟨_, opIs_fn ⟨6, [], [], [], 0, wsOf keys del v keys.length⟩, ?_⟩))
                 | (refine Or.inl ⟨_, opKey_fn ⟨6, [], [], [], 0, wsOf keys del v keys.length⟩, ?_⟩)
                 | ((with_reducible refine Or.inl ?_); (conv => whnf); (refine ⟨_, opKey_fn ⟨6, [], [], [], 0, wsOf keys del v keys.length⟩, ?_⟩))
                 | (with_reducible refine Br.mk (fun hb => ?_) (fun hb => ?_) <;> (try rw [hb]) <;> (try simp only [List.length_map, decide_eq_true_eq, decide_eq_false_iff_not, Bool.not_eq_true', Bool.not_eq_false', Int.ofNat_lt, Int.ofNat_le, Int.not_lt, Int.not_le, Int.toNat_natCast] at hb))
                 | (with_reducible refine ⟨_, (show ByteRows _ _ by first | exact ByteRows.map _ | (repeat (first | exact ByteRows.nil | exact ByteRows.map _ | refine ByteRows.cons ?_ | refine ByteRows.app ?_ ?_))), ?_⟩)
                 | ((fail_if_success (with_reducible show ∃ j, Fits _ _ _ _ ∧ _)); (refine Exists.intro _ (And.intro (ByteRows.rep _) ?_)))
                 | ((fail_if_success (with_reducible show ∃ j, Fits _ _ _ _ ∧ _)); (refine Exists.intro _ (And.intro (ByteRows.app (ByteRows.map _) (ByteRows.cons ByteRows.nil)) ?_)))
                 | ((with_reducible refine Or.inl (And.intro ?_ ?_)); (focus (first | with_reducible rfl | exact trivial | (exact ⟨rfl, trivial⟩) | (exact ⟨rfl, rfl, trivial⟩) | omega | (intro r hr; simp only [List.mem_singleton] at hr; subst hr; rfl)  | ((simp only [in64, List.length_map] at *; omega)) | ((simp only [List.length_map] at *; omega)) | ((exact ⟨by omega, by decide⟩)) | ((rw [wrap_u64 _ (by omega)]; simp only [IntKind.bits]; omega)) | ((refine ⟨?_, ?_, by decide, by decide⟩; (focus (exact Int.ediv_nonneg (by omega) (Int.pow_nonneg (by decide)))); (focus (simp only [limK]; exact Int.le_trans (Int.ediv_le_self _ (by omega)) (by omega))))) | ((refine ⟨rfl, by omega, by omega⟩)) | ((simp only [List.length_map, List.length_cons, List.length_nil]; rw [wsOf_len]; omega)) | (simp only [in64]; omega) | assumption | (simp; done) | (simp [V.cells]; done) | (simp [in64, maxLen, limK] at *; omega) | ((show confB _ _ = true); kernel_rfl) | rfl)))
                 | ((with_reducible refine And.intro ?_ ?_); (focus (first | with_reducible rfl | exact trivial | (exact ⟨rfl, trivial⟩) | (exact ⟨rfl, rfl, trivial⟩) | omega | (intro r hr; simp only [List.mem_singleton] at hr; subst hr; rfl)  | ((simp only [in64, List.length_map] at *; omega)) | ((simp only [List.length_map] at *; omega)) | ((exact ⟨by omega, by decide⟩)) | ((rw [wrap_u64 _ (by omega)]; simp only [IntKind.bits]; omega)) | ((refine ⟨?_, ?_, by decide, by decide⟩; (focus (exact Int.ediv_nonneg (by omega) (Int.pow_nonneg (by decide)))); (focus (simp only [limK]; exact Int.le_trans (Int.ediv_le_self _ (by omega)) (by omega))))) | ((refine ⟨rfl, by omega, by omega⟩)) | ((simp only [List.length_map, List.length_cons, List.length_nil]; rw [wsOf_len]; omega)) | (simp only [in64]; omega) | assumption | (simp; done) | (simp [V.cells]; done) | (simp [in64, maxLen, limK] at *; omega) | ((show confB _ _ = true); kernel_rfl) | rfl)))
                 | (intro row hrow; (try simp only [Int.toNat_natCast, List.length_map, toNat_pred, toNat_succ', toNat_zero', toNat_one'] at hrow); (first | (have hsm := same_map (by assumption) hrow; subst hsm; clear hrow) | (obtain ⟨p, hp, rfl⟩ := of_map hrow; clear hrow)))
                 | (with_reducible refine AW.seq ?_) | (with_reducible refine AW.region base (by kernel_rfl) ?_) | (with_reducible refine AW.cond ?_) | (with_reducible refine AW.block ?_) | (with_reducible refine AW.ret ?_) | (with_reducible refine AW.exit ?_) | (with_reducible refine AW.skip ?_))))
          all_goals ((conv => whnf); first | done | rfl | (refine congrArg V.bool ?_; have hkn : keys = [] := List.length_eq_zero_iff.1 h0; subst hkn; rfl))
        · obtain ⟨k0, hk0⟩ : ∃ k0, keys[0]? = some k0 := ⟨_, List.getElem?_eq_getElem h0⟩
          have hkey := batch_key keys del v k0 hk0 h0
          try (exfalso; omega)
          repeat' (first
              | (with_reducible refine AW.seq ?_) | (with_reducible refine AW.region base (by kernel_rfl) ?_) | (with_reducible refine AW.cond ?_) | (with_reducible refine AW.block ?_) | (with_reducible refine AW.ret ?_) | (with_reducible refine AW.exit ?_) | (with_reducible refine AW.skip ?_)
              | ((conv => whnf); (first
                 | (with_reducible refine Br.t ?_)
                 | (with_reducible refine Br.f ?_)
                 | (with_reducible refine Br.mkT (fun hb => (by (first | (simp at hb; done) | omega | (simp at hb; omega) | (simp only [List.length_map, decide_eq_true_eq, decide_eq_false_iff_not] at hb; omega) | fail))) (fun hb => ?_))
                 | (with_reducible refine Br.mkF (fun hb => (by (first | (simp at hb; done) | omega | (simp at hb; omega) | (simp only [List.length_map, decide_eq_true_eq, decide_eq_false_iff_not] at hb; omega) | fail))) (fun hb => ?_))
                 | (with_reducible refine Br.mkT (fun hb => (by (first | (rw [hlaw] at hb; simp at hb; done) | (simp at hb; done) | omega | (simp only [List.length_map, decide_eq_true_eq, decide_eq_false_iff_not] at hb; omega) | (simp only [List.length_map] at hb; simp at hb; omega) | fail))) (fun hb => ?_))
                 | (with_reducible refine Br.mkF (fun hb => (by (first | (rw [hlaw] at hb; simp at hb; done) | (simp at hb; done) | omega | (simp only [List.length_map, decide_eq_true_eq, decide_eq_false_iff_not] at hb; omega) | (simp only [List.length_map] at hb; simp at hb; omega) | fail))) (fun hb => ?_))
                 | ((with_reducible refine Or.inl ?_); (conv => whnf); (with_reducible refine And.intro LitSl.mk ?_))
                 | (refine Br.t ?_)
                 | (refine Br.f ?_)
                 | (refine Exists.intro _ (And.intro (ByteRows.cons ByteRows.nil) ?_))
                 | (with_reducible refine Or.inl ⟨_, known6_fn, ?_⟩)
                 | ((with_reducible refine Or.inl ?_); (conv => whnf); (with_reducible refine ⟨_, known6_fn, ?_⟩))
                 | (refine Or.inl ⟨_, opIs_fn ⟨6, [], [], [], 0, wsOf keys del v keys.length⟩, ?_⟩)
                 | ((with_reducible refine Or.inl ?_); (conv => whnf); (refine ⟨_, opIs_fn ⟨6, [], [], [], 0, wsOf keys del v keys.length⟩, ?_⟩))
                 | (refine Or.inl ⟨_, opKey_fn ⟨6, [], [], [], 0, wsOf keys del v keys.length⟩, ?_⟩)
                 | ((with_reducible refine Or.inl ?_); (conv => whnf); (refine ⟨_, opKey_fn ⟨6, [], [], [], 0, wsOf keys del v keys.length⟩, ?_⟩))
                 | (with_reducible refine Br.mk (fun hb => ?_) (fun hb => ?_) <;> (try rw [hb]) <;> (try simp only [List.length_map, decide_eq_true_eq, decide_eq_false_iff_not, Bool.not_eq_true', Bool.not_eq_false', Int.ofNat_lt, Int.ofNat_le, Int.not_lt, Int.not_le, Int.toNat_natCast] at hb))
                 | (with_reducible refine ⟨_, (show ByteRows _ _ by first | exact ByteRows.map _ | (repeat (first | exact ByteRows.nil | exact ByteRows.map _ | refine ByteRows.cons ?_ | refine ByteRows.app ?_ ?_))), ?_⟩)
                 | ((fail_if_success (with_reducible show ∃ j, Fits _ _ _ _ ∧ _)); (refine Exists.intro _ (And.intro (ByteRows.rep _) ?_)))
                 | ((fail_if_success (with_reducible show ∃ j, Fits _ _ _ _ ∧ _)); (refine Exists.intro _ (And.intro (ByteRows.app (ByteRows.map _) (ByteRows.cons ByteRows.nil)) ?_)))
                 | ((with_reducible refine Or.inl (And.intro ?_ ?_)); (focus (first | with_reducible rfl | exact trivial | (exact ⟨rfl, trivial⟩) | (exact ⟨rfl, rfl, trivial⟩) | omega | (intro r hr; simp only [List.mem_singleton] at hr; subst hr; rfl)  | ((simp only [in64, List.length_map] at *; omega)) | ((simp only [List.length_map] at *; omega)) | ((exact ⟨by omega, by decide⟩)) | ((rw [wrap_u64 _ (by omega)]; simp only [IntKind.bits]; omega)) | ((refine ⟨?_, ?_, by decide, by decide⟩; (focus (exact Int.ediv_nonneg (by omega) (Int.pow_nonneg (by decide)))); (focus (simp only [limK]; exact Int.le_trans (Int.ediv_le_self _ (by omega)) (by omega))))) | ((refine ⟨rfl, by omega, by omega⟩)) | ((simp only [List.length_map, List.length_cons, List.length_nil]; rw [wsOf_len]; omega)) | (simp only [in64]; omega) | assumption | (simp; done) | (simp [V.cells]; done) | (simp [in64, maxLen, limK] at *; omega) | ((show confB _ _ = true); kernel_rfl) | rfl)))
                 | ((with_reducible refine And.intro ?_ ?_); (focus (first | with_reducible rfl | exact trivial | (exact ⟨rfl, trivial⟩) | (exact ⟨rfl, rfl, trivial⟩) | omega | (intro r hr; simp only [List.mem_singleton] at hr; subst hr; rfl)  | ((simp only [in64, List.length_map] at *; omega)) | ((simp only [List.length_map] at *; omega)) | ((exact ⟨by omega, by decide⟩)) | ((rw [wrap_u64 _ (by omega)]; simp only [IntKind.bits]; omega)) | ((refine ⟨?_, ?_, by decide, by decide⟩; (focus (exact Int.ediv_nonneg (by omega) (Int.pow_nonneg (by decide)))); (focus (simp only [limK]; exact Int.le_trans (Int.ediv_le_self _ (by omega)) (by omega))))) | ((refine ⟨rfl, by omega, by omega⟩)) | ((simp only [List.length_map, List.length_cons, List.length_nil]; rw [wsOf_len]; omega)) | (simp only [in64]; omega) | assumption | (simp; done) | (simp [V.cells]; done) | (simp [in64, maxLen, limK] at *; omega) | ((show confB _ _ = true); kernel_rfl) | rfl)))
                 | (intro row hrow; (try simp only [Int.toNat_natCast, List.length_map, toNat_pred, toNat_succ', toNat_zero', toNat_one'] at hrow); (first | (have hsm := same_map (by assumption) hrow; subst hsm; clear hrow) | (obtain ⟨p, hp, rfl⟩ := of_map hrow; clear hrow)))
                 | (with_reducible refine AW.seq ?_) | (with_reducible refine AW.region base (by kernel_rfl) ?_) | (with_reducible refine AW.cond ?_) | (with_reducible refine AW.block ?_) | (with_reducible refine AW.ret ?_) | (with_reducible refine AW.exit ?_) | (with_reducible refine AW.skip ?_))))
          all_goals ((conv => whnf); first | done | rfl | (refine congrArg V.bool ?_; rw [hkey, u8_back, decide_eq_true rfl]))
      obtain ⟨p, hp⟩ : ∃ p, keys[i]? = some p := ⟨_, List.getElem?_eq_getElem hi⟩
      have hpg : keys.getD i 0 = p := by rw [List.getD_eq_getElem?_getD, hp]; rfl
      have hrow : ((wsOf keys del v i).map encWr) ++ [[V.str [UInt8.ofNat ((p.toNat : Int)).toNat], .str (List.replicate (v % 50).toNat 0), .bool (bitI del i)]] = (wsOf keys del v (i + 1)).map encWr := by
        rw [wsOf_succ, List.map_append, u8_back]; simp [wOf, hp]
      obtain ⟨q, hq⟩ : ∃ q, keys[i - 1]? = some q := ⟨_, List.getElem?_eq_getElem (by omega)⟩
      have hqg : keys.getD (i - 1) 0 = q := by rw [List.getD_eq_getElem?_getD, hq]; rfl
      have hst : okOf keys del v (decide (1 ≤ keys.length) && decide (keys.length ≤ 4)) (i + 1) = (b && ((!bitI del i || decide (v % 50 = 0)) && decide (v % 50 ≤ 40) && (decide (i = 0) || decide (q.toNat < p.toNat)))) := by
        rw [okOf, ← hok, okStep, hpg, hqg]
      obtain ⟨bt, hbt⟩ : ∃ bt, bitI del i = bt := ⟨_, rfl⟩
      rw [hbt] at hst hrow
      have hbt2 := hbt
      unfold bitI at hbt2
  
      cases bt
      · skip
        repeat' (first
            | (with_reducible refine AW.seq ?_) | (with_reducible refine AW.region base (by kernel_rfl) ?_) | (with_reducible refine AW.cond ?_) | (with_reducible refine AW.block ?_) | (with_reducible refine AW.ret ?_) | (with_reducible refine AW.exit ?_) | (with_reducible refine AW.skip ?_)
            | ((conv => whnf); (first
               | (with_reducible refine Br.t ?_)
               | (with_reducible refine Br.f ?_)
               | (with_reducible refine Br.mkT (fun hb => (by (first | (rw [hbt2] at hb; simp at hb; done) | (simp at hb; done) | omega | (simp only [List.length_map, decide_eq_true_eq, decide_eq_false_iff_not] at hb; omega) | fail))) (fun hb => ?_))
               | (with_reducible refine Br.mkF (fun hb => (by (first | (rw [hbt2] at hb; simp at hb; done) | (simp at hb; done) | omega | (simp only [List.length_map, decide_eq_true_eq, decide_eq_false_iff_not] at hb; omega) | fail))) (fun hb => ?_))
               | ((with_reducible refine Or.inl ?_); (conv => whnf); (with_reducible refine And.intro LitSl.mk ?_))
               | (refine Br.t ?_)
               | (refine Br.f ?_)
               | (refine Exists.intro _ (And.intro (ByteRows.cons ByteRows.nil) ?_))
               | (with_reducible refine Or.inl ⟨_, known6_fn, ?_⟩)
               | ((with_reducible refine Or.inl ?_); (conv => whnf); (with_reducible refine ⟨_, known6_fn, ?_⟩))
               | (refine Or.inl ⟨_, opIs_fn ⟨6, [], [], [], 0, wsOf keys del v keys.length⟩, ?_⟩)
               | ((with_reducible refine Or.inl ?_); (conv => whnf); (refine ⟨_, opIs_fn ⟨6, [], [], [], 0, wsOf keys del v keys.length⟩, ?_⟩))
               | (refine Or.inl ⟨_, opKey_fn ⟨6, [], [], [], 0, wsOf keys del v keys.length⟩, ?_⟩)
               | ((with_reducible refine Or.inl ?_); (conv => whnf); (refine ⟨_, opKey_fn ⟨6, [], [], [], 0, wsOf keys del v keys.length⟩, ?_⟩))
               | (with_reducible refine Br.mk (fun hb => ?_) (fun hb => ?_) <;> (try rw [hb]) <;> (try simp only [List.length_map, decide_eq_true_eq, decide_eq_false_iff_not, Bool.not_eq_true', Bool.not_eq_false', Int.ofNat_lt, Int.ofNat_le, Int.not_lt, Int.not_le, Int.toNat_natCast] at hb))
               | (with_reducible refine ⟨_, (show ByteRows _ _ by first | exact ByteRows.map _ | (repeat (first | exact ByteRows.nil | exact ByteRows.map _ | refine ByteRows.cons ?_ | refine ByteRows.app ?_ ?_))), ?_⟩)
               | ((fail_if_success (with_reducible show ∃ j, Fits _ _ _ _ ∧ _)); (refine Exists.intro _ (And.intro (ByteRows.rep _) ?_)))
               | ((fail_if_success (with_reducible show ∃ j, Fits _ _ _ _ ∧ _)); (refine Exists.intro _ (And.intro (ByteRows.app (ByteRows.map _) (ByteRows.cons ByteRows.nil)) ?_)))
               | ((with_reducible refine Or.inl (And.intro ?_ ?_)); (focus (first | with_reducible rfl | exact trivial | (exact ⟨rfl, trivial⟩) | (exact ⟨rfl, rfl, trivial⟩) | omega | (intro r hr; simp only [List.mem_singleton] at hr; subst hr; rfl)  | ((simp only [in64, List.length_map] at *; omega)) | ((simp only [List.length_map] at *; omega)) | ((exact ⟨by omega, by decide⟩)) | ((rw [wrap_u64 _ (by omega)]; simp only [IntKind.bits]; omega)) | ((refine ⟨?_, ?_, by decide, by decide⟩; (focus (exact Int.ediv_nonneg (by omega) (Int.pow_nonneg (by decide)))); (focus (simp only [limK]; exact Int.le_trans (Int.ediv_le_self _ (by omega)) (by omega))))) | ((refine ⟨rfl, by omega, by omega⟩)) | ((simp only [List.length_map, List.length_cons, List.length_nil]; rw [wsOf_len]; omega)) | (simp only [in64]; omega) | assumption | (simp; done) | (simp [V.cells]; done) | (simp [in64, maxLen, limK] at *; omega) | ((show confB _ _ = true); kernel_rfl) | rfl)))
               | ((with_reducible refine And.intro ?_ ?_); (focus (first | with_reducible rfl | exact trivial | (exact ⟨rfl, trivial⟩) | (exact ⟨rfl, rfl, trivial⟩) | omega | (intro r hr; simp only [List.mem_singleton] at hr; subst hr; rfl)  | ((simp only [in64, List.length_map] at *; omega)) | ((simp only [List.length_map] at *; omega)) | ((exact ⟨by omega, by decide⟩)) | ((rw [wrap_u64 _ (by omega)]; simp only [IntKind.bits]; omega)) | ((refine ⟨?_, ?_, by decide, by decide⟩; (focus (exact Int.ediv_nonneg (by omega) (Int.pow_nonneg (by decide)))); (focus (simp only [limK]; exact Int.le_trans (Int.ediv_le_self _ (by omega)) (by omega))))) | ((refine ⟨rfl, by omega, by omega⟩)) | ((simp only [List.length_map, List.length_cons, List.length_nil]; rw [wsOf_len]; omega)) | (simp only [in64]; omega) | assumption | (simp; done) | (simp [V.cells]; done) | (simp [in64, maxLen, limK] at *; omega) | ((show confB _ _ = true); kernel_rfl) | rfl)))
               | (intro row hrow; (try simp only [Int.toNat_natCast, List.length_map, toNat_pred, toNat_succ', toNat_zero', toNat_one'] at hrow); (first | (have hsm := same_map (by assumption) hrow; subst hsm; clear hrow) | (obtain ⟨p, hp, rfl⟩ := of_map hrow; clear hrow)))
               | (with_reducible refine AW.seq ?_) | (with_reducible refine AW.region base (by kernel_rfl) ?_) | (with_reducible refine AW.cond ?_) | (with_reducible refine AW.block ?_) | (with_reducible refine AW.ret ?_) | (with_reducible refine AW.exit ?_) | (with_reducible refine AW.skip ?_))))
        all_goals (try first | with_reducible assumption | ((show (_ : Int) ≤ _); (first | omega | (simp at *; omega) | (simp; done) | (simp [maxLen]; done))) | ((show (_ : Nat) ≤ _); (first | omega | (simp at *; omega) | (simp; done) | (simp [maxLen]; done))) | ((show in64 _); (simp only [in64] at *; (first | omega | (simp at *; omega) | (simp; done) | (simp [maxLen]; done)))) | ((show (_ : Int) < _); (first | omega | (simp at *; omega) | (simp; done) | (simp [maxLen]; done))) | ((show ¬ (_ : Int) = _); (first | omega | (simp at *; omega) | (simp; done) | (simp [maxLen]; done))) | ((with_reducible refine And.intro ?_ ?_) <;> (first | omega | (simp at *; omega) | (simp; done) | (simp [maxLen]; done))))
        all_goals (first
          | (with_reducible exact absurd rfl (by assumption))
          | ((conv => whnf); (refine ⟨(i + 1, ?_), ?_⟩); (rotate_left 1); (refine And.intro ?_ (And.intro ?_ ?_)); (focus (refine ⟨⟨[0, ?_], ?_⟩⟩; rotate_left 1; repeat' (first | (with_reducible rfl) | exact trivial | ((conv => whnf); (first | (with_reducible refine And.intro ?_ ?_) | (first | with_reducible rfl | (refine congrArg V.str ?_; (first | with_reducible rfl | omega | exact hrow | (rw [← hrow]; rfl) | rfl | (simp; done))) | (refine congrArg (V.int _) ?_; (first | with_reducible rfl | omega | exact hrow | (rw [← hrow]; rfl) | rfl | (simp; done))) | (refine congrArg V.bool ?_; (first | with_reducible rfl | omega | exact hrow | (rw [← hrow]; rfl) | rfl | (simp; done))) | (refine congrArg V.sl ?_; (first | with_reducible rfl | omega | exact hrow | (rw [← hrow]; rfl) | rfl | (simp; done))) | (first | with_reducible rfl | omega | exact hrow | (rw [← hrow]; rfl) | rfl | (simp; done)) | rfl)))))); (focus (refine ⟨by omega, by omega, ?_⟩; rw [hst]; first | (simp_all; done) | (simp_all; omega))); (focus (first | omega | (dsimp only; omega) | (simp; done) | (simp; omega) | (simp at *; omega))))
          | ((conv => whnf); (try (first | rfl | (exfalso; simp_all; done) | (exfalso; simp at *; omega))); done))
      · skip
        repeat' (first
            | (with_reducible refine AW.seq ?_) | (with_reducible refine AW.region base (by kernel_rfl) ?_) | (with_reducible refine AW.cond ?_) | (with_reducible refine AW.block ?_) | (with_reducible refine AW.ret ?_) | (with_reducible refine AW.exit ?_) | (with_reducible refine AW.skip ?_)
            | ((conv => whnf); (first
               | (with_reducible refine Br.t ?_)
               | (with_reducible refine Br.f ?_)
               | (with_reducible refine Br.mkT (fun hb => (by (first | (rw [hbt2] at hb; simp at hb; done) | (simp at hb; done) | omega | (simp only [List.length_map, decide_eq_true_eq, decide_eq_false_iff_not] at hb; omega) | fail))) (fun hb => ?_))
               | (with_reducible refine Br.mkF (fun hb => (by (first | (rw [hbt2] at hb; simp at hb; done) | (simp at hb; done) | omega | (simp only [List.length_map, decide_eq_true_eq, decide_eq_false_iff_not] at hb; omega) | fail))) (fun hb => ?_))
               | ((with_reducible refine Or.inl ?_); (conv => whnf); (with_reducible refine And.intro LitSl.mk ?_))
               | (refine Br.t ?_)
               | (refine Br.f ?_)
               | (refine Exists.intro _ (And.intro (ByteRows.cons ByteRows.nil) ?_))
               | (with_reducible refine Or.inl ⟨_, known6_fn, ?_⟩)
               | ((with_reducible refine Or.inl ?_); (conv => whnf); (with_reducible refine ⟨_, known6_fn, ?_⟩))
               | (refine Or.inl ⟨_, opIs_fn ⟨6, [], [], [], 0, wsOf keys del v keys.length⟩, ?_⟩)
               | ((with_reducible refine Or.inl ?_); (conv => whnf); (refine ⟨_, opIs_fn ⟨6, [], [], [], 0, wsOf keys del v keys.length⟩, ?_⟩))
               | (refine Or.inl ⟨_, opKey_fn ⟨6, [], [], [], 0, wsOf keys del v keys.length⟩, ?_⟩)
               | ((with_reducible refine Or.inl ?_); (conv => whnf); (refine ⟨_, opKey_fn ⟨6, [], [], [], 0, wsOf keys del v keys.length⟩, ?_⟩))
               | (with_reducible refine Br.mk (fun hb => ?_) (fun hb => ?_) <;> (try rw [hb]) <;> (try simp only [List.length_map, decide_eq_true_eq, decide_eq_false_iff_not, Bool.not_eq_true', Bool.not_eq_false', Int.ofNat_lt, Int.ofNat_le, Int.not_lt, Int.not_le, Int.toNat_natCast] at hb))
               | (with_reducible refine ⟨_, (show ByteRows _ _ by first | exact ByteRows.map _ | (repeat (first | exact ByteRows.nil | exact ByteRows.map _ | refine ByteRows.cons ?_ | refine ByteRows.app ?_ ?_))), ?_⟩)
               | ((fail_if_success (with_reducible show ∃ j, Fits _ _ _ _ ∧ _)); (refine Exists.intro _ (And.intro (ByteRows.rep _) ?_)))
               | ((fail_if_success (with_reducible show ∃ j, Fits _ _ _ _ ∧ _)); (refine Exists.intro _ (And.intro (ByteRows.app (ByteRows.map _) (ByteRows.cons ByteRows.nil)) ?_)))
               | ((with_reducible refine Or.inl (And.intro ?_ ?_)); (focus (first | with_reducible rfl | exact trivial | (exact ⟨rfl, trivial⟩) | (exact ⟨rfl, rfl, trivial⟩) | omega | (intro r hr; simp only [List.mem_singleton] at hr; subst hr; rfl)  | ((simp only [in64, List.length_map] at *; omega)) | ((simp only [List.length_map] at *; omega)) | ((exact ⟨by omega, by decide⟩)) | ((rw [wrap_u64 _ (by omega)]; simp only [IntKind.bits]; omega)) | ((refine ⟨?_, ?_, by decide, by decide⟩; (focus (exact Int.ediv_nonneg (by omega) (Int.pow_nonneg (by decide)))); (focus (simp only [limK]; exact Int.le_trans (Int.ediv_le_self _ (by omega)) (by omega))))) | ((refine ⟨rfl, by omega, by omega⟩)) | ((simp only [List.length_map, List.length_cons, List.length_nil]; rw [wsOf_len]; omega)) | (simp only [in64]; omega) | assumption | (simp; done) | (simp [V.cells]; done) | (simp [in64, maxLen, limK] at *; omega) | ((show confB _ _ = true); kernel_rfl) | rfl)))
               | ((with_reducible refine And.intro ?_ ?_); (focus (first | with_reducible rfl | exact trivial | (exact ⟨rfl, trivial⟩) | (exact ⟨rfl, rfl, trivial⟩) | omega | (intro r hr; simp only [List.mem_singleton] at hr; subst hr; rfl)  | ((simp only [in64, List.length_map] at *; omega)) | ((simp only [List.length_map] at *; omega)) | ((exact ⟨by omega, by decide⟩)) | ((rw [wrap_u64 _ (by omega)]; simp only [IntKind.bits]; omega)) | ((refine ⟨?_, ?_, by decide, by decide⟩; (focus (exact Int.ediv_nonneg (by omega) (Int.pow_nonneg (by decide)))); (focus (simp only [limK]; exact Int.le_trans (Int.ediv_le_self _ (by omega)) (by omega))))) | ((refine ⟨rfl, by omega, by omega⟩)) | ((simp only [List.length_map, List.length_cons, List.length_nil]; rw [wsOf_len]; omega)) | (simp only [in64]; omega) | assumption | (simp; done) | (simp [V.cells]; done) | (simp [in64, maxLen, limK] at *; omega) | ((show confB _ _ = true); kernel_rfl) | rfl)))
               | (intro row hrow; (try simp only [Int.toNat_natCast, List.length_map, toNat_pred, toNat_succ', toNat_zero', toNat_one'] at hrow); (first | (have hsm := same_map (by assumption) hrow; subst hsm; clear hrow) | (obtain ⟨p, hp, rfl⟩ := of_map hrow; clear hrow)))
               | (with_reducible refine AW.seq ?_) | (with_reducible refine AW.region base (by kernel_rfl) ?_) | (with_reducible refine AW.cond ?_) | (with_reducible refine AW.block ?_) | (with_reducible refine AW.ret ?_) | (with_reducible refine AW.exit ?_) | (with_reducible refine AW.skip ?_))))
        all_goals (try first | with_reducible assumption | ((show (_ : Int) ≤ _); (first | omega | (simp at *; omega) | (simp; done) | (simp [maxLen]; done))) | ((show (_ : Nat) ≤ _); (first | omega | (simp at *; omega) | (simp; done) | (simp [maxLen]; done))) | ((show in64 _); (simp only [in64] at *; (first | omega | (simp at *; omega) | (simp; done) | (simp [maxLen]; done)))) | ((show (_ : Int) < _); (first | omega | (simp at *; omega) | (simp; done) | (simp [maxLen]; done))) | ((show ¬ (_ : Int) = _); (first | omega | (simp at *; omega) | (simp; done) | (simp [maxLen]; done))) | ((with_reducible refine And.intro ?_ ?_) <;> (first | omega | (simp at *; omega) | (simp; done) | (simp [maxLen]; done))))
        all_goals (first
          | (with_reducible exact absurd rfl (by assumption))
          | ((conv => whnf); (refine ⟨(i + 1, ?_), ?_⟩); (rotate_left 1); (refine And.intro ?_ (And.intro ?_ ?_)); (focus (refine ⟨⟨[0, ?_], ?_⟩⟩; rotate_left 1; repeat' (first | (with_reducible rfl) | exact trivial | ((conv => whnf); (first | (with_reducible refine And.intro ?_ ?_) | (first | with_reducible rfl | (refine congrArg V.str ?_; (first | with_reducible rfl | omega | exact hrow | (rw [← hrow]; rfl) | rfl | (simp; done))) | (refine congrArg (V.int _) ?_; (first | with_reducible rfl | omega | exact hrow | (rw [← hrow]; rfl) | rfl | (simp; done))) | (refine congrArg V.bool ?_; (first | with_reducible rfl | omega | exact hrow | (rw [← hrow]; rfl) | rfl | (simp; done))) | (refine congrArg V.sl ?_; (first | with_reducible rfl | omega | exact hrow | (rw [← hrow]; rfl) | rfl | (simp; done))) | (first | with_reducible rfl | omega | exact hrow | (rw [← hrow]; rfl) | rfl | (simp; done)) | rfl)))))); (focus (refine ⟨by omega, by omega, ?_⟩; rw [hst]; first | (simp_all; done) | (simp_all; omega))); (focus (first | omega | (dsimp only; omega) | (simp; done) | (simp; omega) | (simp at *; omega))))
          | ((conv => whnf); (try (first | rfl | (exfalso; simp_all; done) | (exfalso; simp at *; omega))); done))
)
end Go.Proofs.YtnblecdpkbempaaDoor
