/-
  The laws of histories: what is known; their walks. No conditions.
-/
import Derived.Test.YthcbffejjkmmfaaHistB
namespace Go.Proofs.Ythcbffejjkmmfaa
open Go.RowKit
set_option linter.unusedSimpArgs false
set_option linter.unusedVariables false

theorem Fn.as {f : FuncId} {args args' : List V} {r r' : V} (h : Fn Try.prog f args r) (ha : args' = args) (hr : r = r') : Fn Try.prog f args' r' := by subst ha; subst hr; exact h
theorem Fn.nil3 {f : FuncId} {a b c : V} {d : List V} {r : V} (h : Fn Try.prog f (a :: b :: c :: .sl [] :: d) r) : Fn Try.prog f (a :: b :: c :: .nils :: d) r := h.weaken fun w R xs hx => by
  obtain ⟨x, rr, rfl, h1, h2⟩ := hx.uncons
  obtain ⟨y, rr, rfl, h3, h4⟩ := h2.uncons
  obtain ⟨z, rr, rfl, h5, h6⟩ := h4.uncons
  obtain ⟨u, rr, rfl, h7, h8⟩ := h6.uncons
  rw [h7.of_nils]
  exact .cons h1 (.cons h3 (.cons h5 (.cons .slnil h8)))
abbrev kE1 : Evt := ⟨[97], 1, [120], false⟩
abbrev kE2 : Evt := ⟨[97], 2, [121], false⟩
abbrev kE3 : Evt := ⟨[97], 3, [], false⟩
abbrev kC : Cel := ⟨[97], [121], 2, false, 0⟩
abbrev kC1 : Cel := ⟨[97], [121], 2, false, 1⟩
theorem k_after1 : Fn Try.prog 25 [.sl [[.str [97], .int .i64 1, .str [120], .bool false], [.str [97], .int .i64 2, .str [121], .bool false]], .sl [[.str [97], .str [121], .int .i64 2, .bool false, .int .i64 0]], .agg [.str [], .str []], .sl [[.str [97], .int .i64 1]], .int .i64 9] (.tup [.sl [[.str [97], .int .i64 2, .str [121], .bool false]], .bool false]) := (after_ok [kE1, kE2] [kC] ⟨[], []⟩ [⟨[97], 1⟩] 9 (by decide) (by decide) (by kernel_rfl)).as (by kernel_rfl) (by kernel_rfl)
theorem k_keep : Fn Try.prog 26 [.sl [[.str [97], .int .i64 1, .str [120], .bool false], [.str [97], .int .i64 2, .str [121], .bool false]], .sl [[.str [97], .str [121], .int .i64 2, .bool false, .int .i64 0]], .int .i64 1] (.tup [.sl [[.str [97], .int .i64 2, .str [121], .bool false]], .sl [[.str [97], .str [121], .int .i64 2, .bool false, .int .i64 1]]]) := (keep_fn [kE1, kE2] [kC] 1 (by decide) (by decide) (by simp only [in64]; omega)).as (by kernel_rfl) (by kernel_rfl)
theorem k_after2 : Fn Try.prog 25 [.sl [[.str [97], .int .i64 2, .str [121], .bool false]], .sl [[.str [97], .str [121], .int .i64 2, .bool false, .int .i64 1]], .agg [.str [], .str []], .nils, .int .i64 9] (.tup [.nils, .bool true]) := ((after_over [kE2] [kC1] ⟨[], []⟩ [] 9 (by decide) (by decide) (by kernel_rfl)).as (by kernel_rfl) (by kernel_rfl)).nil3
theorem k_add : Fn Try.prog 22 [.sl [[.str [97], .int .i64 1, .str [120], .bool false], [.str [97], .int .i64 2, .str [121], .bool false]], .sl [[.str [97], .str [121], .int .i64 2, .bool false, .int .i64 0]], .agg [.str [97], .int .i64 3, .str [], .bool false], .int .i64 2] (.tup [.sl [[.str [97], .int .i64 2, .str [121], .bool false], [.str [97], .int .i64 3, .str [], .bool false]], .sl [[.str [97], .str [121], .int .i64 2, .bool false, .int .i64 1]]]) := (add_fn [kE1, kE2] [kC] kE3 2 (by decide) (by decide) (by simp only [in64]; omega)).as (by kernel_rfl) (by kernel_rfl)
theorem k_is1 : Fn Try.prog 24 [.sl [[.str [97], .int .i64 1, .str [120], .bool false], [.str [97], .int .i64 2, .str [121], .bool false]], .sl [[.str [97], .str [121], .int .i64 2, .bool false, .int .i64 0]]] (.bool true) := (histIs_fn [kE1, kE2] [kC]).as (by kernel_rfl) (by kernel_rfl)
theorem k_is2 : Fn Try.prog 24 [.sl [[.str [97], .int .i64 2, .str [121], .bool false]], .sl [[.str [97], .str [121], .int .i64 2, .bool false, .int .i64 0]]] (.bool false) := (histIs_fn [kE2] [kC]).as (by kernel_rfl) (by kernel_rfl)
theorem k_is3 : Fn Try.prog 24 [.sl [[.str [97], .int .i64 2, .str [121], .bool false]], .sl [[.str [97], .str [121], .int .i64 2, .bool false, .int .i64 1]]] (.bool true) := (histIs_fn [kE2] [kC1]).as (by kernel_rfl) (by kernel_rfl)

set_option maxRecDepth 100000 in
set_option maxHeartbeats 1000000 in
theorem known13_fn  : Fn Try.prog 19 [] (.bool true) := by
  refine Fn.mk' base Try.func19 rfl rfl rfl ?_
  repeat' (first
      | (with_reducible refine AW.seq ?_) | (with_reducible refine AW.region base (by kernel_rfl) ?_) | (with_reducible refine AW.cond ?_) | (with_reducible refine AW.block ?_) | (with_reducible refine AW.ret ?_) | (with_reducible refine AW.exit ?_) | (with_reducible refine AW.skip ?_)
      | ((conv => whnf); (first
         | (with_reducible refine Br.t ?_)
         | (with_reducible refine Br.f ?_)
         | ((with_reducible refine Or.inl ?_); (conv => whnf); (with_reducible refine And.intro LitSl.mk ?_))
         | (refine Br.t ?_)
         | (refine Br.f ?_)
         | (refine Or.inl ⟨_, k_after1, ?_⟩)
         | ((with_reducible refine Or.inl ?_); (conv => whnf); (refine ⟨_, k_after1, ?_⟩))
         | (refine Or.inl ⟨_, k_keep, ?_⟩)
         | ((with_reducible refine Or.inl ?_); (conv => whnf); (refine ⟨_, k_keep, ?_⟩))
         | (refine Or.inl ⟨_, k_after2, ?_⟩)
         | ((with_reducible refine Or.inl ?_); (conv => whnf); (refine ⟨_, k_after2, ?_⟩))
         | (refine Or.inl ⟨_, k_add, ?_⟩)
         | ((with_reducible refine Or.inl ?_); (conv => whnf); (refine ⟨_, k_add, ?_⟩))
         | (refine Or.inl ⟨_, k_is1, ?_⟩)
         | ((with_reducible refine Or.inl ?_); (conv => whnf); (refine ⟨_, k_is1, ?_⟩))
         | (refine Or.inl ⟨_, k_is3, ?_⟩)
         | ((with_reducible refine Or.inl ?_); (conv => whnf); (refine ⟨_, k_is3, ?_⟩))
         | (refine Or.inl ⟨_, k_is2, ?_⟩)
         | ((with_reducible refine Or.inl ?_); (conv => whnf); (refine ⟨_, k_is2, ?_⟩))
         | (with_reducible refine Br.mk (fun hb => ?_) (fun hb => ?_) <;> (try rw [hb]) <;> (try simp only [List.length_map, decide_eq_true_eq, decide_eq_false_iff_not, Bool.not_eq_true', Bool.not_eq_false', Int.ofNat_lt, Int.ofNat_le, Int.not_lt, Int.not_le, Int.toNat_natCast] at hb))
         | (with_reducible refine ⟨_, (by first | exact ByteRows.map _ | (repeat (first | exact ByteRows.nil | exact ByteRows.map _ | refine ByteRows.cons ?_ | refine ByteRows.app ?_ ?_))), ?_⟩)
         | (refine Exists.intro _ (And.intro (ByteRows.rep _) ?_))
         | (refine Exists.intro _ (And.intro (ByteRows.app (ByteRows.map _) (ByteRows.cons ByteRows.nil)) ?_))
         | ((with_reducible refine Or.inl (And.intro ?_ ?_)); (focus (first | with_reducible rfl | exact trivial | (exact ⟨rfl, trivial⟩) | (exact ⟨rfl, rfl, trivial⟩) | omega | (intro r hr; simp only [List.mem_singleton] at hr; subst hr; rfl)  | (simp only [in64]; omega) | assumption | (simp; done) | (simp [V.cells]; done) | (simp [in64, maxLen, limK] at *; omega) | ((show confB _ _ = true); kernel_rfl) | rfl)))
         | ((with_reducible refine And.intro ?_ ?_); (focus (first | with_reducible rfl | exact trivial | (exact ⟨rfl, trivial⟩) | (exact ⟨rfl, rfl, trivial⟩) | omega | (intro r hr; simp only [List.mem_singleton] at hr; subst hr; rfl)  | (simp only [in64]; omega) | assumption | (simp; done) | (simp [V.cells]; done) | (simp [in64, maxLen, limK] at *; omega) | ((show confB _ _ = true); kernel_rfl) | rfl)))
         | (intro row hrow; obtain rfl := (Option.some.inj hrow))
         | (with_reducible refine AW.seq ?_) | (with_reducible refine AW.region base (by kernel_rfl) ?_) | (with_reducible refine AW.cond ?_) | (with_reducible refine AW.block ?_) | (with_reducible refine AW.ret ?_) | (with_reducible refine AW.exit ?_) | (with_reducible refine AW.skip ?_))))
  all_goals (conv => whnf)
  all_goals (first | rfl | (simp only [V.bool.injEq, V.tup.injEq, V.agg.injEq, V.str.injEq, V.int.injEq, V.sl.injEq, V.ifc.injEq, List.cons.injEq, and_true, true_and, and_self]; done) | (simp only [V.bool.injEq, V.tup.injEq, V.agg.injEq, V.str.injEq, V.int.injEq, V.sl.injEq, V.ifc.injEq, List.cons.injEq, and_true, true_and, and_self]; grind) | (simp  at *; done) | (simp  at *; grind))

/-- one more version of a key, the last ones kept -/
theorem cell_eta (c : List Cel) (k w : Bs) : put1 (cellOf c k) w = ⟨k, w, (cellOf c k).n + 1, false, (cellOf c k).f⟩ := by
  unfold put1; rw [← cellOf_k c k, cellOf_k]
theorem evt_eta (c : List Cel) (k w : Bs) : evt1 (cellOf c k) w = ⟨k, (cellOf c k).n + 1, w, false⟩ := by
  unfold evt1; rw [cellOf_k]
theorem put_step {l : List Evt} {c : List Cel} (h : Hist l c) {k w : Bs} (hk : isKeyB k = true) (hw : w.length ≤ 12) (hn : (cellOf c k).n < 1000000000000) (M : Int) :
    Hist (keepE (l ++ [⟨k, (cellOf c k).n + 1, w, false⟩]) M) (keepC (l ++ [⟨k, (cellOf c k).n + 1, w, false⟩]) (withC c ⟨k, w, (cellOf c k).n + 1, false, (cellOf c k).f⟩) M) := by
  have := (h.put hk hw hn).keep M
  rw [cell_eta, evt_eta] at this
  exact this
theorem most_step {l : List Evt} {c : List Cel} {n : Int} (h : Most c n) (h0 : 0 ≤ n) (k w : Bs) (M : Int) :
    Most (keepC (l ++ [⟨k, (cellOf c k).n + 1, w, false⟩]) (withC c ⟨k, w, (cellOf c k).n + 1, false, (cellOf c k).f⟩) M) (n + 1) := by
  have := h.put (m := 0) h0 k w ((l ++ [(⟨k, (cellOf c k).n + 1, w, false⟩ : Evt)]).take (goneN (l ++ [(⟨k, (cellOf c k).n + 1, w, false⟩ : Evt)]) M))
  rw [cell_eta] at this
  exact this
theorem keepC_len (l : List Evt) (c : List Cel) (n : Int) : (keepC l c n).length = c.length := bumps_length _ _
theorem add_fn2 (l : List Evt) (c : List Cel) (k : Bs) (m : Int) (v : Bs) (d : Bool) (n : Int) (hl : l.length < 1000000) (hc : c.length ≤ 1000000) (hn : in64 n) : Fn Try.prog 22 [.sl (l.map encE), .sl (c.map encC), .agg [.str k, .int .i64 m, .str v, .bool d], .int .i64 n] (.tup [.sl ((keepE (l ++ [⟨k, m, v, d⟩]) n).map encE), .sl ((keepC (l ++ [⟨k, m, v, d⟩]) c n).map encC)]) := add_fn l c ⟨k, m, v, d⟩ n hl hc hn
theorem after_fn1 (l : List Evt) (c : List Cel) (k : Bs) (v : Int) (hl : l.length ≤ 1000000) (hc : c.length ≤ 1000000) (h : Hist l c) (hk : isKeyB k = true) (hk7 : k.length ≤ 7) (hv : 0 ≤ v) : Fn Try.prog 25 [.sl (l.map encE), .sl (c.map encC), .agg [.str k, .str (k ++ [0])], .sl [[.str k, .int .i64 v]], .int .i64 100] (.alt (decide (v < (cellOf c k).f)) (.tup [.nils, .bool true]) (.tup [.sl ((aftE l ⟨k, k ++ [0]⟩ [⟨k, v⟩] 100).map encE), .bool false])) := by
  have := after_fn l c ⟨k, k ++ [0]⟩ [⟨k, v⟩] 100 hl hc
  rw [over_iff h hk hk7 hv] at this
  exact this

theorem wrap_u8 (n : Int) (h0 : 0 ≤ n) (h1 : n ≤ 255) : IntKind.wrap .u8 n = n := by
  simp only [IntKind.wrap, IntKind.bits, IntKind.signed, Bool.false_and, Bool.false_eq_true, if_false]; omega
theorem not_tt {b : Bool} (h : (!b) = true) : b = false := by simpa using h
theorem hkey1 {b : UInt8} : isKeyB [b] = true := rfl
theorem hkey7 {b : UInt8} : [b].length ≤ 7 := Nat.le_of_ble_eq_true rfl
theorem hw1 {b : UInt8} : [b].length ≤ 12 := Nat.le_of_ble_eq_true rfl
theorem co_nn {l : List Evt} {c : List Cel} (h : Hist l c) (k : Bs) : 0 ≤ (cellOf c k).n := by
  obtain ⟨⟨h1, h2⟩, _⟩ := h.cellOf k; omega

theorem emod_le (a b : Int) (ha : 0 ≤ a) (hb : 0 < b) : a % b ≤ a := by
  rcases Int.lt_or_le a b with h | h
  · rw [Int.emod_eq_of_lt ha h]; exact Int.le_refl _
  · have := Int.emod_lt_of_pos a hb; omega

set_option maxRecDepth 100000 in
set_option maxHeartbeats 2000000 in
theorem historyGoes_fn (keys : List UInt8) (most fr key : Int) (hm : 0 ≤ most ∧ most ≤ 255) (hf : 0 ≤ fr ∧ fr ≤ 255) (hk0 : 0 ≤ key ∧ key ≤ 255) : Fn Try.prog 6 [.sl (keys.map encB), .int .u8 most, .int .u8 fr, .int .u8 key] (.bool true) := by
  refine Fn.mk' base Try.func6 rfl rfl rfl ?_
  repeat' (first
      | (with_reducible refine AW.seq ?_) | (with_reducible refine AW.region base (by kernel_rfl) ?_) | (with_reducible refine AW.cond ?_) | (with_reducible refine AW.block ?_) | (with_reducible refine AW.ret ?_) | (with_reducible refine AW.exit ?_) | (with_reducible refine AW.skip ?_)
      | ((conv => whnf); (first
         | (with_reducible refine Br.t ?_)
         | (with_reducible refine Br.f ?_)
         | ((with_reducible refine Or.inl ?_); (conv => whnf); (with_reducible refine And.intro LitSl.mk ?_))
         | (refine Br.t ?_)
         | (refine Br.f ?_)
         | (with_reducible refine Or.inl ⟨_, known13_fn, ?_⟩)
         | ((with_reducible refine Or.inl ?_); (conv => whnf); (with_reducible refine ⟨_, known13_fn, ?_⟩))
         | (with_reducible refine Br.mk (fun hb => ?_) (fun hb => ?_) <;> (try rw [hb]) <;> (try simp only [List.length_map, decide_eq_true_eq, decide_eq_false_iff_not, Bool.not_eq_true', Bool.not_eq_false', Int.ofNat_lt, Int.ofNat_le, Int.not_lt, Int.not_le, Int.toNat_natCast] at hb))
         | (with_reducible refine ⟨_, (by first | exact ByteRows.map _ | (repeat (first | exact ByteRows.nil | exact ByteRows.map _ | refine ByteRows.cons ?_ | refine ByteRows.app ?_ ?_))), ?_⟩)
         | (refine Exists.intro _ (And.intro (ByteRows.rep _) ?_))
         | (refine Exists.intro _ (And.intro (ByteRows.app (ByteRows.map _) (ByteRows.cons ByteRows.nil)) ?_))
         | ((with_reducible refine Or.inl (And.intro ?_ ?_)); (focus (first | with_reducible rfl | exact trivial | (exact ⟨rfl, trivial⟩) | (exact ⟨rfl, rfl, trivial⟩) | omega | (intro r hr; simp only [List.mem_singleton] at hr; subst hr; rfl)  | ((have hx1 := hcu [UInt8.ofNat (IntKind.wrap .u8 (97 + key % 4)).toNat]; have hx2 := hco [UInt8.ofNat (IntKind.wrap .u8 (97 + key % 4)).toNat]; simp only [in64]; omega)) | ((have hx1 := hcu [UInt8.ofNat (IntKind.wrap .u8 (97 + key % 4)).toNat]; have hx2 := hco [UInt8.ofNat (IntKind.wrap .u8 (97 + key % 4)).toNat]; omega)) | ((simp only [in64, List.length_map] at *; omega)) | ((simp only [List.length_map] at *; omega)) | ((refine ⟨by omega, by decide⟩)) | ((rw [wrap_u8 _ (by omega) (by omega)]; simp only [in64]; omega)) | ((simp only [List.length_cons, List.length_nil, maxLen]; omega)) | (simp only [in64]; omega) | assumption | (simp; done) | (simp [V.cells]; done) | (simp [in64, maxLen, limK] at *; omega) | ((show confB _ _ = true); kernel_rfl) | rfl)))
         | ((with_reducible refine And.intro ?_ ?_); (focus (first | with_reducible rfl | exact trivial | (exact ⟨rfl, trivial⟩) | (exact ⟨rfl, rfl, trivial⟩) | omega | (intro r hr; simp only [List.mem_singleton] at hr; subst hr; rfl)  | ((have hx1 := hcu [UInt8.ofNat (IntKind.wrap .u8 (97 + key % 4)).toNat]; have hx2 := hco [UInt8.ofNat (IntKind.wrap .u8 (97 + key % 4)).toNat]; simp only [in64]; omega)) | ((have hx1 := hcu [UInt8.ofNat (IntKind.wrap .u8 (97 + key % 4)).toNat]; have hx2 := hco [UInt8.ofNat (IntKind.wrap .u8 (97 + key % 4)).toNat]; omega)) | ((simp only [in64, List.length_map] at *; omega)) | ((simp only [List.length_map] at *; omega)) | ((refine ⟨by omega, by decide⟩)) | ((rw [wrap_u8 _ (by omega) (by omega)]; simp only [in64]; omega)) | ((simp only [List.length_cons, List.length_nil, maxLen]; omega)) | (simp only [in64]; omega) | assumption | (simp; done) | (simp [V.cells]; done) | (simp [in64, maxLen, limK] at *; omega) | ((show confB _ _ = true); kernel_rfl) | rfl)))
         | (intro row hrow; (try simp only [Int.toNat_natCast, List.length_map, toNat_pred, toNat_succ', toNat_zero', toNat_one'] at hrow); (first | (have hsm := same_map (by assumption) hrow; subst hsm; clear hrow) | (obtain ⟨p, hp, rfl⟩ := of_map hrow; clear hrow)))
         | (with_reducible refine AW.seq ?_) | (with_reducible refine AW.region base (by kernel_rfl) ?_) | (with_reducible refine AW.cond ?_) | (with_reducible refine AW.block ?_) | (with_reducible refine AW.ret ?_) | (with_reducible refine AW.exit ?_) | (with_reducible refine AW.skip ?_))))
  all_goals try ((conv => whnf); first | rfl | done)
  refine AW.nilS 9 rfl ?_
  refine AW.nilS 10 rfl ?_
  refine AW.loop (fun (⟨i, l, c⟩ : Nat × List Evt × List Cel) => i ≤ keys.length ∧ keys.length ≤ 40 ∧ Hist l c ∧ Most c i ∧ (l.length : Int) ≤ most % 20 + 1 ∧ c.length ≤ i) (fun (⟨i, l, c⟩ : Nat × List Evt × List Cel) => ⟨[(0, .sl (keys.map encB)), (1, .int .u8 most), (2, .int .u8 fr), (3, .int .u8 key), (9, .sl (l.map encE)), (10, .sl (c.map encC)), (11, .int .i64 (i : Int))], []⟩) (fun (⟨i, l, c⟩ : Nat × List Evt × List Cel) => keys.length - i) (0, [], []) ?_ ?_ ?_
  · (refine ⟨Nat.zero_le _, by omega, Hist.nil, (fun z hz => by simp at hz), by simp; omega, by simp⟩)
  · (refine ⟨⟨[], ?_⟩⟩; repeat' (first | (with_reducible rfl) | exact trivial | ((conv => whnf); (first | (with_reducible refine And.intro ?_ ?_) | (first | with_reducible rfl | (refine congrArg V.str ?_; (first | with_reducible rfl | omega | rfl | (simp; done))) | (refine congrArg (V.int _) ?_; (first | with_reducible rfl | omega | rfl | (simp; done))) | (refine congrArg V.bool ?_; (first | with_reducible rfl | omega | rfl | (simp; done))) | (refine congrArg V.sl ?_; (first | with_reducible rfl | omega | rfl | (simp; done))) | (first | with_reducible rfl | omega | rfl | (simp; done)) | rfl)))))
  · rintro ⟨i, l, c⟩ hk
    obtain ⟨hk1, hk2, hH, hM, hk5, hk6⟩ := hk
    have hco : ∀ k, 0 ≤ (cellOf c k).n := co_nn hH
    have hcu : ∀ k, (cellOf c k).n < 1000000000000 := fun k => by have := hM.cellOf (by omega) k; omega
    have hcl : c.length ≤ 1000000 := by omega
    have hwl : ∀ y, (withC c y).length ≤ 1000000 := fun y => by have := withC_len y c; omega
    have hcm : ∀ k, (cellOf c k).n ≤ 40 := fun k => by have := hM.cellOf (by omega) k; omega
    rcases (by omega : i = keys.length ∨ i < keys.length) with hi | hi
    · subst hi
      repeat' (first
          | (with_reducible refine AW.seq ?_) | (with_reducible refine AW.region base (by kernel_rfl) ?_) | (with_reducible refine AW.cond ?_) | (with_reducible refine AW.block ?_) | (with_reducible refine AW.ret ?_) | (with_reducible refine AW.exit ?_) | (with_reducible refine AW.skip ?_)
          | ((conv => whnf); (first
             | (with_reducible refine Br.t ?_)
             | (with_reducible refine Br.f ?_)
             | ((with_reducible refine Or.inl ?_); (conv => whnf); (with_reducible refine And.intro LitSl.mk ?_))
             | (refine Br.t ?_)
             | (refine Br.f ?_)
             | (refine Exists.intro _ (And.intro (ByteRows.cons ByteRows.nil) ?_))
             | (with_reducible refine Br.mk (fun hb => ?_) (fun hb => (by exfalso; (first | (simp at hb; done) | omega | (simp only [List.length_map] at hb; omega) | (simp only [List.length_map, keepE_length] at hb; omega) | (exact absurd ((not_tt hb).symm.trans (histB_iff.2 (put_step hH hkey1 hw1 (hcu _) _))) Bool.false_ne_true) | (exact absurd (hb.symm.trans (histB_iff.2 (put_step hH hkey1 hw1 (hcu _) _))) Bool.false_ne_true) | (simp only [List.length_map, keepE_length, decide_eq_true_eq, decide_eq_false_iff_not] at hb; omega) | fail))))
             | (with_reducible refine Br.mk (fun hb => (by exfalso; (first | (simp at hb; done) | omega | (simp only [List.length_map] at hb; omega) | (simp only [List.length_map, keepE_length] at hb; omega) | (exact absurd ((not_tt hb).symm.trans (histB_iff.2 (put_step hH hkey1 hw1 (hcu _) _))) Bool.false_ne_true) | (exact absurd (hb.symm.trans (histB_iff.2 (put_step hH hkey1 hw1 (hcu _) _))) Bool.false_ne_true) | (simp only [List.length_map, keepE_length, decide_eq_true_eq, decide_eq_false_iff_not] at hb; omega) | fail))) (fun hb => ?_))
             | (with_reducible refine Or.inl ⟨_, known13_fn, ?_⟩)
             | ((with_reducible refine Or.inl ?_); (conv => whnf); (with_reducible refine ⟨_, known13_fn, ?_⟩))
             | (with_reducible refine Or.inl ⟨_, getr_fn c _, ?_⟩)
             | ((with_reducible refine Or.inl ?_); (conv => whnf); (with_reducible refine ⟨_, getr_fn c _, ?_⟩))
             | (with_reducible refine Or.inl ⟨_, putr_ok _ _ _ _ _ _ hw1 (hcu _) (hco _), ?_⟩)
             | ((with_reducible refine Or.inl ?_); (conv => whnf); (with_reducible refine ⟨_, putr_ok _ _ _ _ _ _ hw1 (hcu _) (hco _), ?_⟩))
             | (with_reducible refine Or.inl ⟨_, with_fn c _ _ _ _ _ hcl, ?_⟩)
             | ((with_reducible refine Or.inl ?_); (conv => whnf); (with_reducible refine ⟨_, with_fn c _ _ _ _ _ hcl, ?_⟩))
             | (with_reducible refine Or.inl ⟨_, add_fn2 l _ _ _ _ _ _ (by omega) (hwl _) (by simp only [in64]; omega), ?_⟩)
             | ((with_reducible refine Or.inl ?_); (conv => whnf); (with_reducible refine ⟨_, add_fn2 l _ _ _ _ _ _ (by omega) (hwl _) (by simp only [in64]; omega), ?_⟩))
             | (with_reducible refine Or.inl ⟨_, histIs_fn _ _, ?_⟩)
             | ((with_reducible refine Or.inl ?_); (conv => whnf); (with_reducible refine ⟨_, histIs_fn _ _, ?_⟩))
             | (refine Or.inl ⟨_, after_fn1 l c [UInt8.ofNat (IntKind.wrap .u8 (97 + key % 4)).toNat] (fr % (max 0 (cellOf c [UInt8.ofNat (IntKind.wrap .u8 (97 + key % 4)).toNat]).n + 1)) (by omega) hcl hH hkey1 hkey7 (Int.emod_nonneg _ (by have := hco [UInt8.ofNat (IntKind.wrap .u8 (97 + key % 4)).toNat]; omega)), ?_⟩)
             | ((with_reducible refine Or.inl ?_); (conv => whnf); (refine ⟨_, after_fn1 l c [UInt8.ofNat (IntKind.wrap .u8 (97 + key % 4)).toNat] (fr % (max 0 (cellOf c [UInt8.ofNat (IntKind.wrap .u8 (97 + key % 4)).toNat]).n + 1)) (by omega) hcl hH hkey1 hkey7 (Int.emod_nonneg _ (by have := hco [UInt8.ofNat (IntKind.wrap .u8 (97 + key % 4)).toNat]; omega)), ?_⟩))
             | (with_reducible refine Br.mk (fun hb => ?_) (fun hb => ?_) <;> (try rw [hb]) <;> (try simp only [List.length_map, decide_eq_true_eq, decide_eq_false_iff_not, Bool.not_eq_true', Bool.not_eq_false', Int.ofNat_lt, Int.ofNat_le, Int.not_lt, Int.not_le, Int.toNat_natCast] at hb))
             | (with_reducible refine ⟨_, (by first | exact ByteRows.map _ | (repeat (first | exact ByteRows.nil | exact ByteRows.map _ | refine ByteRows.cons ?_ | refine ByteRows.app ?_ ?_))), ?_⟩)
             | (refine Exists.intro _ (And.intro (ByteRows.rep _) ?_))
             | (refine Exists.intro _ (And.intro (ByteRows.app (ByteRows.map _) (ByteRows.cons ByteRows.nil)) ?_))
             | ((with_reducible refine Or.inl (And.intro ?_ ?_)); (focus (first | with_reducible rfl | exact trivial | (exact ⟨rfl, trivial⟩) | (exact ⟨rfl, rfl, trivial⟩) | omega | (intro r hr; simp only [List.mem_singleton] at hr; subst hr; rfl)  | ((have hx1 := hcu [UInt8.ofNat (IntKind.wrap .u8 (97 + key % 4)).toNat]; have hx2 := hco [UInt8.ofNat (IntKind.wrap .u8 (97 + key % 4)).toNat]; simp only [in64]; omega)) | ((have hx1 := hcu [UInt8.ofNat (IntKind.wrap .u8 (97 + key % 4)).toNat]; have hx2 := hco [UInt8.ofNat (IntKind.wrap .u8 (97 + key % 4)).toNat]; omega)) | ((simp only [in64, List.length_map] at *; omega)) | ((simp only [List.length_map] at *; omega)) | ((refine ⟨by omega, by decide⟩)) | ((rw [wrap_u8 _ (by omega) (by omega)]; simp only [in64]; omega)) | ((simp only [List.length_cons, List.length_nil, maxLen]; omega)) | (simp only [in64]; omega) | assumption | (simp; done) | (simp [V.cells]; done) | (simp [in64, maxLen, limK] at *; omega) | ((show confB _ _ = true); kernel_rfl) | rfl)))
             | ((with_reducible refine And.intro ?_ ?_); (focus (first | with_reducible rfl | exact trivial | (exact ⟨rfl, trivial⟩) | (exact ⟨rfl, rfl, trivial⟩) | omega | (intro r hr; simp only [List.mem_singleton] at hr; subst hr; rfl)  | ((have hx1 := hcu [UInt8.ofNat (IntKind.wrap .u8 (97 + key % 4)).toNat]; have hx2 := hco [UInt8.ofNat (IntKind.wrap .u8 (97 + key % 4)).toNat]; simp only [in64]; omega)) | ((have hx1 := hcu [UInt8.ofNat (IntKind.wrap .u8 (97 + key % 4)).toNat]; have hx2 := hco [UInt8.ofNat (IntKind.wrap .u8 (97 + key % 4)).toNat]; omega)) | ((simp only [in64, List.length_map] at *; omega)) | ((simp only [List.length_map] at *; omega)) | ((refine ⟨by omega, by decide⟩)) | ((rw [wrap_u8 _ (by omega) (by omega)]; simp only [in64]; omega)) | ((simp only [List.length_cons, List.length_nil, maxLen]; omega)) | (simp only [in64]; omega) | assumption | (simp; done) | (simp [V.cells]; done) | (simp [in64, maxLen, limK] at *; omega) | ((show confB _ _ = true); kernel_rfl) | rfl)))
             | (intro row hrow; (try simp only [Int.toNat_natCast, List.length_map, toNat_pred, toNat_succ', toNat_zero', toNat_one'] at hrow); (first | (have hsm := same_map (by assumption) hrow; subst hsm; clear hrow) | (obtain ⟨p, hp, rfl⟩ := of_map hrow; clear hrow)))
             | (with_reducible refine AW.seq ?_) | (with_reducible refine AW.region base (by kernel_rfl) ?_) | (with_reducible refine AW.cond ?_) | (with_reducible refine AW.block ?_) | (with_reducible refine AW.ret ?_) | (with_reducible refine AW.exit ?_) | (with_reducible refine AW.skip ?_))))
      all_goals try ((conv => whnf); (refine congrArg V.bool ?_); simp_all; done)
      refine AW.loop (fun (⟨j, kq, x, v, ev⟩ : Nat × Bs × Cel × Int × List Evt) => j ≤ ev.length ∧ ((ev.length : Int) = x.n - v ∧ x.f ≤ v) ∧ (∀ (i : Nat) (e : Evt), ev[i]? = some e → e.k = kq ∧ e.n = v + 1 + i) ∧ 0 ≤ v ∧ v ≤ 255 ∧ ev.length ≤ 1000) (fun (⟨j, kq, x, v, ev⟩ : Nat × Bs × Cel × Int × List Evt) => ⟨[(18, .str kq), (19, .ptr 0 0), (21, .int .i64 v), (22, .sl (ev.map encE)), (24, .int .i64 (j : Int))], [.cells [.str kq, .str x.v, .int .i64 x.n, .bool x.d, .int .i64 x.f]]⟩) (fun (⟨j, kq, x, v, ev⟩ : Nat × Bs × Cel × Int × List Evt) => ev.length - j) (0, [UInt8.ofNat (IntKind.wrap .u8 (97 + key % 4)).toNat], cellOf c [UInt8.ofNat (IntKind.wrap .u8 (97 + key % 4)).toNat], (fr % (max 0 (cellOf c [UInt8.ofNat (IntKind.wrap .u8 (97 + key % 4)).toNat]).n + 1)), (aftE l ⟨[UInt8.ofNat (IntKind.wrap .u8 (97 + key % 4)).toNat], [UInt8.ofNat (IntKind.wrap .u8 (97 + key % 4)).toNat] ++ [0]⟩ [⟨[UInt8.ofNat (IntKind.wrap .u8 (97 + key % 4)).toNat], (fr % (max 0 (cellOf c [UInt8.ofNat (IntKind.wrap .u8 (97 + key % 4)).toNat]).n + 1))⟩] 100)) ?_ ?_ ?_
      · (obtain ⟨q1, q2⟩ := after_one hH hkey1 hkey7 (v := (fr % (max 0 (cellOf c [UInt8.ofNat (IntKind.wrap .u8 (97 + key % 4)).toNat]).n + 1))) (by omega) (by have := hco [UInt8.ofNat (IntKind.wrap .u8 (97 + key % 4)).toNat]; have := Int.emod_lt_of_pos fr (show 0 < max 0 (cellOf c [UInt8.ofNat (IntKind.wrap .u8 (97 + key % 4)).toNat]).n + 1 by omega); omega) (by omega); have hv0 := Int.emod_nonneg fr (show max 0 (cellOf c [UInt8.ofNat (IntKind.wrap .u8 (97 + key % 4)).toNat]).n + 1 ≠ 0 by omega); have hv1 := emod_le fr (max 0 (cellOf c [UInt8.ofNat (IntKind.wrap .u8 (97 + key % 4)).toNat]).n + 1) (by omega) (by omega); exact ⟨Nat.zero_le _, ⟨q1, by omega⟩, q2, hv0, by omega, by have := hcm [UInt8.ofNat (IntKind.wrap .u8 (97 + key % 4)).toNat]; omega⟩)
      · (refine ⟨⟨[18006], ?_⟩⟩; repeat' (first | (with_reducible rfl) | exact trivial | ((conv => whnf); (first | (with_reducible refine And.intro ?_ ?_) | (first | with_reducible rfl | (refine congrArg V.str ?_; (first | with_reducible rfl | omega | rfl | (simp; done))) | (refine congrArg (V.int _) ?_; (first | with_reducible rfl | omega | rfl | (simp; done))) | (refine congrArg V.bool ?_; (first | with_reducible rfl | omega | rfl | (simp; done))) | (refine congrArg V.sl ?_; (first | with_reducible rfl | omega | rfl | (simp; done))) | (first | with_reducible rfl | omega | rfl | (simp; done)) | rfl)))))
      · rintro ⟨j, kq, x, v, ev⟩ hk
        obtain ⟨hj1, hj2, hj3, hj4, hj5, hj6⟩ := hk
        rcases (by omega : j = ev.length ∨ j < ev.length) with hj | hj
        · subst hj
          repeat' (first
              | (with_reducible refine AW.seq ?_) | (with_reducible refine AW.region base (by kernel_rfl) ?_) | (with_reducible refine AW.cond ?_) | (with_reducible refine AW.block ?_) | (with_reducible refine AW.ret ?_) | (with_reducible refine AW.exit ?_) | (with_reducible refine AW.skip ?_)
              | ((conv => whnf); (first
                 | (with_reducible refine Br.t ?_)
                 | (with_reducible refine Br.f ?_)
                 | ((with_reducible refine Or.inl ?_); (conv => whnf); (with_reducible refine And.intro LitSl.mk ?_))
                 | (refine Br.t ?_)
                 | (refine Br.f ?_)
                 | (with_reducible refine Br.mk (fun hb => ?_) (fun hb => (by exfalso; (first | (simp at hb; done) | omega | (simp only [List.length_map] at hb; omega) | (exact hb (by assumption)) | fail))))
                 | (with_reducible refine Br.mk (fun hb => (by exfalso; (first | (simp at hb; done) | omega | (simp only [List.length_map] at hb; omega) | (exact hb (by assumption)) | fail))) (fun hb => ?_))
                 | (with_reducible refine Br.mk (fun hb => ?_) (fun hb => ?_) <;> (try rw [hb]) <;> (try simp only [List.length_map, decide_eq_true_eq, decide_eq_false_iff_not, Bool.not_eq_true', Bool.not_eq_false', Int.ofNat_lt, Int.ofNat_le, Int.not_lt, Int.not_le, Int.toNat_natCast] at hb))
                 | (with_reducible refine ⟨_, (by first | exact ByteRows.map _ | (repeat (first | exact ByteRows.nil | exact ByteRows.map _ | refine ByteRows.cons ?_ | refine ByteRows.app ?_ ?_))), ?_⟩)
                 | (refine Exists.intro _ (And.intro (ByteRows.rep _) ?_))
                 | (refine Exists.intro _ (And.intro (ByteRows.app (ByteRows.map _) (ByteRows.cons ByteRows.nil)) ?_))
                 | ((with_reducible refine Or.inl (And.intro ?_ ?_)); (focus (first | with_reducible rfl | exact trivial | (exact ⟨rfl, trivial⟩) | (exact ⟨rfl, rfl, trivial⟩) | omega | (intro r hr; simp only [List.mem_singleton] at hr; subst hr; rfl)  | ((simp only [in64, List.length_map] at *; omega)) | ((simp only [List.length_map] at *; omega)) | (simp only [in64]; omega) | assumption | (simp; done) | (simp [V.cells]; done) | (simp [in64, maxLen, limK] at *; omega) | ((show confB _ _ = true); kernel_rfl) | rfl)))
                 | ((with_reducible refine And.intro ?_ ?_); (focus (first | with_reducible rfl | exact trivial | (exact ⟨rfl, trivial⟩) | (exact ⟨rfl, rfl, trivial⟩) | omega | (intro r hr; simp only [List.mem_singleton] at hr; subst hr; rfl)  | ((simp only [in64, List.length_map] at *; omega)) | ((simp only [List.length_map] at *; omega)) | (simp only [in64]; omega) | assumption | (simp; done) | (simp [V.cells]; done) | (simp [in64, maxLen, limK] at *; omega) | ((show confB _ _ = true); kernel_rfl) | rfl)))
                 | (intro row hrow; (try simp only [Int.toNat_natCast, List.length_map, toNat_pred, toNat_succ', toNat_zero', toNat_one'] at hrow); (first | (have hsm := same_map (by assumption) hrow; subst hsm; clear hrow) | (obtain ⟨p, hp, rfl⟩ := of_map hrow; clear hrow)))
                 | (with_reducible refine AW.seq ?_) | (with_reducible refine AW.region base (by kernel_rfl) ?_) | (with_reducible refine AW.cond ?_) | (with_reducible refine AW.block ?_) | (with_reducible refine AW.ret ?_) | (with_reducible refine AW.exit ?_) | (with_reducible refine AW.skip ?_))))
          all_goals ((conv => whnf); (first | rfl | ((refine congrArg V.bool ?_); first | rfl | (simp only [List.length_map, decide_eq_true_eq]; omega) | (simp; omega) | (simp at *; omega))))
        obtain ⟨p, hp⟩ : ∃ p, ev[j]? = some p := ⟨_, List.getElem?_eq_getElem hj⟩
        obtain ⟨hp1, hp2⟩ := hj3 j p hp
        repeat' (first
            | (with_reducible refine AW.seq ?_) | (with_reducible refine AW.region base (by kernel_rfl) ?_) | (with_reducible refine AW.cond ?_) | (with_reducible refine AW.block ?_) | (with_reducible refine AW.ret ?_) | (with_reducible refine AW.exit ?_) | (with_reducible refine AW.skip ?_)
            | ((conv => whnf); (first
               | (with_reducible refine Br.t ?_)
               | (with_reducible refine Br.f ?_)
               | ((with_reducible refine Or.inl ?_); (conv => whnf); (with_reducible refine And.intro LitSl.mk ?_))
               | (refine Br.t ?_)
               | (refine Br.f ?_)
               | (with_reducible refine Br.mk (fun hb => ?_) (fun hb => (by exfalso; (first | (simp at hb; done) | omega | (simp only [List.length_map] at hb; omega) | (exact hb (by assumption)) | fail))))
               | (with_reducible refine Br.mk (fun hb => (by exfalso; (first | (simp at hb; done) | omega | (simp only [List.length_map] at hb; omega) | (exact hb (by assumption)) | fail))) (fun hb => ?_))
               | (with_reducible refine Br.mk (fun hb => ?_) (fun hb => ?_) <;> (try rw [hb]) <;> (try simp only [List.length_map, decide_eq_true_eq, decide_eq_false_iff_not, Bool.not_eq_true', Bool.not_eq_false', Int.ofNat_lt, Int.ofNat_le, Int.not_lt, Int.not_le, Int.toNat_natCast] at hb))
               | (with_reducible refine ⟨_, (by first | exact ByteRows.map _ | (repeat (first | exact ByteRows.nil | exact ByteRows.map _ | refine ByteRows.cons ?_ | refine ByteRows.app ?_ ?_))), ?_⟩)
               | (refine Exists.intro _ (And.intro (ByteRows.rep _) ?_))
               | (refine Exists.intro _ (And.intro (ByteRows.app (ByteRows.map _) (ByteRows.cons ByteRows.nil)) ?_))
               | ((with_reducible refine Or.inl (And.intro ?_ ?_)); (focus (first | with_reducible rfl | exact trivial | (exact ⟨rfl, trivial⟩) | (exact ⟨rfl, rfl, trivial⟩) | omega | (intro r hr; simp only [List.mem_singleton] at hr; subst hr; rfl)  | ((simp only [in64, List.length_map] at *; omega)) | ((simp only [List.length_map] at *; omega)) | (simp only [in64]; omega) | assumption | (simp; done) | (simp [V.cells]; done) | (simp [in64, maxLen, limK] at *; omega) | ((show confB _ _ = true); kernel_rfl) | rfl)))
               | ((with_reducible refine And.intro ?_ ?_); (focus (first | with_reducible rfl | exact trivial | (exact ⟨rfl, trivial⟩) | (exact ⟨rfl, rfl, trivial⟩) | omega | (intro r hr; simp only [List.mem_singleton] at hr; subst hr; rfl)  | ((simp only [in64, List.length_map] at *; omega)) | ((simp only [List.length_map] at *; omega)) | (simp only [in64]; omega) | assumption | (simp; done) | (simp [V.cells]; done) | (simp [in64, maxLen, limK] at *; omega) | ((show confB _ _ = true); kernel_rfl) | rfl)))
               | (intro row hrow; (try simp only [Int.toNat_natCast, List.length_map, toNat_pred, toNat_succ', toNat_zero', toNat_one'] at hrow); (first | (have hsm := same_map (by assumption) hrow; subst hsm; clear hrow) | (obtain ⟨p, hp, rfl⟩ := of_map hrow; clear hrow)))
               | (with_reducible refine AW.seq ?_) | (with_reducible refine AW.region base (by kernel_rfl) ?_) | (with_reducible refine AW.cond ?_) | (with_reducible refine AW.block ?_) | (with_reducible refine AW.ret ?_) | (with_reducible refine AW.exit ?_) | (with_reducible refine AW.skip ?_))))
        all_goals (try first | with_reducible assumption | ((show (_ : Int) ≤ _); (first | omega | (simp at *; omega))) | ((show (_ : Nat) ≤ _); (first | omega | (simp at *; omega))) | ((show in64 _); (simp only [in64] at *; (first | omega | (simp at *; omega)))) | ((show (_ : Int) < _); (first | omega | (simp at *; omega))) | ((show ¬ (_ : Int) = _); (first | omega | (simp at *; omega))) | ((with_reducible refine And.intro ?_ ?_) <;> (first | omega | (simp at *; omega))))
        all_goals (first
          | (with_reducible exact absurd rfl (by assumption))
          | ((conv => whnf); (refine ⟨(j + 1, kq, x, v, ev), ?_⟩); (refine And.intro ?_ (And.intro ?_ ?_)); (focus (refine ⟨⟨[0], ?_⟩⟩; repeat' (first | (with_reducible rfl) | exact trivial | ((conv => whnf); (first | (with_reducible refine And.intro ?_ ?_) | (first | with_reducible rfl | (refine congrArg V.str ?_; (first | with_reducible rfl | omega | rfl | (simp; done))) | (refine congrArg (V.int _) ?_; (first | with_reducible rfl | omega | rfl | (simp; done))) | (refine congrArg V.bool ?_; (first | with_reducible rfl | omega | rfl | (simp; done))) | (refine congrArg V.sl ?_; (first | with_reducible rfl | omega | rfl | (simp; done))) | (first | with_reducible rfl | omega | rfl | (simp; done)) | rfl)))))); (focus (exact ⟨by omega, hj2, hj3, hj4, hj5, hj6⟩)); (focus (first | omega | (dsimp only; omega) | (simp; done) | (simp; omega) | (simp at *; omega))))
          | ((conv => whnf); (try (first | rfl | (exfalso; simp_all; done) | (exfalso; simp at *; omega))); done))

    repeat' (first
        | (with_reducible refine AW.seq ?_) | (with_reducible refine AW.region base (by kernel_rfl) ?_) | (with_reducible refine AW.cond ?_) | (with_reducible refine AW.block ?_) | (with_reducible refine AW.ret ?_) | (with_reducible refine AW.exit ?_) | (with_reducible refine AW.skip ?_)
        | ((conv => whnf); (first
           | (with_reducible refine Br.t ?_)
           | (with_reducible refine Br.f ?_)
           | ((with_reducible refine Or.inl ?_); (conv => whnf); (with_reducible refine And.intro LitSl.mk ?_))
           | (refine Br.t ?_)
           | (refine Br.f ?_)
           | (refine Exists.intro _ (And.intro (ByteRows.cons ByteRows.nil) ?_))
           | (with_reducible refine Br.mk (fun hb => ?_) (fun hb => (by exfalso; (first | (simp at hb; done) | omega | (simp only [List.length_map] at hb; omega) | (simp only [List.length_map, keepE_length] at hb; omega) | (exact absurd ((not_tt hb).symm.trans (histB_iff.2 (put_step hH hkey1 hw1 (hcu _) _))) Bool.false_ne_true) | (exact absurd (hb.symm.trans (histB_iff.2 (put_step hH hkey1 hw1 (hcu _) _))) Bool.false_ne_true) | (simp only [List.length_map, keepE_length, decide_eq_true_eq, decide_eq_false_iff_not] at hb; omega) | fail))))
           | (with_reducible refine Br.mk (fun hb => (by exfalso; (first | (simp at hb; done) | omega | (simp only [List.length_map] at hb; omega) | (simp only [List.length_map, keepE_length] at hb; omega) | (exact absurd ((not_tt hb).symm.trans (histB_iff.2 (put_step hH hkey1 hw1 (hcu _) _))) Bool.false_ne_true) | (exact absurd (hb.symm.trans (histB_iff.2 (put_step hH hkey1 hw1 (hcu _) _))) Bool.false_ne_true) | (simp only [List.length_map, keepE_length, decide_eq_true_eq, decide_eq_false_iff_not] at hb; omega) | fail))) (fun hb => ?_))
           | (with_reducible refine Or.inl ⟨_, known13_fn, ?_⟩)
           | ((with_reducible refine Or.inl ?_); (conv => whnf); (with_reducible refine ⟨_, known13_fn, ?_⟩))
           | (with_reducible refine Or.inl ⟨_, getr_fn c _, ?_⟩)
           | ((with_reducible refine Or.inl ?_); (conv => whnf); (with_reducible refine ⟨_, getr_fn c _, ?_⟩))
           | (with_reducible refine Or.inl ⟨_, putr_ok _ _ _ _ _ _ hw1 (hcu _) (hco _), ?_⟩)
           | ((with_reducible refine Or.inl ?_); (conv => whnf); (with_reducible refine ⟨_, putr_ok _ _ _ _ _ _ hw1 (hcu _) (hco _), ?_⟩))
           | (with_reducible refine Or.inl ⟨_, with_fn c _ _ _ _ _ hcl, ?_⟩)
           | ((with_reducible refine Or.inl ?_); (conv => whnf); (with_reducible refine ⟨_, with_fn c _ _ _ _ _ hcl, ?_⟩))
           | (with_reducible refine Or.inl ⟨_, add_fn2 l _ _ _ _ _ _ (by omega) (hwl _) (by simp only [in64]; omega), ?_⟩)
           | ((with_reducible refine Or.inl ?_); (conv => whnf); (with_reducible refine ⟨_, add_fn2 l _ _ _ _ _ _ (by omega) (hwl _) (by simp only [in64]; omega), ?_⟩))
           | (with_reducible refine Or.inl ⟨_, histIs_fn _ _, ?_⟩)
           | ((with_reducible refine Or.inl ?_); (conv => whnf); (with_reducible refine ⟨_, histIs_fn _ _, ?_⟩))
           | (refine Or.inl ⟨_, after_fn1 l c [UInt8.ofNat (IntKind.wrap .u8 (97 + key % 4)).toNat] (fr % (max 0 (cellOf c [UInt8.ofNat (IntKind.wrap .u8 (97 + key % 4)).toNat]).n + 1)) (by omega) hcl hH hkey1 hkey7 (Int.emod_nonneg _ (by have := hco [UInt8.ofNat (IntKind.wrap .u8 (97 + key % 4)).toNat]; omega)), ?_⟩)
           | ((with_reducible refine Or.inl ?_); (conv => whnf); (refine ⟨_, after_fn1 l c [UInt8.ofNat (IntKind.wrap .u8 (97 + key % 4)).toNat] (fr % (max 0 (cellOf c [UInt8.ofNat (IntKind.wrap .u8 (97 + key % 4)).toNat]).n + 1)) (by omega) hcl hH hkey1 hkey7 (Int.emod_nonneg _ (by have := hco [UInt8.ofNat (IntKind.wrap .u8 (97 + key % 4)).toNat]; omega)), ?_⟩))
           | (with_reducible refine Br.mk (fun hb => ?_) (fun hb => ?_) <;> (try rw [hb]) <;> (try simp only [List.length_map, decide_eq_true_eq, decide_eq_false_iff_not, Bool.not_eq_true', Bool.not_eq_false', Int.ofNat_lt, Int.ofNat_le, Int.not_lt, Int.not_le, Int.toNat_natCast] at hb))
           | (with_reducible refine ⟨_, (by first | exact ByteRows.map _ | (repeat (first | exact ByteRows.nil | exact ByteRows.map _ | refine ByteRows.cons ?_ | refine ByteRows.app ?_ ?_))), ?_⟩)
           | (refine Exists.intro _ (And.intro (ByteRows.rep _) ?_))
           | (refine Exists.intro _ (And.intro (ByteRows.app (ByteRows.map _) (ByteRows.cons ByteRows.nil)) ?_))
           | ((with_reducible refine Or.inl (And.intro ?_ ?_)); (focus (first | with_reducible rfl | exact trivial | (exact ⟨rfl, trivial⟩) | (exact ⟨rfl, rfl, trivial⟩) | omega | (intro r hr; simp only [List.mem_singleton] at hr; subst hr; rfl)  | ((have hx1 := hcu [UInt8.ofNat (IntKind.wrap .u8 (97 + key % 4)).toNat]; have hx2 := hco [UInt8.ofNat (IntKind.wrap .u8 (97 + key % 4)).toNat]; simp only [in64]; omega)) | ((have hx1 := hcu [UInt8.ofNat (IntKind.wrap .u8 (97 + key % 4)).toNat]; have hx2 := hco [UInt8.ofNat (IntKind.wrap .u8 (97 + key % 4)).toNat]; omega)) | ((simp only [in64, List.length_map] at *; omega)) | ((simp only [List.length_map] at *; omega)) | ((refine ⟨by omega, by decide⟩)) | ((rw [wrap_u8 _ (by omega) (by omega)]; simp only [in64]; omega)) | ((simp only [List.length_cons, List.length_nil, maxLen]; omega)) | (simp only [in64]; omega) | assumption | (simp; done) | (simp [V.cells]; done) | (simp [in64, maxLen, limK] at *; omega) | ((show confB _ _ = true); kernel_rfl) | rfl)))
           | ((with_reducible refine And.intro ?_ ?_); (focus (first | with_reducible rfl | exact trivial | (exact ⟨rfl, trivial⟩) | (exact ⟨rfl, rfl, trivial⟩) | omega | (intro r hr; simp only [List.mem_singleton] at hr; subst hr; rfl)  | ((have hx1 := hcu [UInt8.ofNat (IntKind.wrap .u8 (97 + key % 4)).toNat]; have hx2 := hco [UInt8.ofNat (IntKind.wrap .u8 (97 + key % 4)).toNat]; simp only [in64]; omega)) | ((have hx1 := hcu [UInt8.ofNat (IntKind.wrap .u8 (97 + key % 4)).toNat]; have hx2 := hco [UInt8.ofNat (IntKind.wrap .u8 (97 + key % 4)).toNat]; omega)) | ((simp only [in64, List.length_map] at *; omega)) | ((simp only [List.length_map] at *; omega)) | ((refine ⟨by omega, by decide⟩)) | ((rw [wrap_u8 _ (by omega) (by omega)]; simp only [in64]; omega)) | ((simp only [List.length_cons, List.length_nil, maxLen]; omega)) | (simp only [in64]; omega) | assumption | (simp; done) | (simp [V.cells]; done) | (simp [in64, maxLen, limK] at *; omega) | ((show confB _ _ = true); kernel_rfl) | rfl)))
           | (intro row hrow; (try simp only [Int.toNat_natCast, List.length_map, toNat_pred, toNat_succ', toNat_zero', toNat_one'] at hrow); (first | (have hsm := same_map (by assumption) hrow; subst hsm; clear hrow) | (obtain ⟨p, hp, rfl⟩ := of_map hrow; clear hrow)))
           | (with_reducible refine AW.seq ?_) | (with_reducible refine AW.region base (by kernel_rfl) ?_) | (with_reducible refine AW.cond ?_) | (with_reducible refine AW.block ?_) | (with_reducible refine AW.ret ?_) | (with_reducible refine AW.exit ?_) | (with_reducible refine AW.skip ?_))))
    all_goals (try first | with_reducible assumption | ((show (_ : Int) ≤ _); (first | omega | (simp at *; omega))) | ((show (_ : Nat) ≤ _); (first | omega | (simp at *; omega))) | ((show in64 _); (simp only [in64] at *; (first | omega | (simp at *; omega)))) | ((show (_ : Int) < _); (first | omega | (simp at *; omega))) | ((show ¬ (_ : Int) = _); (first | omega | (simp at *; omega))) | ((with_reducible refine And.intro ?_ ?_) <;> (first | omega | (simp at *; omega))))
    all_goals (first
      | (with_reducible exact absurd rfl (by assumption))
      | ((conv => whnf); (refine ⟨(i + 1, ?_, ?_), ?_⟩); (rotate_left 2); (refine And.intro ?_ (And.intro ?_ ?_)); (focus (refine ⟨⟨[], ?_⟩⟩; repeat' (first | (with_reducible rfl) | exact trivial | ((conv => whnf); (first | (with_reducible refine And.intro ?_ ?_) | (first | with_reducible rfl | (refine congrArg V.str ?_; (first | with_reducible rfl | omega | rfl | (simp; done))) | (refine congrArg (V.int _) ?_; (first | with_reducible rfl | omega | rfl | (simp; done))) | (refine congrArg V.bool ?_; (first | with_reducible rfl | omega | rfl | (simp; done))) | (refine congrArg V.sl ?_; (first | with_reducible rfl | omega | rfl | (simp; done))) | (first | with_reducible rfl | omega | rfl | (simp; done)) | rfl)))))); (focus (refine ⟨by omega, by omega, put_step hH hkey1 hw1 (hcu _) _, most_step hM (by omega) _ _ _, ?_, ?_⟩; (focus (rw [keepE_length]; omega)); (focus (rw [keepC_len]; exact Nat.le_trans (withC_len _ _) (by omega))))); (focus (first | omega | (dsimp only; omega) | (simp; done) | (simp; omega) | (simp at *; omega))))
      | ((conv => whnf); (try (first | rfl | (exfalso; simp_all; done) | (exfalso; simp at *; omega))); done))

end Go.Proofs.Ythcbffejjkmmfaa
