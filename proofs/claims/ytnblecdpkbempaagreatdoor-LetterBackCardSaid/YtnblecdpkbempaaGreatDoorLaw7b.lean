/-
  A law of letters: what is written is read; changed, cut off, with more behind it is not: its walk. No conditions.
-/
import Derived.Test.YtnblecdpkbempaaGreatDoorLaw7k
namespace Go.Proofs.YtnblecdpkbempaaGreatDoor
open Go.RowKit
set_option linter.unusedSimpArgs false
set_option linter.unusedVariables false

theorem byteRows_set (l : Bs) (i : Nat) (n : Int) (h0 : 0 ≤ n) (h1 : n ≤ 255) : ByteRows ((l.map encB).set i [.int .u8 n]) (l.set i (UInt8.ofNat n.toNat)) := by
  have e : (l.map encB).set i [.int .u8 n] = (l.set i (UInt8.ofNat n.toNat)).map encB := by
    rw [List.map_set]
    congr 1
    simp only [encB, UInt8.toNat_ofNat']
    congr 2
    omega
  rw [e]; exact ByteRows.map _
/-- one byte changed -/
def flip (s : Bs) (i : Nat) (n : Nat) : Bs := s.set i (UInt8.ofNat n)
theorem letB_ws {l : LetV} (h : letB l = true) : l.op.ws.length ≤ 1000000 ∧ l.an.rows.length ≤ 1000000 := by
  have ok := letOk h
  constructor
  · by_cases hk : l.kind = 1
    · have := (op_bounds (ok.op hk)).2.2.2.1; omega
    · rw [ok.op0 hk]; simp [zeroO]
  · by_cases hk : l.kind = 2
    · have := (an_bounds (ok.an hk)).2.2.2.1; omega
    · rw [ok.an0 hk]; simp [zeroA]
theorem xor_lt8 {a b : Nat} (h : a < 256) (k : b < 256) : a ^^^ b < 256 := Nat.xor_lt_two_pow (n := 8) (by simpa using h) (by simpa using k)
theorem flip_same {s : Bs} {i : Nat} {p : UInt8} (hp : s[i]? = some p) : flip s i (p.toNat ^^^ 0) = s := by
  unfold flip
  obtain ⟨h1, rfl⟩ := List.getElem?_eq_some_iff.1 hp
  rw [Nat.xor_zero]
  simp
theorem flip_ne {s : Bs} {i n : Nat} {p : UInt8} (hp : s[i]? = some p) (hn : ¬ n = 0) (hn2 : n < 256) : ¬ flip s i (p.toNat ^^^ n) = s := by
  intro h
  have h1 := congrArg (fun l : Bs => l[i]?) h
  simp only [flip] at h1
  obtain ⟨hi, rfl⟩ := List.getElem?_eq_some_iff.1 hp
  rw [List.getElem?_set_self (by simpa using hi), List.getElem?_eq_getElem hi] at h1
  have h2 := congrArg UInt8.toNat (Option.some.inj h1)
  have hx := xor_lt8 (UInt8.toNat_lt (s[i])) hn2
  simp only [UInt8.toNat_ofNat'] at h2
  rw [Nat.mod_eq_of_lt (by simpa using hx)] at h2
  have h3 : s[i].toNat ^^^ (s[i].toNat ^^^ n) = s[i].toNat ^^^ s[i].toNat := by rw [h2]
  rw [← Nat.xor_assoc, Nat.xor_self, Nat.zero_xor] at h3
  exact hn h3

set_option maxRecDepth 100000 in
set_option maxHeartbeats 400000 in
theorem letterBack_no (a b : LetV) (n2 n3 : Int) (more : Bs) (hI : Fn Tryz.prog 20 [.agg (encL a)] (.bool false)) : Fn Tryz.prog 5 [.agg (encL a), .agg (encL b), .int .u16 n2, .int .u8 n3, .str more] (.bool true) := by
  refine Fn.mk' base Tryz.func5 rfl rfl rfl ?_
  repeat' ((conv => whnf); (first
   | (with_reducible first | refine AW.seq ?_ | refine AW.region base (by kernel_rfl) ?_ | refine AW.cond ?_ | refine AW.block ?_ | refine AW.ret ?_ | refine AW.exit ?_ | refine AW.skip ?_ | refine Br.t ?_ | refine Br.f ?_)
   | ((with_reducible refine Or.inl ?_); (conv => whnf); (with_reducible refine And.intro LitSl.mk ?_))
   | refine Br.t ?_
   | refine Br.f ?_
   | ((with_reducible refine Or.inl ?_); (conv => whnf); (first | (with_reducible first | refine ⟨_, known7_fn, ?_⟩ | refine ⟨_, few7_fn a, ?_⟩ | refine ⟨_, few7_fn b, ?_⟩ | refine ⟨_, hI, ?_⟩)))
   | (with_reducible refine Br.mk (fun hb => ?_) (fun hb => ?_) <;> (try rw [hb]) <;> (try simp only [List.length_map, decide_eq_true_eq, decide_eq_false_iff_not, Bool.not_eq_true', Bool.not_eq_false', Int.ofNat_lt, Int.ofNat_le, Int.not_lt, Int.not_le, Int.toNat_natCast] at hb))
   | ((with_reducible first | refine Or.inl (And.intro ?_ ?_) | refine And.intro ?_ ?_); (focus (first | with_reducible rfl | exact trivial | (exact ⟨rfl, trivial⟩) | (exact ⟨rfl, rfl, trivial⟩) | omega | (intro r hr; simp only [List.mem_singleton] at hr; subst hr; rfl)  | ((simp only [in64, maxLen] at *; omega)) | ((simp only [List.length_append, maxLen] at *; omega)) | ((simp only [List.length_map] at *; omega)) | ((exact ⟨by omega, by omega⟩)) | ((exact ⟨by omega, rfl, by decide⟩)) | ((have := UInt8.toNat_lt p; simp only [limK]; omega)) | (simp only [in64]; omega) | assumption | (simp; done) | (simp [V.cells]; done) | (simp [in64, maxLen, limK] at *; omega) | ((show confB _ _ = true); kernel_rfl) | rfl)))
   | (intro row hrow; (try simp only [Int.toNat_natCast, List.length_map, toNat_pred, toNat_succ', toNat_zero', toNat_one'] at hrow); (first | (have hsm := same_map (by assumption) hrow; subst hsm; clear hrow) | (obtain ⟨p, hp, rfl⟩ := of_map hrow; clear hrow)))))
  all_goals (conv => whnf)
  all_goals (first | rfl | (simp only [V.bool.injEq, V.tup.injEq, V.agg.injEq, V.str.injEq, V.int.injEq, V.sl.injEq, V.ifc.injEq, List.cons.injEq, and_true, true_and, and_self]; done) | (simp only [V.bool.injEq, V.tup.injEq, V.agg.injEq, V.str.injEq, V.int.injEq, V.sl.injEq, V.ifc.injEq, List.cons.injEq, and_true, true_and, and_self]; grind) | (simp  at *; done) | (simp  at *; grind))

set_option maxRecDepth 100000 in
set_option maxHeartbeats 2000000 in
theorem letterBack_1 (a b y z lm : LetV) (n2 n3 : Int) (more bb : Bs) (p : UInt8) (rb2 cb2 : Bool) (rc rc2 cc cc2 : Int) (g2 : 0 ≤ n2 ∧ n2 ≤ 65535) (g3 : 0 ≤ n3 ∧ n3 ≤ 255) (hlen : (bytesL a).length ≤ 12300 ∧ 5 ≤ (bytesL a).length) (hp : (bytesL a)[(n2 % ((bytesL a).length : Int)).toNat]? = some p)
  (hI : Fn Tryz.prog 20 [.agg (encL a)] (.bool true)) (hB : Fn Tryz.prog 21 [.agg (encL a)] (.str (bytesL a))) (hR : Fn Tryz.prog 22 [.str (bytesL a)] (.tup [.agg (encL a), noErr])) (hS : Fn Tryz.prog 23 [.agg (encL a), .agg (encL a)] (.bool true))
  (hT : Fn Tryz.prog 22 [.str (flip (bytesL a) (n2 % ((bytesL a).length : Int)).toNat (p.toNat ^^^ n3.toNat))] (.tup [.agg (encL y), errT false rb2 rc rc2]))
  (hC : Fn Tryz.prog 22 [.str (List.drop 0 (List.take (n2 % ((bytesL a).length : Int)).toNat (bytesL a)))] (.tup [.agg (encL z), errT false cb2 cc cc2]))
  (hM : Fn Tryz.prog 22 [.str (bytesL a ++ more)] (.tup [.agg (encL lm), errT (decide (more = [])) false 0 10]))
  (hIb : Fn Tryz.prog 20 [.agg (encL b)] (.bool true)) (hBb : Fn Tryz.prog 21 [.agg (encL b)] (.str bb)) (hSab : Fn Tryz.prog 23 [.agg (encL a), .agg (encL b)] (.bool (decide (bb = bytesL a))))
  (hz : ¬ n3 = 0)  : Fn Tryz.prog 5 [.agg (encL a), .agg (encL b), .int .u16 n2, .int .u8 n3, .str more] (.bool true) := by
  refine Fn.mk' base Tryz.func5 rfl rfl rfl ?_
  have hk0 : 0 ≤ (n2 % ((bytesL a).length : Int)) := Int.emod_nonneg _ (by omega)
  have hk1 : (n2 % ((bytesL a).length : Int)) < ((bytesL a).length : Int) := Int.emod_lt_of_pos _ (by omega)
  have hBR : ∀ (r : List (List V)), r = ((bytesL a).map encB).set (n2 % ((bytesL a).length : Int)).toNat [.int .u8 (((p.toNat ^^^ n3.toNat : Nat)) : Int)] → ByteRows r (flip (bytesL a) (n2 % ((bytesL a).length : Int)).toNat (p.toNat ^^^ n3.toNat)) := fun r hr => by
    subst hr
    have hx := xor_lt8 (UInt8.toNat_lt p) (show n3.toNat < 256 by omega)
    exact byteRows_set (bytesL a) _ _ (by omega) (by omega)
  repeat' ((conv => whnf); (first
   | (with_reducible first | refine AW.seq ?_ | refine AW.region base (by kernel_rfl) ?_ | refine AW.cond ?_ | refine AW.block ?_ | refine AW.ret ?_ | refine AW.exit ?_ | refine AW.skip ?_ | refine Br.t ?_ | refine Br.f ?_)
   | (refine Exists.intro _ (And.intro (hBR _ rfl) ?_))
   | (with_reducible refine Br.mkT (fun hb => (by (first | omega | (simp at hb; done) | (simp only [decide_eq_true_eq, decide_eq_false_iff_not, Bool.not_eq_true', Bool.not_eq_false'] at hb; first | omega | exact absurd hb hz | fail) | fail))) (fun hb => ?_))
   | (with_reducible refine Br.mkF (fun hb => (by (first | omega | (simp at hb; done) | (simp only [decide_eq_true_eq, decide_eq_false_iff_not, Bool.not_eq_true', Bool.not_eq_false'] at hb; first | omega | exact absurd hb hz | fail) | fail))) (fun hb => ?_))
   | ((with_reducible refine Or.inl ?_); (conv => whnf); (with_reducible refine And.intro LitSl.mk ?_))
   | refine Br.t ?_
   | refine Br.f ?_
   | ((with_reducible refine Or.inl ?_); (conv => whnf); (first | (with_reducible first | refine ⟨_, known7_fn, ?_⟩ | refine ⟨_, few7_fn a, ?_⟩ | refine ⟨_, few7_fn b, ?_⟩ | refine ⟨_, hI, ?_⟩ | refine ⟨_, hB, ?_⟩ | refine ⟨_, hR, ?_⟩ | refine ⟨_, hS, ?_⟩ | refine ⟨_, hC, ?_⟩ | refine ⟨_, hM, ?_⟩ | refine ⟨_, hIb, ?_⟩ | refine ⟨_, hBb, ?_⟩ | refine ⟨_, hSab, ?_⟩) | refine ⟨_, hT, ?_⟩))
   | (with_reducible refine Br.mk (fun hb => ?_) (fun hb => ?_) <;> (try rw [hb]) <;> (try simp only [List.length_map, decide_eq_true_eq, decide_eq_false_iff_not, Bool.not_eq_true', Bool.not_eq_false', Int.ofNat_lt, Int.ofNat_le, Int.not_lt, Int.not_le, Int.toNat_natCast] at hb))
   | ((with_reducible first | refine Or.inl (And.intro ?_ ?_) | refine And.intro ?_ ?_); (focus (first | with_reducible rfl | exact trivial | (exact ⟨rfl, trivial⟩) | (exact ⟨rfl, rfl, trivial⟩) | omega | (intro r hr; simp only [List.mem_singleton] at hr; subst hr; rfl)  | ((simp only [in64, maxLen] at *; omega)) | ((simp only [List.length_append, maxLen] at *; omega)) | ((simp only [List.length_map] at *; omega)) | ((exact ⟨by omega, by omega⟩)) | ((exact ⟨by omega, rfl, by decide⟩)) | ((have := UInt8.toNat_lt p; simp only [limK]; omega)) | (simp only [in64]; omega) | assumption | (simp; done) | (simp [V.cells]; done) | (simp [in64, maxLen, limK] at *; omega) | ((show confB _ _ = true); kernel_rfl) | rfl)))
   | (intro row hrow; (try simp only [Int.toNat_natCast, List.length_map, toNat_pred, toNat_succ', toNat_zero', toNat_one'] at hrow); (first | (have hsm := same_map (by assumption) hrow; subst hsm; clear hrow) | (obtain ⟨p, hp, rfl⟩ := of_map hrow; clear hrow)))))
  all_goals (conv => whnf)
  all_goals (first | rfl | (simp only [V.bool.injEq, V.tup.injEq, V.agg.injEq, V.str.injEq, V.int.injEq, V.sl.injEq, V.ifc.injEq, List.cons.injEq, and_true, true_and, and_self]; done) | (simp only [V.bool.injEq, V.tup.injEq, V.agg.injEq, V.str.injEq, V.int.injEq, V.sl.injEq, V.ifc.injEq, List.cons.injEq, and_true, true_and, and_self]; grind) | (simp  at *; done) | (simp  at *; grind))

set_option maxRecDepth 100000 in
set_option maxHeartbeats 2000000 in
theorem letterBack_2 (a b y z lm : LetV) (n2 n3 : Int) (more bb : Bs) (p : UInt8) (rb2 cb2 : Bool) (rc rc2 cc cc2 : Int) (g2 : 0 ≤ n2 ∧ n2 ≤ 65535) (g3 : 0 ≤ n3 ∧ n3 ≤ 255) (hlen : (bytesL a).length ≤ 12300 ∧ 5 ≤ (bytesL a).length) (hp : (bytesL a)[(n2 % ((bytesL a).length : Int)).toNat]? = some p)
  (hI : Fn Tryz.prog 20 [.agg (encL a)] (.bool true)) (hB : Fn Tryz.prog 21 [.agg (encL a)] (.str (bytesL a))) (hR : Fn Tryz.prog 22 [.str (bytesL a)] (.tup [.agg (encL a), noErr])) (hS : Fn Tryz.prog 23 [.agg (encL a), .agg (encL a)] (.bool true))
  (hT : Fn Tryz.prog 22 [.str (flip (bytesL a) (n2 % ((bytesL a).length : Int)).toNat (p.toNat ^^^ n3.toNat))] (.tup [.agg (encL y), errT true rb2 rc rc2]))
  (hC : Fn Tryz.prog 22 [.str (List.drop 0 (List.take (n2 % ((bytesL a).length : Int)).toNat (bytesL a)))] (.tup [.agg (encL z), errT false cb2 cc cc2]))
  (hM : Fn Tryz.prog 22 [.str (bytesL a ++ more)] (.tup [.agg (encL lm), errT (decide (more = [])) false 0 10]))
  (hIb : Fn Tryz.prog 20 [.agg (encL b)] (.bool true)) (hBb : Fn Tryz.prog 21 [.agg (encL b)] (.str bb)) (hSab : Fn Tryz.prog 23 [.agg (encL a), .agg (encL b)] (.bool (decide (bb = bytesL a))))
  (hz : n3 = 0) (hSya : Fn Tryz.prog 23 [.agg (encL y), .agg (encL a)] (.bool true)) : Fn Tryz.prog 5 [.agg (encL a), .agg (encL b), .int .u16 n2, .int .u8 n3, .str more] (.bool true) := by
  refine Fn.mk' base Tryz.func5 rfl rfl rfl ?_
  have hk0 : 0 ≤ (n2 % ((bytesL a).length : Int)) := Int.emod_nonneg _ (by omega)
  have hk1 : (n2 % ((bytesL a).length : Int)) < ((bytesL a).length : Int) := Int.emod_lt_of_pos _ (by omega)
  have hBR : ∀ (r : List (List V)), r = ((bytesL a).map encB).set (n2 % ((bytesL a).length : Int)).toNat [.int .u8 (((p.toNat ^^^ n3.toNat : Nat)) : Int)] → ByteRows r (flip (bytesL a) (n2 % ((bytesL a).length : Int)).toNat (p.toNat ^^^ n3.toNat)) := fun r hr => by
    subst hr
    have hx := xor_lt8 (UInt8.toNat_lt p) (show n3.toNat < 256 by omega)
    exact byteRows_set (bytesL a) _ _ (by omega) (by omega)
  repeat' ((conv => whnf); (first
   | (with_reducible first | refine AW.seq ?_ | refine AW.region base (by kernel_rfl) ?_ | refine AW.cond ?_ | refine AW.block ?_ | refine AW.ret ?_ | refine AW.exit ?_ | refine AW.skip ?_ | refine Br.t ?_ | refine Br.f ?_)
   | (refine Exists.intro _ (And.intro (hBR _ rfl) ?_))
   | (with_reducible refine Br.mkT (fun hb => (by (first | omega | (simp at hb; done) | (simp only [decide_eq_true_eq, decide_eq_false_iff_not, Bool.not_eq_true', Bool.not_eq_false'] at hb; first | omega | exact absurd hz hb | fail) | fail))) (fun hb => ?_))
   | (with_reducible refine Br.mkF (fun hb => (by (first | omega | (simp at hb; done) | (simp only [decide_eq_true_eq, decide_eq_false_iff_not, Bool.not_eq_true', Bool.not_eq_false'] at hb; first | omega | exact absurd hz hb | fail) | fail))) (fun hb => ?_))
   | ((with_reducible refine Or.inl ?_); (conv => whnf); (with_reducible refine And.intro LitSl.mk ?_))
   | refine Br.t ?_
   | refine Br.f ?_
   | ((with_reducible refine Or.inl ?_); (conv => whnf); (first | (with_reducible first | refine ⟨_, known7_fn, ?_⟩ | refine ⟨_, few7_fn a, ?_⟩ | refine ⟨_, few7_fn b, ?_⟩ | refine ⟨_, hI, ?_⟩ | refine ⟨_, hB, ?_⟩ | refine ⟨_, hR, ?_⟩ | refine ⟨_, hS, ?_⟩ | refine ⟨_, hC, ?_⟩ | refine ⟨_, hM, ?_⟩ | refine ⟨_, hIb, ?_⟩ | refine ⟨_, hBb, ?_⟩ | refine ⟨_, hSab, ?_⟩ | refine ⟨_, hSya, ?_⟩) | refine ⟨_, hT, ?_⟩))
   | (with_reducible refine Br.mk (fun hb => ?_) (fun hb => ?_) <;> (try rw [hb]) <;> (try simp only [List.length_map, decide_eq_true_eq, decide_eq_false_iff_not, Bool.not_eq_true', Bool.not_eq_false', Int.ofNat_lt, Int.ofNat_le, Int.not_lt, Int.not_le, Int.toNat_natCast] at hb))
   | ((with_reducible first | refine Or.inl (And.intro ?_ ?_) | refine And.intro ?_ ?_); (focus (first | with_reducible rfl | exact trivial | (exact ⟨rfl, trivial⟩) | (exact ⟨rfl, rfl, trivial⟩) | omega | (intro r hr; simp only [List.mem_singleton] at hr; subst hr; rfl)  | ((simp only [in64, maxLen] at *; omega)) | ((simp only [List.length_append, maxLen] at *; omega)) | ((simp only [List.length_map] at *; omega)) | ((exact ⟨by omega, by omega⟩)) | ((exact ⟨by omega, rfl, by decide⟩)) | ((have := UInt8.toNat_lt p; simp only [limK]; omega)) | (simp only [in64]; omega) | assumption | (simp; done) | (simp [V.cells]; done) | (simp [in64, maxLen, limK] at *; omega) | ((show confB _ _ = true); kernel_rfl) | rfl)))
   | (intro row hrow; (try simp only [Int.toNat_natCast, List.length_map, toNat_pred, toNat_succ', toNat_zero', toNat_one'] at hrow); (first | (have hsm := same_map (by assumption) hrow; subst hsm; clear hrow) | (obtain ⟨p, hp, rfl⟩ := of_map hrow; clear hrow)))))
  all_goals (conv => whnf)
  all_goals (first | rfl | (simp only [V.bool.injEq, V.tup.injEq, V.agg.injEq, V.str.injEq, V.int.injEq, V.sl.injEq, V.ifc.injEq, List.cons.injEq, and_true, true_and, and_self]; done) | (simp only [V.bool.injEq, V.tup.injEq, V.agg.injEq, V.str.injEq, V.int.injEq, V.sl.injEq, V.ifc.injEq, List.cons.injEq, and_true, true_and, and_self]; grind) | (simp  at *; done) | (simp  at *; grind))

set_option maxRecDepth 100000 in
set_option maxHeartbeats 2000000 in
theorem letterBack_3 (a b y z lm : LetV) (n2 n3 : Int) (more bb : Bs) (p : UInt8) (rb2 cb2 : Bool) (rc rc2 cc cc2 : Int) (g2 : 0 ≤ n2 ∧ n2 ≤ 65535) (g3 : 0 ≤ n3 ∧ n3 ≤ 255) (hlen : (bytesL a).length ≤ 12300 ∧ 5 ≤ (bytesL a).length) (hp : (bytesL a)[(n2 % ((bytesL a).length : Int)).toNat]? = some p)
  (hI : Fn Tryz.prog 20 [.agg (encL a)] (.bool true)) (hB : Fn Tryz.prog 21 [.agg (encL a)] (.str (bytesL a))) (hR : Fn Tryz.prog 22 [.str (bytesL a)] (.tup [.agg (encL a), noErr])) (hS : Fn Tryz.prog 23 [.agg (encL a), .agg (encL a)] (.bool true))
  (hT : Fn Tryz.prog 22 [.str (flip (bytesL a) (n2 % ((bytesL a).length : Int)).toNat (p.toNat ^^^ n3.toNat))] (.tup [.agg (encL y), errT true rb2 rc rc2]))
  (hC : Fn Tryz.prog 22 [.str (List.drop 0 (List.take (n2 % ((bytesL a).length : Int)).toNat (bytesL a)))] (.tup [.agg (encL z), errT false cb2 cc cc2]))
  (hM : Fn Tryz.prog 22 [.str (bytesL a ++ more)] (.tup [.agg (encL lm), errT (decide (more = [])) false 0 10]))
  (hIb : Fn Tryz.prog 20 [.agg (encL b)] (.bool true)) (hBb : Fn Tryz.prog 21 [.agg (encL b)] (.str bb)) (hSab : Fn Tryz.prog 23 [.agg (encL a), .agg (encL b)] (.bool (decide (bb = bytesL a))))
  (hz : ¬ n3 = 0) (hSya : Fn Tryz.prog 23 [.agg (encL y), .agg (encL a)] (.bool false)) (hBy : Fn Tryz.prog 21 [.agg (encL y)] (.str (flip (bytesL a) (n2 % ((bytesL a).length : Int)).toNat (p.toNat ^^^ n3.toNat)))) : Fn Tryz.prog 5 [.agg (encL a), .agg (encL b), .int .u16 n2, .int .u8 n3, .str more] (.bool true) := by
  refine Fn.mk' base Tryz.func5 rfl rfl rfl ?_
  have hk0 : 0 ≤ (n2 % ((bytesL a).length : Int)) := Int.emod_nonneg _ (by omega)
  have hk1 : (n2 % ((bytesL a).length : Int)) < ((bytesL a).length : Int) := Int.emod_lt_of_pos _ (by omega)
  have hBR : ∀ (r : List (List V)), r = ((bytesL a).map encB).set (n2 % ((bytesL a).length : Int)).toNat [.int .u8 (((p.toNat ^^^ n3.toNat : Nat)) : Int)] → ByteRows r (flip (bytesL a) (n2 % ((bytesL a).length : Int)).toNat (p.toNat ^^^ n3.toNat)) := fun r hr => by
    subst hr
    have hx := xor_lt8 (UInt8.toNat_lt p) (show n3.toNat < 256 by omega)
    exact byteRows_set (bytesL a) _ _ (by omega) (by omega)
  repeat' ((conv => whnf); (first
   | (with_reducible first | refine AW.seq ?_ | refine AW.region base (by kernel_rfl) ?_ | refine AW.cond ?_ | refine AW.block ?_ | refine AW.ret ?_ | refine AW.exit ?_ | refine AW.skip ?_ | refine Br.t ?_ | refine Br.f ?_)
   | (refine Exists.intro _ (And.intro (hBR _ rfl) ?_))
   | (with_reducible refine Br.mkT (fun hb => (by (first | omega | (simp at hb; done) | (simp only [decide_eq_true_eq, decide_eq_false_iff_not, Bool.not_eq_true', Bool.not_eq_false'] at hb; first | omega | exact absurd hb hz | fail) | fail))) (fun hb => ?_))
   | (with_reducible refine Br.mkF (fun hb => (by (first | omega | (simp at hb; done) | (simp only [decide_eq_true_eq, decide_eq_false_iff_not, Bool.not_eq_true', Bool.not_eq_false'] at hb; first | omega | exact absurd hb hz | fail) | fail))) (fun hb => ?_))
   | ((with_reducible refine Or.inl ?_); (conv => whnf); (with_reducible refine And.intro LitSl.mk ?_))
   | refine Br.t ?_
   | refine Br.f ?_
   | ((with_reducible refine Or.inl ?_); (conv => whnf); (first | (with_reducible first | refine ⟨_, known7_fn, ?_⟩ | refine ⟨_, few7_fn a, ?_⟩ | refine ⟨_, few7_fn b, ?_⟩ | refine ⟨_, hI, ?_⟩ | refine ⟨_, hB, ?_⟩ | refine ⟨_, hR, ?_⟩ | refine ⟨_, hS, ?_⟩ | refine ⟨_, hC, ?_⟩ | refine ⟨_, hM, ?_⟩ | refine ⟨_, hIb, ?_⟩ | refine ⟨_, hBb, ?_⟩ | refine ⟨_, hSab, ?_⟩ | refine ⟨_, hSya, ?_⟩) | refine ⟨_, hT, ?_⟩ | refine ⟨_, hBy, ?_⟩))
   | (with_reducible refine Br.mk (fun hb => ?_) (fun hb => ?_) <;> (try rw [hb]) <;> (try simp only [List.length_map, decide_eq_true_eq, decide_eq_false_iff_not, Bool.not_eq_true', Bool.not_eq_false', Int.ofNat_lt, Int.ofNat_le, Int.not_lt, Int.not_le, Int.toNat_natCast] at hb))
   | ((with_reducible first | refine Or.inl (And.intro ?_ ?_) | refine And.intro ?_ ?_); (focus (first | with_reducible rfl | exact trivial | (exact ⟨rfl, trivial⟩) | (exact ⟨rfl, rfl, trivial⟩) | omega | (intro r hr; simp only [List.mem_singleton] at hr; subst hr; rfl)  | ((simp only [in64, maxLen] at *; omega)) | ((simp only [List.length_append, maxLen] at *; omega)) | ((simp only [List.length_map] at *; omega)) | ((exact ⟨by omega, by omega⟩)) | ((exact ⟨by omega, rfl, by decide⟩)) | ((have := UInt8.toNat_lt p; simp only [limK]; omega)) | (simp only [in64]; omega) | assumption | (simp; done) | (simp [V.cells]; done) | (simp [in64, maxLen, limK] at *; omega) | ((show confB _ _ = true); kernel_rfl) | rfl)))
   | (intro row hrow; (try simp only [Int.toNat_natCast, List.length_map, toNat_pred, toNat_succ', toNat_zero', toNat_one'] at hrow); (first | (have hsm := same_map (by assumption) hrow; subst hsm; clear hrow) | (obtain ⟨p, hp, rfl⟩ := of_map hrow; clear hrow)))))
  all_goals (conv => whnf)
  all_goals (first | rfl | (simp only [V.bool.injEq, V.tup.injEq, V.agg.injEq, V.str.injEq, V.int.injEq, V.sl.injEq, V.ifc.injEq, List.cons.injEq, and_true, true_and, and_self]; done) | (simp only [V.bool.injEq, V.tup.injEq, V.agg.injEq, V.str.injEq, V.int.injEq, V.sl.injEq, V.ifc.injEq, List.cons.injEq, and_true, true_and, and_self]; grind) | (simp  at *; done) | (simp  at *; grind))

set_option maxRecDepth 100000 in
set_option maxHeartbeats 2000000 in
theorem letterBack_10 (a b y z lm : LetV) (n2 n3 : Int) (more bb : Bs) (p : UInt8) (rb2 cb2 : Bool) (rc rc2 cc cc2 : Int) (g2 : 0 ≤ n2 ∧ n2 ≤ 65535) (g3 : 0 ≤ n3 ∧ n3 ≤ 255) (hlen : (bytesL a).length ≤ 12300 ∧ 5 ≤ (bytesL a).length) (hp : (bytesL a)[(n2 % ((bytesL a).length : Int)).toNat]? = some p)
  (hI : Fn Tryz.prog 20 [.agg (encL a)] (.bool true)) (hB : Fn Tryz.prog 21 [.agg (encL a)] (.str (bytesL a))) (hR : Fn Tryz.prog 22 [.str (bytesL a)] (.tup [.agg (encL a), noErr])) (hS : Fn Tryz.prog 23 [.agg (encL a), .agg (encL a)] (.bool true))
  (hT : Fn Tryz.prog 22 [.str (flip (bytesL a) (n2 % ((bytesL a).length : Int)).toNat (p.toNat ^^^ n3.toNat))] (.tup [.agg (encL y), errT false rb2 rc rc2]))
  (hC : Fn Tryz.prog 22 [.str (List.drop 0 (List.take (n2 % ((bytesL a).length : Int)).toNat (bytesL a)))] (.tup [.agg (encL z), errT false cb2 cc cc2]))
  (hM : Fn Tryz.prog 22 [.str (bytesL a ++ more)] (.tup [.agg (encL lm), errT (decide (more = [])) false 0 10]))
  (hIb : Fn Tryz.prog 20 [.agg (encL b)] (.bool false)) (hBb : Fn Tryz.prog 21 [.agg (encL b)] (.str bb)) (hSab : Fn Tryz.prog 23 [.agg (encL a), .agg (encL b)] (.bool (decide (bb = bytesL a))))
  (hz : ¬ n3 = 0)  : Fn Tryz.prog 5 [.agg (encL a), .agg (encL b), .int .u16 n2, .int .u8 n3, .str more] (.bool true) := by
  refine Fn.mk' base Tryz.func5 rfl rfl rfl ?_
  have hk0 : 0 ≤ (n2 % ((bytesL a).length : Int)) := Int.emod_nonneg _ (by omega)
  have hk1 : (n2 % ((bytesL a).length : Int)) < ((bytesL a).length : Int) := Int.emod_lt_of_pos _ (by omega)
  have hBR : ∀ (r : List (List V)), r = ((bytesL a).map encB).set (n2 % ((bytesL a).length : Int)).toNat [.int .u8 (((p.toNat ^^^ n3.toNat : Nat)) : Int)] → ByteRows r (flip (bytesL a) (n2 % ((bytesL a).length : Int)).toNat (p.toNat ^^^ n3.toNat)) := fun r hr => by
    subst hr
    have hx := xor_lt8 (UInt8.toNat_lt p) (show n3.toNat < 256 by omega)
    exact byteRows_set (bytesL a) _ _ (by omega) (by omega)
  repeat' ((conv => whnf); (first
   | (with_reducible first | refine AW.seq ?_ | refine AW.region base (by kernel_rfl) ?_ | refine AW.cond ?_ | refine AW.block ?_ | refine AW.ret ?_ | refine AW.exit ?_ | refine AW.skip ?_ | refine Br.t ?_ | refine Br.f ?_)
   | (refine Exists.intro _ (And.intro (hBR _ rfl) ?_))
   | (with_reducible refine Br.mkT (fun hb => (by (first | omega | (simp at hb; done) | (simp only [decide_eq_true_eq, decide_eq_false_iff_not, Bool.not_eq_true', Bool.not_eq_false'] at hb; first | omega | exact absurd hb hz | fail) | fail))) (fun hb => ?_))
   | (with_reducible refine Br.mkF (fun hb => (by (first | omega | (simp at hb; done) | (simp only [decide_eq_true_eq, decide_eq_false_iff_not, Bool.not_eq_true', Bool.not_eq_false'] at hb; first | omega | exact absurd hb hz | fail) | fail))) (fun hb => ?_))
   | ((with_reducible refine Or.inl ?_); (conv => whnf); (with_reducible refine And.intro LitSl.mk ?_))
   | refine Br.t ?_
   | refine Br.f ?_
   | ((with_reducible refine Or.inl ?_); (conv => whnf); (first | (with_reducible first | refine ⟨_, known7_fn, ?_⟩ | refine ⟨_, few7_fn a, ?_⟩ | refine ⟨_, few7_fn b, ?_⟩ | refine ⟨_, hI, ?_⟩ | refine ⟨_, hB, ?_⟩ | refine ⟨_, hR, ?_⟩ | refine ⟨_, hS, ?_⟩ | refine ⟨_, hC, ?_⟩ | refine ⟨_, hM, ?_⟩ | refine ⟨_, hIb, ?_⟩ | refine ⟨_, hBb, ?_⟩ | refine ⟨_, hSab, ?_⟩) | refine ⟨_, hT, ?_⟩))
   | (with_reducible refine Br.mk (fun hb => ?_) (fun hb => ?_) <;> (try rw [hb]) <;> (try simp only [List.length_map, decide_eq_true_eq, decide_eq_false_iff_not, Bool.not_eq_true', Bool.not_eq_false', Int.ofNat_lt, Int.ofNat_le, Int.not_lt, Int.not_le, Int.toNat_natCast] at hb))
   | ((with_reducible first | refine Or.inl (And.intro ?_ ?_) | refine And.intro ?_ ?_); (focus (first | with_reducible rfl | exact trivial | (exact ⟨rfl, trivial⟩) | (exact ⟨rfl, rfl, trivial⟩) | omega | (intro r hr; simp only [List.mem_singleton] at hr; subst hr; rfl)  | ((simp only [in64, maxLen] at *; omega)) | ((simp only [List.length_append, maxLen] at *; omega)) | ((simp only [List.length_map] at *; omega)) | ((exact ⟨by omega, by omega⟩)) | ((exact ⟨by omega, rfl, by decide⟩)) | ((have := UInt8.toNat_lt p; simp only [limK]; omega)) | (simp only [in64]; omega) | assumption | (simp; done) | (simp [V.cells]; done) | (simp [in64, maxLen, limK] at *; omega) | ((show confB _ _ = true); kernel_rfl) | rfl)))
   | (intro row hrow; (try simp only [Int.toNat_natCast, List.length_map, toNat_pred, toNat_succ', toNat_zero', toNat_one'] at hrow); (first | (have hsm := same_map (by assumption) hrow; subst hsm; clear hrow) | (obtain ⟨p, hp, rfl⟩ := of_map hrow; clear hrow)))))
  all_goals (conv => whnf)
  all_goals (first | rfl | (simp only [V.bool.injEq, V.tup.injEq, V.agg.injEq, V.str.injEq, V.int.injEq, V.sl.injEq, V.ifc.injEq, List.cons.injEq, and_true, true_and, and_self]; done) | (simp only [V.bool.injEq, V.tup.injEq, V.agg.injEq, V.str.injEq, V.int.injEq, V.sl.injEq, V.ifc.injEq, List.cons.injEq, and_true, true_and, and_self]; grind) | (simp  at *; done) | (simp  at *; grind))

set_option maxRecDepth 100000 in
set_option maxHeartbeats 2000000 in
theorem letterBack_20 (a b y z lm : LetV) (n2 n3 : Int) (more bb : Bs) (p : UInt8) (rb2 cb2 : Bool) (rc rc2 cc cc2 : Int) (g2 : 0 ≤ n2 ∧ n2 ≤ 65535) (g3 : 0 ≤ n3 ∧ n3 ≤ 255) (hlen : (bytesL a).length ≤ 12300 ∧ 5 ≤ (bytesL a).length) (hp : (bytesL a)[(n2 % ((bytesL a).length : Int)).toNat]? = some p)
  (hI : Fn Tryz.prog 20 [.agg (encL a)] (.bool true)) (hB : Fn Tryz.prog 21 [.agg (encL a)] (.str (bytesL a))) (hR : Fn Tryz.prog 22 [.str (bytesL a)] (.tup [.agg (encL a), noErr])) (hS : Fn Tryz.prog 23 [.agg (encL a), .agg (encL a)] (.bool true))
  (hT : Fn Tryz.prog 22 [.str (flip (bytesL a) (n2 % ((bytesL a).length : Int)).toNat (p.toNat ^^^ n3.toNat))] (.tup [.agg (encL y), errT true rb2 rc rc2]))
  (hC : Fn Tryz.prog 22 [.str (List.drop 0 (List.take (n2 % ((bytesL a).length : Int)).toNat (bytesL a)))] (.tup [.agg (encL z), errT false cb2 cc cc2]))
  (hM : Fn Tryz.prog 22 [.str (bytesL a ++ more)] (.tup [.agg (encL lm), errT (decide (more = [])) false 0 10]))
  (hIb : Fn Tryz.prog 20 [.agg (encL b)] (.bool false)) (hBb : Fn Tryz.prog 21 [.agg (encL b)] (.str bb)) (hSab : Fn Tryz.prog 23 [.agg (encL a), .agg (encL b)] (.bool (decide (bb = bytesL a))))
  (hz : n3 = 0) (hSya : Fn Tryz.prog 23 [.agg (encL y), .agg (encL a)] (.bool true)) : Fn Tryz.prog 5 [.agg (encL a), .agg (encL b), .int .u16 n2, .int .u8 n3, .str more] (.bool true) := by
  refine Fn.mk' base Tryz.func5 rfl rfl rfl ?_
  have hk0 : 0 ≤ (n2 % ((bytesL a).length : Int)) := Int.emod_nonneg _ (by omega)
  have hk1 : (n2 % ((bytesL a).length : Int)) < ((bytesL a).length : Int) := Int.emod_lt_of_pos _ (by omega)
  have hBR : ∀ (r : List (List V)), r = ((bytesL a).map encB).set (n2 % ((bytesL a).length : Int)).toNat [.int .u8 (((p.toNat ^^^ n3.toNat : Nat)) : Int)] → ByteRows r (flip (bytesL a) (n2 % ((bytesL a).length : Int)).toNat (p.toNat ^^^ n3.toNat)) := fun r hr => by
    subst hr
    have hx := xor_lt8 (UInt8.toNat_lt p) (show n3.toNat < 256 by omega)
    exact byteRows_set (bytesL a) _ _ (by omega) (by omega)
  repeat' ((conv => whnf); (first
   | (with_reducible first | refine AW.seq ?_ | refine AW.region base (by kernel_rfl) ?_ | refine AW.cond ?_ | refine AW.block ?_ | refine AW.ret ?_ | refine AW.exit ?_ | refine AW.skip ?_ | refine Br.t ?_ | refine Br.f ?_)
   | (refine Exists.intro _ (And.intro (hBR _ rfl) ?_))
   | (with_reducible refine Br.mkT (fun hb => (by (first | omega | (simp at hb; done) | (simp only [decide_eq_true_eq, decide_eq_false_iff_not, Bool.not_eq_true', Bool.not_eq_false'] at hb; first | omega | exact absurd hz hb | fail) | fail))) (fun hb => ?_))
   | (with_reducible refine Br.mkF (fun hb => (by (first | omega | (simp at hb; done) | (simp only [decide_eq_true_eq, decide_eq_false_iff_not, Bool.not_eq_true', Bool.not_eq_false'] at hb; first | omega | exact absurd hz hb | fail) | fail))) (fun hb => ?_))
   | ((with_reducible refine Or.inl ?_); (conv => whnf); (with_reducible refine And.intro LitSl.mk ?_))
   | refine Br.t ?_
   | refine Br.f ?_
   | ((with_reducible refine Or.inl ?_); (conv => whnf); (first | (with_reducible first | refine ⟨_, known7_fn, ?_⟩ | refine ⟨_, few7_fn a, ?_⟩ | refine ⟨_, few7_fn b, ?_⟩ | refine ⟨_, hI, ?_⟩ | refine ⟨_, hB, ?_⟩ | refine ⟨_, hR, ?_⟩ | refine ⟨_, hS, ?_⟩ | refine ⟨_, hC, ?_⟩ | refine ⟨_, hM, ?_⟩ | refine ⟨_, hIb, ?_⟩ | refine ⟨_, hBb, ?_⟩ | refine ⟨_, hSab, ?_⟩ | refine ⟨_, hSya, ?_⟩) | refine ⟨_, hT, ?_⟩))
   | (with_reducible refine Br.mk (fun hb => ?_) (fun hb => ?_) <;> (try rw [hb]) <;> (try simp only [List.length_map, decide_eq_true_eq, decide_eq_false_iff_not, Bool.not_eq_true', Bool.not_eq_false', Int.ofNat_lt, Int.ofNat_le, Int.not_lt, Int.not_le, Int.toNat_natCast] at hb))
   | ((with_reducible first | refine Or.inl (And.intro ?_ ?_) | refine And.intro ?_ ?_); (focus (first | with_reducible rfl | exact trivial | (exact ⟨rfl, trivial⟩) | (exact ⟨rfl, rfl, trivial⟩) | omega | (intro r hr; simp only [List.mem_singleton] at hr; subst hr; rfl)  | ((simp only [in64, maxLen] at *; omega)) | ((simp only [List.length_append, maxLen] at *; omega)) | ((simp only [List.length_map] at *; omega)) | ((exact ⟨by omega, by omega⟩)) | ((exact ⟨by omega, rfl, by decide⟩)) | ((have := UInt8.toNat_lt p; simp only [limK]; omega)) | (simp only [in64]; omega) | assumption | (simp; done) | (simp [V.cells]; done) | (simp [in64, maxLen, limK] at *; omega) | ((show confB _ _ = true); kernel_rfl) | rfl)))
   | (intro row hrow; (try simp only [Int.toNat_natCast, List.length_map, toNat_pred, toNat_succ', toNat_zero', toNat_one'] at hrow); (first | (have hsm := same_map (by assumption) hrow; subst hsm; clear hrow) | (obtain ⟨p, hp, rfl⟩ := of_map hrow; clear hrow)))))
  all_goals (conv => whnf)
  all_goals (first | rfl | (simp only [V.bool.injEq, V.tup.injEq, V.agg.injEq, V.str.injEq, V.int.injEq, V.sl.injEq, V.ifc.injEq, List.cons.injEq, and_true, true_and, and_self]; done) | (simp only [V.bool.injEq, V.tup.injEq, V.agg.injEq, V.str.injEq, V.int.injEq, V.sl.injEq, V.ifc.injEq, List.cons.injEq, and_true, true_and, and_self]; grind) | (simp  at *; done) | (simp  at *; grind))

set_option maxRecDepth 100000 in
set_option maxHeartbeats 2000000 in
theorem letterBack_30 (a b y z lm : LetV) (n2 n3 : Int) (more bb : Bs) (p : UInt8) (rb2 cb2 : Bool) (rc rc2 cc cc2 : Int) (g2 : 0 ≤ n2 ∧ n2 ≤ 65535) (g3 : 0 ≤ n3 ∧ n3 ≤ 255) (hlen : (bytesL a).length ≤ 12300 ∧ 5 ≤ (bytesL a).length) (hp : (bytesL a)[(n2 % ((bytesL a).length : Int)).toNat]? = some p)
  (hI : Fn Tryz.prog 20 [.agg (encL a)] (.bool true)) (hB : Fn Tryz.prog 21 [.agg (encL a)] (.str (bytesL a))) (hR : Fn Tryz.prog 22 [.str (bytesL a)] (.tup [.agg (encL a), noErr])) (hS : Fn Tryz.prog 23 [.agg (encL a), .agg (encL a)] (.bool true))
  (hT : Fn Tryz.prog 22 [.str (flip (bytesL a) (n2 % ((bytesL a).length : Int)).toNat (p.toNat ^^^ n3.toNat))] (.tup [.agg (encL y), errT true rb2 rc rc2]))
  (hC : Fn Tryz.prog 22 [.str (List.drop 0 (List.take (n2 % ((bytesL a).length : Int)).toNat (bytesL a)))] (.tup [.agg (encL z), errT false cb2 cc cc2]))
  (hM : Fn Tryz.prog 22 [.str (bytesL a ++ more)] (.tup [.agg (encL lm), errT (decide (more = [])) false 0 10]))
  (hIb : Fn Tryz.prog 20 [.agg (encL b)] (.bool false)) (hBb : Fn Tryz.prog 21 [.agg (encL b)] (.str bb)) (hSab : Fn Tryz.prog 23 [.agg (encL a), .agg (encL b)] (.bool (decide (bb = bytesL a))))
  (hz : ¬ n3 = 0) (hSya : Fn Tryz.prog 23 [.agg (encL y), .agg (encL a)] (.bool false)) (hBy : Fn Tryz.prog 21 [.agg (encL y)] (.str (flip (bytesL a) (n2 % ((bytesL a).length : Int)).toNat (p.toNat ^^^ n3.toNat)))) : Fn Tryz.prog 5 [.agg (encL a), .agg (encL b), .int .u16 n2, .int .u8 n3, .str more] (.bool true) := by
  refine Fn.mk' base Tryz.func5 rfl rfl rfl ?_
  have hk0 : 0 ≤ (n2 % ((bytesL a).length : Int)) := Int.emod_nonneg _ (by omega)
  have hk1 : (n2 % ((bytesL a).length : Int)) < ((bytesL a).length : Int) := Int.emod_lt_of_pos _ (by omega)
  have hBR : ∀ (r : List (List V)), r = ((bytesL a).map encB).set (n2 % ((bytesL a).length : Int)).toNat [.int .u8 (((p.toNat ^^^ n3.toNat : Nat)) : Int)] → ByteRows r (flip (bytesL a) (n2 % ((bytesL a).length : Int)).toNat (p.toNat ^^^ n3.toNat)) := fun r hr => by
    subst hr
    have hx := xor_lt8 (UInt8.toNat_lt p) (show n3.toNat < 256 by omega)
    exact byteRows_set (bytesL a) _ _ (by omega) (by omega)
  repeat' ((conv => whnf); (first
   | (with_reducible first | refine AW.seq ?_ | refine AW.region base (by kernel_rfl) ?_ | refine AW.cond ?_ | refine AW.block ?_ | refine AW.ret ?_ | refine AW.exit ?_ | refine AW.skip ?_ | refine Br.t ?_ | refine Br.f ?_)
   | (refine Exists.intro _ (And.intro (hBR _ rfl) ?_))
   | (with_reducible refine Br.mkT (fun hb => (by (first | omega | (simp at hb; done) | (simp only [decide_eq_true_eq, decide_eq_false_iff_not, Bool.not_eq_true', Bool.not_eq_false'] at hb; first | omega | exact absurd hb hz | fail) | fail))) (fun hb => ?_))
   | (with_reducible refine Br.mkF (fun hb => (by (first | omega | (simp at hb; done) | (simp only [decide_eq_true_eq, decide_eq_false_iff_not, Bool.not_eq_true', Bool.not_eq_false'] at hb; first | omega | exact absurd hb hz | fail) | fail))) (fun hb => ?_))
   | ((with_reducible refine Or.inl ?_); (conv => whnf); (with_reducible refine And.intro LitSl.mk ?_))
   | refine Br.t ?_
   | refine Br.f ?_
   | ((with_reducible refine Or.inl ?_); (conv => whnf); (first | (with_reducible first | refine ⟨_, known7_fn, ?_⟩ | refine ⟨_, few7_fn a, ?_⟩ | refine ⟨_, few7_fn b, ?_⟩ | refine ⟨_, hI, ?_⟩ | refine ⟨_, hB, ?_⟩ | refine ⟨_, hR, ?_⟩ | refine ⟨_, hS, ?_⟩ | refine ⟨_, hC, ?_⟩ | refine ⟨_, hM, ?_⟩ | refine ⟨_, hIb, ?_⟩ | refine ⟨_, hBb, ?_⟩ | refine ⟨_, hSab, ?_⟩ | refine ⟨_, hSya, ?_⟩) | refine ⟨_, hT, ?_⟩ | refine ⟨_, hBy, ?_⟩))
   | (with_reducible refine Br.mk (fun hb => ?_) (fun hb => ?_) <;> (try rw [hb]) <;> (try simp only [List.length_map, decide_eq_true_eq, decide_eq_false_iff_not, Bool.not_eq_true', Bool.not_eq_false', Int.ofNat_lt, Int.ofNat_le, Int.not_lt, Int.not_le, Int.toNat_natCast] at hb))
   | ((with_reducible first | refine Or.inl (And.intro ?_ ?_) | refine And.intro ?_ ?_); (focus (first | with_reducible rfl | exact trivial | (exact ⟨rfl, trivial⟩) | (exact ⟨rfl, rfl, trivial⟩) | omega | (intro r hr; simp only [List.mem_singleton] at hr; subst hr; rfl)  | ((simp only [in64, maxLen] at *; omega)) | ((simp only [List.length_append, maxLen] at *; omega)) | ((simp only [List.length_map] at *; omega)) | ((exact ⟨by omega, by omega⟩)) | ((exact ⟨by omega, rfl, by decide⟩)) | ((have := UInt8.toNat_lt p; simp only [limK]; omega)) | (simp only [in64]; omega) | assumption | (simp; done) | (simp [V.cells]; done) | (simp [in64, maxLen, limK] at *; omega) | ((show confB _ _ = true); kernel_rfl) | rfl)))
   | (intro row hrow; (try simp only [Int.toNat_natCast, List.length_map, toNat_pred, toNat_succ', toNat_zero', toNat_one'] at hrow); (first | (have hsm := same_map (by assumption) hrow; subst hsm; clear hrow) | (obtain ⟨p, hp, rfl⟩ := of_map hrow; clear hrow)))))
  all_goals (conv => whnf)
  all_goals (first | rfl | (simp only [V.bool.injEq, V.tup.injEq, V.agg.injEq, V.str.injEq, V.int.injEq, V.sl.injEq, V.ifc.injEq, List.cons.injEq, and_true, true_and, and_self]; done) | (simp only [V.bool.injEq, V.tup.injEq, V.agg.injEq, V.str.injEq, V.int.injEq, V.sl.injEq, V.ifc.injEq, List.cons.injEq, and_true, true_and, and_self]; grind) | (simp  at *; done) | (simp  at *; grind))

set_option maxRecDepth 100000 in
set_option maxHeartbeats 400000 in
theorem letterBack_long (a b : LetV) (n2 n3 : Int) (more : Bs) (hm : 50 < more.length) (hI : Fn Tryz.prog 20 [.agg (encL a)] (.bool true)) : Fn Tryz.prog 5 [.agg (encL a), .agg (encL b), .int .u16 n2, .int .u8 n3, .str more] (.bool true) := by
  refine Fn.mk' base Tryz.func5 rfl rfl rfl ?_
  repeat' ((conv => whnf); (first
   | (with_reducible first | refine AW.seq ?_ | refine AW.region base (by kernel_rfl) ?_ | refine AW.cond ?_ | refine AW.block ?_ | refine AW.ret ?_ | refine AW.exit ?_ | refine AW.skip ?_ | refine Br.t ?_ | refine Br.f ?_)
   | (with_reducible refine Br.mkT (fun hb => (by (first | omega | (simp at hb; done) | (simp only [decide_eq_true_eq, decide_eq_false_iff_not] at hb; omega) | fail))) (fun hb => ?_))
   | (with_reducible refine Br.mkF (fun hb => (by (first | omega | (simp at hb; done) | (simp only [decide_eq_true_eq, decide_eq_false_iff_not] at hb; omega) | fail))) (fun hb => ?_))
   | ((with_reducible refine Or.inl ?_); (conv => whnf); (with_reducible refine And.intro LitSl.mk ?_))
   | refine Br.t ?_
   | refine Br.f ?_
   | ((with_reducible refine Or.inl ?_); (conv => whnf); (first | (with_reducible first | refine ⟨_, known7_fn, ?_⟩ | refine ⟨_, few7_fn a, ?_⟩ | refine ⟨_, few7_fn b, ?_⟩ | refine ⟨_, hI, ?_⟩)))
   | (with_reducible refine Br.mk (fun hb => ?_) (fun hb => ?_) <;> (try rw [hb]) <;> (try simp only [List.length_map, decide_eq_true_eq, decide_eq_false_iff_not, Bool.not_eq_true', Bool.not_eq_false', Int.ofNat_lt, Int.ofNat_le, Int.not_lt, Int.not_le, Int.toNat_natCast] at hb))
   | ((with_reducible first | refine Or.inl (And.intro ?_ ?_) | refine And.intro ?_ ?_); (focus (first | with_reducible rfl | exact trivial | (exact ⟨rfl, trivial⟩) | (exact ⟨rfl, rfl, trivial⟩) | omega | (intro r hr; simp only [List.mem_singleton] at hr; subst hr; rfl)  | ((simp only [in64, maxLen] at *; omega)) | ((simp only [List.length_append, maxLen] at *; omega)) | ((simp only [List.length_map] at *; omega)) | ((exact ⟨by omega, by omega⟩)) | ((exact ⟨by omega, rfl, by decide⟩)) | ((have := UInt8.toNat_lt p; simp only [limK]; omega)) | (simp only [in64]; omega) | assumption | (simp; done) | (simp [V.cells]; done) | (simp [in64, maxLen, limK] at *; omega) | ((show confB _ _ = true); kernel_rfl) | rfl)))
   | (intro row hrow; (try simp only [Int.toNat_natCast, List.length_map, toNat_pred, toNat_succ', toNat_zero', toNat_one'] at hrow); (first | (have hsm := same_map (by assumption) hrow; subst hsm; clear hrow) | (obtain ⟨p, hp, rfl⟩ := of_map hrow; clear hrow)))))
  all_goals (conv => whnf)
  all_goals (first | rfl | (simp only [V.bool.injEq, V.tup.injEq, V.agg.injEq, V.str.injEq, V.int.injEq, V.sl.injEq, V.ifc.injEq, List.cons.injEq, and_true, true_and, and_self]; done) | (simp only [V.bool.injEq, V.tup.injEq, V.agg.injEq, V.str.injEq, V.int.injEq, V.sl.injEq, V.ifc.injEq, List.cons.injEq, and_true, true_and, and_self]; grind) | (simp  at *; done) | (simp  at *; grind))

theorem letterBack_fn (a b : LetV) (n2 n3 : Int) (more : Bs) (g2 : 0 ≤ n2 ∧ n2 ≤ 65535) (g3 : 0 ≤ n3 ∧ n3 ≤ 255) : Fn Tryz.prog 5 [.agg (encL a), .agg (encL b), .int .u16 n2, .int .u8 n3, .str more] (.bool true) := by
  have hI := letIs_fn a
  cases ha : letB a
  · rw [ha] at hI; exact letterBack_no a b n2 n3 more hI
  rw [ha] at hI
  rcases Nat.lt_or_ge 50 more.length with hml | hml
  · exact letterBack_long a b n2 n3 more hml hI
  have hlen := bytesL_len ha
  have hwa := letB_ws ha
  have hk0 : 0 ≤ (n2 % ((bytesL a).length : Int)) := Int.emod_nonneg _ (by omega)
  have hk1 : (n2 % ((bytesL a).length : Int)) < ((bytesL a).length : Int) := Int.emod_lt_of_pos _ (by omega)
  have hB := letBytes_ok a ha
  have hR := letRead_of a ha
  have hS := sameLetter_fn a a hwa.1 hwa.2
  rw [decide_eq_true rfl] at hS
  obtain ⟨p, hp⟩ : ∃ p, (bytesL a)[(n2 % ((bytesL a).length : Int)).toNat]? = some p := ⟨_, List.getElem?_eq_getElem (by omega)⟩
  have hT := letRead_fn (flip (bytesL a) (n2 % ((bytesL a).length : Int)).toNat (p.toNat ^^^ n3.toNat)) (by unfold flip; rw [List.length_set]; omega)
  have hok := @readL_ok (flip (bytesL a) (n2 % ((bytesL a).length : Int)).toNat (p.toNat ^^^ n3.toNat))
  have hre : n3 = 0 → readL (flip (bytesL a) (n2 % ((bytesL a).length : Int)).toNat (p.toNat ^^^ n3.toNat)) = readL (bytesL a) := fun h => by rw [h]; exact congrArg readL (flip_same hp)
  have hne : ¬ n3 = 0 → ¬ (flip (bytesL a) (n2 % ((bytesL a).length : Int)).toNat (p.toNat ^^^ n3.toNat)) = bytesL a := fun h => flip_ne hp (by omega) (by omega)
  have hre2 : n3 = 0 → (flip (bytesL a) (n2 % ((bytesL a).length : Int)).toNat (p.toNat ^^^ n3.toNat)) = bytesL a := fun h => by rw [h]; exact flip_same hp
  have hC := letRead_fn ((bytesL a).take (n2 % ((bytesL a).length : Int)).toNat) (by rw [List.length_take]; omega)
  rw [readL_cut ha (by omega)] at hC
  have hM : ∃ lm, Fn Tryz.prog 22 [.str (bytesL a ++ more)] (.tup [.agg (encL lm), errT (decide (more = [])) false 0 10]) := by
    by_cases hm : more = []
    · subst hm
      refine ⟨a, ?_⟩
      rw [List.append_nil, decide_eq_true rfl]
      exact hR.res fun w R x hx => rep_tup2 hx fun y hy => errT_nil _ _ _ w R rho0 y hy
    · refine ⟨zeroL, ?_⟩
      rw [decide_eq_false hm]
      exact (letRead_more a ha more hm (by omega)).res fun w R x hx => rep_tup2 hx fun y hy => errT_bare _ _ w R rho0 y hy
  obtain ⟨lm, hM⟩ := hM
  have hIb := letIs_fn b
  have hBb := letBytes_fn b
  have hSab := sameLetter_fn a b hwa.1 hwa.2
  have hsab : decide (a = b) = decide ((if letB b then bytesL b else []) = bytesL a) := decide_eq_decide.2 (by
    cases hb : letB b
    · refine ⟨fun e => ?_, fun e => ?_⟩
      · rw [← e, ha] at hb; cases hb
      · simp only [Bool.false_eq_true, if_false] at e; rw [← e] at hlen; simp at hlen
    · simp only [if_true]
      exact ⟨fun e => by rw [e], fun e => (bytesL_inj hb ha e).symm⟩)
  rw [hsab] at hSab
  generalize (if letB b then bytesL b else []) = bb at hBb hSab
  generalize letB b = ib at hIb
  have hsy := fun (y : LetV) (hy : letB y = true) => sameLetter_fn y a (letB_ws hy).1 (letB_ws hy).2
  have hby := letBytes_ok
  have hq : n3 = 0 → (readL (bytesL a)) = (⟨[], true, false, 0, 10⟩, a) := fun _ => readL_of ha
  have hfin : ∀ (q : TK × LetV), Fn Tryz.prog 22 [.str (flip (bytesL a) (n2 % ((bytesL a).length : Int)).toNat (p.toNat ^^^ n3.toNat))] (.tup [.agg (encL q.2), errT q.1.b q.1.b2 q.1.c q.1.c2]) → (q.1.b = true → letB q.2 = true ∧ bytesL q.2 = (flip (bytesL a) (n2 % ((bytesL a).length : Int)).toNat (p.toNat ^^^ n3.toNat))) → (n3 = 0 → q = (⟨[], true, false, 0, 10⟩, a)) → Fn Tryz.prog 5 [.agg (encL a), .agg (encL b), .int .u16 n2, .int .u8 n3, .str more] (.bool true) := by
    rintro ⟨⟨rs, rb, rb2, rc, rc2⟩, y⟩ hT hok hre
    simp only at hT hok hre
    by_cases hz : n3 = 0
    · have e := hre hz
      simp only [Prod.mk.injEq, TK.mk.injEq] at e
      obtain ⟨⟨rfl, rfl, rfl, rfl, rfl⟩, rfl⟩ := e
      cases ib
      · exact letterBack_20 y b y _ lm n2 n3 more bb p _ _ _ _ _ _ g2 g3 hlen hp hI hB hR hS hT hC hM hIb hBb hSab hz hS
      · exact letterBack_2 y b y _ lm n2 n3 more bb p _ _ _ _ _ _ g2 g3 hlen hp hI hB hR hS hT hC hM hIb hBb hSab hz hS
    · cases rb
      · cases ib
        · exact letterBack_10 a b y _ lm n2 n3 more bb p _ _ _ _ _ _ g2 g3 hlen hp hI hB hR hS hT hC hM hIb hBb hSab hz
        · exact letterBack_1 a b y _ lm n2 n3 more bb p _ _ _ _ _ _ g2 g3 hlen hp hI hB hR hS hT hC hM hIb hBb hSab hz
      · obtain ⟨hy1, hy2⟩ := hok rfl
        have hya := hsy y hy1
        rw [decide_eq_false (fun e => hne hz (by rw [← hy2, e]))] at hya
        have hBy := hby y hy1
        rw [hy2] at hBy
        cases ib
        · exact letterBack_30 a b y _ lm n2 n3 more bb p _ _ _ _ _ _ g2 g3 hlen hp hI hB hR hS hT hC hM hIb hBb hSab hz hya hBy
        · exact letterBack_3 a b y _ lm n2 n3 more bb p _ _ _ _ _ _ g2 g3 hlen hp hI hB hR hS hT hC hM hIb hBb hSab hz hya hBy
  exact hfin _ hT hok fun hz => by rw [hre hz, hq hz]
end Go.Proofs.YtnblecdpkbempaaGreatDoor
