/-
  A law of letters: as many events, places, bytes as may be, and one more: its walk. No conditions.
-/
import Derived.Test.YtnblecdpkbempaaGreatDoorLaw7k
namespace Go.Proofs.YtnblecdpkbempaaGreatDoor
open Go.RowKit
set_option linter.unusedSimpArgs false
set_option linter.unusedVariables false

theorem letB_ws8 {l : LetV} (h : letB l = true) : l.op.ws.length ≤ 1000000 ∧ l.an.rows.length ≤ 1000000 := by
  have ok := letOk h
  constructor
  · by_cases hk : l.kind = 1
    · have := (op_bounds (ok.op hk)).2.2.2.1; omega
    · rw [ok.op0 hk]; simp [zeroO]
  · by_cases hk : l.kind = 2
    · have := (an_bounds (ok.an hk)).2.2.2.1; omega
    · rw [ok.an0 hk]; simp [zeroA]
def evOf (i : Nat) : Evt := ⟨[107], 1 + (i : Int), [], false⟩
def plOf : Plc := ⟨1, 1, 0, [], []⟩
def snOf (i : Nat) : Sn := ⟨[UInt8.ofNat (48 + i)], (i : Int)⟩
def evN (n : Nat) : List Evt := (List.range n).map evOf
def plN (n : Nat) : List Plc := (List.range n).map fun _ => plOf
def snN (n : Nat) : List Sn := (List.range n).map snOf
theorem evN_snoc (n : Nat) : (evN n).map encE ++ [encE (evOf n)] = (evN (n + 1)).map encE := by simp [evN, List.range_succ]
theorem plN_snoc (n : Nat) : (plN n).map encP ++ [encP plOf] = (plN (n + 1)).map encP := by simp [plN, List.range_succ]
theorem snN_snoc (n : Nat) : (snN n).map encN ++ [encN (snOf n)] = (snN (n + 1)).map encN := by simp [snN, List.range_succ]
def LL (e p s d : Nat) : LetV := ⟨4, 0, 200, 0, 0, 0, 0, 0, zeroO, zeroA, [], [], snN s, evN e, plN p, List.replicate d 0⟩
def okOf8 (e p s d : Nat) : Bool := decide (e ≤ 8) && (decide (p ≤ 8) && (decide (s ≤ 60) && decide (d ≤ 255)))
theorem lim_law (e p s d : Nat) (he : e = 7 ∨ e = 8 ∨ e = 9) (hp : p = 7 ∨ p = 8 ∨ p = 9) (hs : s = 59 ∨ s = 60 ∨ s = 61) : letB (LL e p s d) = okOf8 e p s d := by
  have h1 : ((evN e).any fun x => !evB x) = false := by rcases he with rfl | rfl | rfl <;> kernel_rfl
  have h2 : ((plN p).any fun x => !plB x) = false := by rcases hp with rfl | rfl | rfl <;> kernel_rfl
  have h3 : snsB none (snN s) = true := by rcases hs with rfl | rfl | rfl <;> kernel_rfl
  have l1 : (evN e).length = e := by simp [evN]
  have l2 : (plN p).length = p := by simp [plN]
  have l3 : (snN s).length = s := by simp [snN]
  unfold letB
  rw [show kindL (LL e p s d) = true from rfl, show addrB (LL e p s d).fr = true from rfl, show addrB (LL e p s d).to = true from rfl, show (numsL (LL e p s d)).any badI = false from rfl, show isB ⟨(LL e p s d).f, (LL e p s d).t⟩ = true from rfl]
  show (true && true && true && !false && decide ((List.replicate d (0 : UInt8)).length ≤ 255) && true && snsB none (snN s) && decide ((snN s).length ≤ 60) && decide ((evN e).length ≤ 8) && decide ((plN p).length ≤ 8) && !((evN e).any fun x => !evB x) && !((plN p).any fun x => !plB x)) = _
  rw [h1, h2, h3, l1, l2, l3, List.length_replicate]
  unfold okOf8
  cases decide (e ≤ 8) <;> cases decide (p ≤ 8) <;> cases decide (s ≤ 60) <;> cases decide (d ≤ 255) <;> rfl
theorem snByte (i : Nat) (h : i < 100) : [UInt8.ofNat (IntKind.wrap .u8 (48 + (i : Int))).toNat] = [UInt8.ofNat (48 + i)] := by
  simp only [IntKind.wrap, IntKind.bits, IntKind.signed, Bool.false_and, Bool.false_eq_true, if_false]
  congr 1
  congr 1
  omega

set_option maxRecDepth 100000 in
set_option maxHeartbeats 2000000 in
theorem letterLimits_fn (n0 n1 n2 n3 : Int) (g0 : 0 ≤ n0 ∧ n0 ≤ 255) (g1 : 0 ≤ n1 ∧ n1 ≤ 255) (g2 : 0 ≤ n2 ∧ n2 ≤ 255) (g3 : 0 ≤ n3 ∧ n3 ≤ 255) : Fn Tryz.prog 7 [.int .u8 n0, .int .u8 n1, .int .u8 n2, .int .u8 n3] (.bool true) := by
  refine Fn.mk' base Tryz.func7 rfl rfl rfl ?_
  obtain ⟨e, he⟩ : ∃ e : Nat, (e : Int) = 7 + n0 % 3 := ⟨(7 + n0 % 3).toNat, by omega⟩
  obtain ⟨p, hp⟩ : ∃ p : Nat, (p : Int) = 7 + n1 % 3 := ⟨(7 + n1 % 3).toNat, by omega⟩
  obtain ⟨s, hs⟩ : ∃ s : Nat, (s : Int) = 59 + n2 % 3 := ⟨(59 + n2 % 3).toNat, by omega⟩
  repeat' ((conv => whnf); (first
   | ((with_reducible show AW _ _ _ (Code.seq (Code.seq (Code.region 4 _ _) _) _) _ _ _); (refine AW.join (fun (_ : Unit) => True) (fun _ => ⟨[(0, .int .u8 n0), (1, .int .u8 n1), (2, .int .u8 n2), (3, .int .u8 n3), (9, .ptr 0 0)], [.cells [.int .i64 4, .int .i64 0, .int .i64 200, .int .i64 0, .int .i64 0, .int .i64 0, .int .i64 0, .int .i64 0, .int .i64 0, .str [], .str [], .str [], .int .i64 0, .nils, .int .i64 0, .str [], .int .i64 0, .nils, .str [], .str [], .nils, .own 1, .nils, .str []], .rows 65 ((evN e).map encE)]⟩) ?_ (fun _ _ => ?_)))
   | ((with_reducible show AW _ _ _ (Code.seq (Code.seq (Code.region 8 _ _) _) _) _ _ _); (refine AW.join (fun (_ : Unit) => True) (fun _ => ⟨[(0, .int .u8 n0), (1, .int .u8 n1), (2, .int .u8 n2), (3, .int .u8 n3), (9, .ptr 0 0)], [.cells [.int .i64 4, .int .i64 0, .int .i64 200, .int .i64 0, .int .i64 0, .int .i64 0, .int .i64 0, .int .i64 0, .int .i64 0, .str [], .str [], .str [], .int .i64 0, .nils, .int .i64 0, .str [], .int .i64 0, .nils, .str [], .str [], .nils, .own 1, .own 2, .str []], .rows 65 ((evN e).map encE), .rows 67 ((plN p).map encP)]⟩) ?_ (fun _ _ => ?_)))
   | ((with_reducible show AW _ _ _ (Code.seq (Code.seq (Code.region 12 _ _) _) _) _ _ _); (refine AW.join (fun (_ : Unit) => True) (fun _ => ⟨[(0, .int .u8 n0), (1, .int .u8 n1), (2, .int .u8 n2), (3, .int .u8 n3), (9, .ptr 0 0)], [.cells [.int .i64 4, .int .i64 0, .int .i64 200, .int .i64 0, .int .i64 0, .int .i64 0, .int .i64 0, .int .i64 0, .int .i64 0, .str [], .str [], .str [], .int .i64 0, .nils, .int .i64 0, .str [], .int .i64 0, .nils, .str [], .str [], .own 3, .own 1, .own 2, .str []], .rows 65 ((evN e).map encE), .rows 67 ((plN p).map encP), .rows 69 ((snN s).map encN)]⟩) ?_ (fun _ _ => ?_)))
   | ((with_reducible show AW _ _ _ (Code.seq (Code.region 17 _ _) _) _ _ _); (refine AW.join (fun (_ : Unit) => True) (fun _ => ⟨[(9, .ptr 0 0), (13, .bool (okOf8 e p s (254 + n3 % 3).toNat))], [.cells [.int .i64 4, .int .i64 0, .int .i64 200, .int .i64 0, .int .i64 0, .int .i64 0, .int .i64 0, .int .i64 0, .int .i64 0, .str [], .str [], .str [], .int .i64 0, .nils, .int .i64 0, .str [], .int .i64 0, .nils, .str [], .str [], .own 3, .own 1, .own 2, .str (List.replicate (254 + n3 % 3).toNat 0)], .rows 65 ((evN e).map encE), .rows 67 ((plN p).map encP), .rows 69 ((snN s).map encN)]⟩) ?_ ?_))
   | (with_reducible first | refine AW.seq ?_ | refine AW.region base (by kernel_rfl) ?_ | refine AW.cond ?_ | refine AW.block ?_ | refine AW.ret ?_ | refine AW.exit ?_ | refine AW.skip ?_ | refine Br.t ?_ | refine Br.f ?_)
   | (with_reducible refine Br.mkT (fun hb => (by (first | (simp at hb; done) | omega | (simp only [decide_eq_true_eq, decide_eq_false_iff_not] at hb; omega) | fail))) (fun hb => ?_))
   | (with_reducible refine Br.mkF (fun hb => (by (first | (simp at hb; done) | omega | (simp only [decide_eq_true_eq, decide_eq_false_iff_not] at hb; omega) | fail))) (fun hb => ?_))
   | ((with_reducible refine Or.inl ?_); (conv => whnf); (with_reducible refine And.intro LitSl.mk ?_))
   | refine Br.t ?_
   | refine Br.f ?_
   | ((fail_if_success (with_reducible show ∃ j, Fits _ _ _ _ ∧ _)); (refine Exists.intro _ (And.intro (ByteRows.rep _) ?_)))
   | (refine Exists.intro _ (And.intro (ByteRows.cons ByteRows.nil) ?_))
   | ((with_reducible refine Or.inl ?_); (conv => whnf); (first | (with_reducible first | refine ⟨_, known7_fn, ?_⟩)))
   | (with_reducible refine Br.mk (fun hb => ?_) (fun hb => ?_) <;> (try rw [hb]) <;> (try simp only [List.length_map, decide_eq_true_eq, decide_eq_false_iff_not, Bool.not_eq_true', Bool.not_eq_false', Int.ofNat_lt, Int.ofNat_le, Int.not_lt, Int.not_le, Int.toNat_natCast] at hb))
   | ((with_reducible first | refine Or.inl (And.intro ?_ ?_) | refine And.intro ?_ ?_); (focus (first | with_reducible rfl | exact trivial | (exact ⟨rfl, trivial⟩) | (exact ⟨rfl, rfl, trivial⟩) | omega | (intro r hr; simp only [List.mem_singleton] at hr; subst hr; rfl)  | ((simp only [in64, maxLen] at *; omega)) | ((exact ⟨by omega, by omega, by decide⟩)) | ((exact ⟨by omega, by decide⟩)) | ((exact ⟨rfl, by omega, by omega⟩)) | ((simp only [List.length_map, List.length_cons, List.length_nil, evN, plN, snN, List.length_range]; omega)) | ((rw [List.length_replicate]; simp only [maxLen]; omega)) | (simp only [in64]; omega) | assumption | (simp; done) | (simp [V.cells]; done) | (simp [in64, maxLen, limK] at *; omega) | ((show confB _ _ = true); kernel_rfl) | rfl)))
   | (intro row hrow; (try simp only [Int.toNat_natCast, List.length_map, toNat_pred, toNat_succ', toNat_zero', toNat_one'] at hrow); (first | (have hsm := same_map (by assumption) hrow; subst hsm; clear hrow) | (obtain ⟨p, hp, rfl⟩ := of_map hrow; clear hrow)))))
  · refine AW.adoptC 4001 21 999999999 (el := 65) rfl rfl rfl (rows_of 25 rfl) ?_
    refine AW.loop (fun (i : Nat) => i ≤ e) (fun (i : Nat) => ⟨[(0, .int .u8 n0), (1, .int .u8 n1), (2, .int .u8 n2), (3, .int .u8 n3), (9, .ptr 0 0), (10, .int .i64 (i : Int))], [.cells [.int .i64 4, .int .i64 0, .int .i64 200, .int .i64 0, .int .i64 0, .int .i64 0, .int .i64 0, .int .i64 0, .int .i64 0, .str [], .str [], .str [], .int .i64 0, .nils, .int .i64 0, .str [], .int .i64 0, .nils, .str [], .str [], .nils, .own 1, .nils, .str []], .rows 65 ((evN i).map encE)]⟩) (fun i => e - i) 0 ?_ ?_ ?_
    · exact Nat.zero_le _
    · (refine ⟨⟨[4001, 999999999], ?_⟩⟩; repeat' (first | (with_reducible rfl) | exact trivial | ((conv => whnf); (first | (with_reducible refine And.intro ?_ ?_) | (first | with_reducible rfl | ((first | refine congrArg V.str ?_ | refine congrArg (V.int _) ?_ | refine congrArg V.bool ?_ | refine congrArg V.sl ?_); (first | with_reducible rfl | omega | rfl | (simp; done))) | (first | with_reducible rfl | omega | rfl | (simp; done)) | rfl)))))
    · rintro i hk
      rcases (by omega : i = e ∨ i < e) with hi | hi
      · subst hi
        repeat' ((conv => whnf); (first
         | (with_reducible first | refine AW.seq ?_ | refine AW.region base (by kernel_rfl) ?_ | refine AW.cond ?_ | refine AW.block ?_ | refine AW.ret ?_ | refine AW.exit ?_ | refine AW.skip ?_ | refine Br.t ?_ | refine Br.f ?_)
         | (with_reducible refine Br.mkT (fun hb => (by (first | (simp at hb; done) | omega | (simp only [decide_eq_true_eq, decide_eq_false_iff_not] at hb; omega) | fail))) (fun hb => ?_))
         | (with_reducible refine Br.mkF (fun hb => (by (first | (simp at hb; done) | omega | (simp only [decide_eq_true_eq, decide_eq_false_iff_not] at hb; omega) | fail))) (fun hb => ?_))
         | ((with_reducible refine Or.inl ?_); (conv => whnf); (with_reducible refine And.intro LitSl.mk ?_))
         | refine Br.t ?_
         | refine Br.f ?_
         | (with_reducible refine Br.mk (fun hb => ?_) (fun hb => ?_) <;> (try rw [hb]) <;> (try simp only [List.length_map, decide_eq_true_eq, decide_eq_false_iff_not, Bool.not_eq_true', Bool.not_eq_false', Int.ofNat_lt, Int.ofNat_le, Int.not_lt, Int.not_le, Int.toNat_natCast] at hb))
         | ((with_reducible first | refine Or.inl (And.intro ?_ ?_) | refine And.intro ?_ ?_); (focus (first | with_reducible rfl | exact trivial | (exact ⟨rfl, trivial⟩) | (exact ⟨rfl, rfl, trivial⟩) | omega | (intro r hr; simp only [List.mem_singleton] at hr; subst hr; rfl)  | ((simp only [in64, maxLen] at *; omega)) | ((exact ⟨by omega, by omega, by decide⟩)) | ((exact ⟨by omega, by decide⟩)) | ((exact ⟨rfl, by omega, by omega⟩)) | ((simp only [List.length_map, List.length_cons, List.length_nil, evN, plN, snN, List.length_range]; omega)) | ((rw [List.length_replicate]; simp only [maxLen]; omega)) | (simp only [in64]; omega) | assumption | (simp; done) | (simp [V.cells]; done) | (simp [in64, maxLen, limK] at *; omega) | ((show confB _ _ = true); kernel_rfl) | rfl)))
         | (intro row hrow; (try simp only [Int.toNat_natCast, List.length_map, toNat_pred, toNat_succ', toNat_zero', toNat_one'] at hrow); (first | (have hsm := same_map (by assumption) hrow; subst hsm; clear hrow) | (obtain ⟨p, hp, rfl⟩ := of_map hrow; clear hrow)))))
        all_goals ((conv => whnf); (refine ⟨(), ?_, trivial⟩; (refine ⟨⟨[0, 1], ?_⟩⟩; repeat' (first | (with_reducible rfl) | exact trivial | ((conv => whnf); (first | (with_reducible refine And.intro ?_ ?_) | (first | with_reducible rfl | ((first | refine congrArg V.str ?_ | refine congrArg (V.int _) ?_ | refine congrArg V.bool ?_ | refine congrArg V.sl ?_); (first | with_reducible rfl | omega | rfl | (simp; done))) | (first | with_reducible rfl | omega | rfl | (simp; done)) | rfl)))))))
      repeat' ((conv => whnf); (first
       | (with_reducible first | refine AW.seq ?_ | refine AW.region base (by kernel_rfl) ?_ | refine AW.cond ?_ | refine AW.block ?_ | refine AW.ret ?_ | refine AW.exit ?_ | refine AW.skip ?_ | refine Br.t ?_ | refine Br.f ?_)
       | (with_reducible refine Br.mkT (fun hb => (by (first | (simp at hb; done) | omega | (simp only [decide_eq_true_eq, decide_eq_false_iff_not] at hb; omega) | fail))) (fun hb => ?_))
       | (with_reducible refine Br.mkF (fun hb => (by (first | (simp at hb; done) | omega | (simp only [decide_eq_true_eq, decide_eq_false_iff_not] at hb; omega) | fail))) (fun hb => ?_))
       | ((with_reducible refine Or.inl ?_); (conv => whnf); (with_reducible refine And.intro LitSl.mk ?_))
       | refine Br.t ?_
       | refine Br.f ?_
       | (with_reducible refine Br.mk (fun hb => ?_) (fun hb => ?_) <;> (try rw [hb]) <;> (try simp only [List.length_map, decide_eq_true_eq, decide_eq_false_iff_not, Bool.not_eq_true', Bool.not_eq_false', Int.ofNat_lt, Int.ofNat_le, Int.not_lt, Int.not_le, Int.toNat_natCast] at hb))
       | ((with_reducible first | refine Or.inl (And.intro ?_ ?_) | refine And.intro ?_ ?_); (focus (first | with_reducible rfl | exact trivial | (exact ⟨rfl, trivial⟩) | (exact ⟨rfl, rfl, trivial⟩) | omega | (intro r hr; simp only [List.mem_singleton] at hr; subst hr; rfl)  | ((simp only [in64, maxLen] at *; omega)) | ((exact ⟨by omega, by omega, by decide⟩)) | ((exact ⟨by omega, by decide⟩)) | ((exact ⟨rfl, by omega, by omega⟩)) | ((simp only [List.length_map, List.length_cons, List.length_nil, evN, plN, snN, List.length_range]; omega)) | ((rw [List.length_replicate]; simp only [maxLen]; omega)) | (simp only [in64]; omega) | assumption | (simp; done) | (simp [V.cells]; done) | (simp [in64, maxLen, limK] at *; omega) | ((show confB _ _ = true); kernel_rfl) | rfl)))
       | (intro row hrow; (try simp only [Int.toNat_natCast, List.length_map, toNat_pred, toNat_succ', toNat_zero', toNat_one'] at hrow); (first | (have hsm := same_map (by assumption) hrow; subst hsm; clear hrow) | (obtain ⟨p, hp, rfl⟩ := of_map hrow; clear hrow)))))
      all_goals (try first | with_reducible assumption | ((first | show (_ : Int) ≤ _ | show (_ : Nat) ≤ _ | show (_ : Int) < _ | show ¬ (_ : Int) = _); (first | omega | (simp at *; omega) | (simp; done) | (simp [maxLen]; done))) | ((show in64 _); (simp only [in64] at *; (first | omega | (simp at *; omega) | (simp; done) | (simp [maxLen]; done)))) | ((with_reducible refine And.intro ?_ ?_) <;> (first | omega | (simp at *; omega) | (simp; done) | (simp [maxLen]; done))))
      all_goals (first
        | (with_reducible exact absurd rfl (by assumption))
        | ((conv => whnf); (refine ⟨(i + 1), ?_⟩); (refine And.intro ?_ (And.intro ?_ ?_)); (focus (refine ⟨⟨[0, ?_], ?_⟩⟩; rotate_left 1; repeat' (first | (with_reducible rfl) | exact trivial | ((conv => whnf); (first | (with_reducible refine And.intro ?_ ?_) | (first | with_reducible rfl | ((first | refine congrArg V.str ?_ | refine congrArg (V.int _) ?_ | refine congrArg V.bool ?_ | refine congrArg V.sl ?_); (first | with_reducible rfl | omega | exact evN_snoc i | rfl | (simp; done))) | (first | with_reducible rfl | omega | exact evN_snoc i | rfl | (simp; done)) | rfl)))))); (focus (show i + 1 ≤ e; omega)); (focus (first | omega | (dsimp only; omega) | (simp; done) | (simp; omega) | (simp at *; omega))))
        | ((conv => whnf); (try (first | rfl | (exfalso; simp_all; done) | (exfalso; simp at *; omega))); done))

  · refine AW.adoptC 0 22 999999999 (el := 67) rfl rfl rfl (rows_of 51 rfl) ?_
    refine AW.loop (fun (i : Nat) => i ≤ p) (fun (i : Nat) => ⟨[(0, .int .u8 n0), (1, .int .u8 n1), (2, .int .u8 n2), (3, .int .u8 n3), (9, .ptr 0 0), (11, .int .i64 (i : Int))], [.cells [.int .i64 4, .int .i64 0, .int .i64 200, .int .i64 0, .int .i64 0, .int .i64 0, .int .i64 0, .int .i64 0, .int .i64 0, .str [], .str [], .str [], .int .i64 0, .nils, .int .i64 0, .str [], .int .i64 0, .nils, .str [], .str [], .nils, .own 1, .own 2, .str []], .rows 65 ((evN e).map encE), .rows 67 ((plN i).map encP)]⟩) (fun i => p - i) 0 ?_ ?_ ?_
    · exact Nat.zero_le _
    · (refine ⟨⟨[0, 1, 999999999], ?_⟩⟩; repeat' (first | (with_reducible rfl) | exact trivial | ((conv => whnf); (first | (with_reducible refine And.intro ?_ ?_) | (first | with_reducible rfl | ((first | refine congrArg V.str ?_ | refine congrArg (V.int _) ?_ | refine congrArg V.bool ?_ | refine congrArg V.sl ?_); (first | with_reducible rfl | omega | rfl | (simp; done))) | (first | with_reducible rfl | omega | rfl | (simp; done)) | rfl)))))
    · rintro i hk
      rcases (by omega : i = p ∨ i < p) with hi | hi
      · subst hi
        repeat' ((conv => whnf); (first
         | (with_reducible first | refine AW.seq ?_ | refine AW.region base (by kernel_rfl) ?_ | refine AW.cond ?_ | refine AW.block ?_ | refine AW.ret ?_ | refine AW.exit ?_ | refine AW.skip ?_ | refine Br.t ?_ | refine Br.f ?_)
         | (with_reducible refine Br.mkT (fun hb => (by (first | (simp at hb; done) | omega | (simp only [decide_eq_true_eq, decide_eq_false_iff_not] at hb; omega) | fail))) (fun hb => ?_))
         | (with_reducible refine Br.mkF (fun hb => (by (first | (simp at hb; done) | omega | (simp only [decide_eq_true_eq, decide_eq_false_iff_not] at hb; omega) | fail))) (fun hb => ?_))
         | ((with_reducible refine Or.inl ?_); (conv => whnf); (with_reducible refine And.intro LitSl.mk ?_))
         | refine Br.t ?_
         | refine Br.f ?_
         | (with_reducible refine Br.mk (fun hb => ?_) (fun hb => ?_) <;> (try rw [hb]) <;> (try simp only [List.length_map, decide_eq_true_eq, decide_eq_false_iff_not, Bool.not_eq_true', Bool.not_eq_false', Int.ofNat_lt, Int.ofNat_le, Int.not_lt, Int.not_le, Int.toNat_natCast] at hb))
         | ((with_reducible first | refine Or.inl (And.intro ?_ ?_) | refine And.intro ?_ ?_); (focus (first | with_reducible rfl | exact trivial | (exact ⟨rfl, trivial⟩) | (exact ⟨rfl, rfl, trivial⟩) | omega | (intro r hr; simp only [List.mem_singleton] at hr; subst hr; rfl)  | ((simp only [in64, maxLen] at *; omega)) | ((exact ⟨by omega, by omega, by decide⟩)) | ((exact ⟨by omega, by decide⟩)) | ((exact ⟨rfl, by omega, by omega⟩)) | ((simp only [List.length_map, List.length_cons, List.length_nil, evN, plN, snN, List.length_range]; omega)) | ((rw [List.length_replicate]; simp only [maxLen]; omega)) | (simp only [in64]; omega) | assumption | (simp; done) | (simp [V.cells]; done) | (simp [in64, maxLen, limK] at *; omega) | ((show confB _ _ = true); kernel_rfl) | rfl)))
         | (intro row hrow; (try simp only [Int.toNat_natCast, List.length_map, toNat_pred, toNat_succ', toNat_zero', toNat_one'] at hrow); (first | (have hsm := same_map (by assumption) hrow; subst hsm; clear hrow) | (obtain ⟨p, hp, rfl⟩ := of_map hrow; clear hrow)))))
        all_goals ((conv => whnf); (refine ⟨(), ?_, trivial⟩; (refine ⟨⟨[0, 1, 2], ?_⟩⟩; repeat' (first | (with_reducible rfl) | exact trivial | ((conv => whnf); (first | (with_reducible refine And.intro ?_ ?_) | (first | with_reducible rfl | ((first | refine congrArg V.str ?_ | refine congrArg (V.int _) ?_ | refine congrArg V.bool ?_ | refine congrArg V.sl ?_); (first | with_reducible rfl | omega | rfl | (simp; done))) | (first | with_reducible rfl | omega | rfl | (simp; done)) | rfl)))))))
      repeat' ((conv => whnf); (first
       | (with_reducible first | refine AW.seq ?_ | refine AW.region base (by kernel_rfl) ?_ | refine AW.cond ?_ | refine AW.block ?_ | refine AW.ret ?_ | refine AW.exit ?_ | refine AW.skip ?_ | refine Br.t ?_ | refine Br.f ?_)
       | (with_reducible refine Br.mkT (fun hb => (by (first | (simp at hb; done) | omega | (simp only [decide_eq_true_eq, decide_eq_false_iff_not] at hb; omega) | fail))) (fun hb => ?_))
       | (with_reducible refine Br.mkF (fun hb => (by (first | (simp at hb; done) | omega | (simp only [decide_eq_true_eq, decide_eq_false_iff_not] at hb; omega) | fail))) (fun hb => ?_))
       | ((with_reducible refine Or.inl ?_); (conv => whnf); (with_reducible refine And.intro LitSl.mk ?_))
       | refine Br.t ?_
       | refine Br.f ?_
       | (with_reducible refine Br.mk (fun hb => ?_) (fun hb => ?_) <;> (try rw [hb]) <;> (try simp only [List.length_map, decide_eq_true_eq, decide_eq_false_iff_not, Bool.not_eq_true', Bool.not_eq_false', Int.ofNat_lt, Int.ofNat_le, Int.not_lt, Int.not_le, Int.toNat_natCast] at hb))
       | ((with_reducible first | refine Or.inl (And.intro ?_ ?_) | refine And.intro ?_ ?_); (focus (first | with_reducible rfl | exact trivial | (exact ⟨rfl, trivial⟩) | (exact ⟨rfl, rfl, trivial⟩) | omega | (intro r hr; simp only [List.mem_singleton] at hr; subst hr; rfl)  | ((simp only [in64, maxLen] at *; omega)) | ((exact ⟨by omega, by omega, by decide⟩)) | ((exact ⟨by omega, by decide⟩)) | ((exact ⟨rfl, by omega, by omega⟩)) | ((simp only [List.length_map, List.length_cons, List.length_nil, evN, plN, snN, List.length_range]; omega)) | ((rw [List.length_replicate]; simp only [maxLen]; omega)) | (simp only [in64]; omega) | assumption | (simp; done) | (simp [V.cells]; done) | (simp [in64, maxLen, limK] at *; omega) | ((show confB _ _ = true); kernel_rfl) | rfl)))
       | (intro row hrow; (try simp only [Int.toNat_natCast, List.length_map, toNat_pred, toNat_succ', toNat_zero', toNat_one'] at hrow); (first | (have hsm := same_map (by assumption) hrow; subst hsm; clear hrow) | (obtain ⟨p, hp, rfl⟩ := of_map hrow; clear hrow)))))
      all_goals (try first | with_reducible assumption | ((first | show (_ : Int) ≤ _ | show (_ : Nat) ≤ _ | show (_ : Int) < _ | show ¬ (_ : Int) = _); (first | omega | (simp at *; omega) | (simp; done) | (simp [maxLen]; done))) | ((show in64 _); (simp only [in64] at *; (first | omega | (simp at *; omega) | (simp; done) | (simp [maxLen]; done)))) | ((with_reducible refine And.intro ?_ ?_) <;> (first | omega | (simp at *; omega) | (simp; done) | (simp [maxLen]; done))))
      all_goals (first
        | (with_reducible exact absurd rfl (by assumption))
        | ((conv => whnf); (refine ⟨(i + 1), ?_⟩); (refine And.intro ?_ (And.intro ?_ ?_)); (focus (refine ⟨⟨[0, 1, ?_], ?_⟩⟩; rotate_left 1; repeat' (first | (with_reducible rfl) | exact trivial | ((conv => whnf); (first | (with_reducible refine And.intro ?_ ?_) | (first | with_reducible rfl | ((first | refine congrArg V.str ?_ | refine congrArg (V.int _) ?_ | refine congrArg V.bool ?_ | refine congrArg V.sl ?_); (first | with_reducible rfl | omega | exact plN_snoc i | rfl | (simp; done))) | (first | with_reducible rfl | omega | exact plN_snoc i | rfl | (simp; done)) | rfl)))))); (focus (show i + 1 ≤ p; omega)); (focus (first | omega | (dsimp only; omega) | (simp; done) | (simp; omega) | (simp at *; omega))))
        | ((conv => whnf); (try (first | rfl | (exfalso; simp_all; done) | (exfalso; simp at *; omega))); done))

  · refine AW.adoptC 0 20 999999999 (el := 69) rfl rfl rfl (rows_of 50 rfl) ?_
    refine AW.loop (fun (i : Nat) => i ≤ s) (fun (i : Nat) => ⟨[(0, .int .u8 n0), (1, .int .u8 n1), (2, .int .u8 n2), (3, .int .u8 n3), (9, .ptr 0 0), (12, .int .i64 (i : Int))], [.cells [.int .i64 4, .int .i64 0, .int .i64 200, .int .i64 0, .int .i64 0, .int .i64 0, .int .i64 0, .int .i64 0, .int .i64 0, .str [], .str [], .str [], .int .i64 0, .nils, .int .i64 0, .str [], .int .i64 0, .nils, .str [], .str [], .own 3, .own 1, .own 2, .str []], .rows 65 ((evN e).map encE), .rows 67 ((plN p).map encP), .rows 69 ((snN i).map encN)]⟩) (fun i => s - i) 0 ?_ ?_ ?_
    · exact Nat.zero_le _
    · (refine ⟨⟨[0, 1, 2, 999999999], ?_⟩⟩; repeat' (first | (with_reducible rfl) | exact trivial | ((conv => whnf); (first | (with_reducible refine And.intro ?_ ?_) | (first | with_reducible rfl | ((first | refine congrArg V.str ?_ | refine congrArg (V.int _) ?_ | refine congrArg V.bool ?_ | refine congrArg V.sl ?_); (first | with_reducible rfl | omega | rfl | (simp; done))) | (first | with_reducible rfl | omega | rfl | (simp; done)) | rfl)))))
    · rintro i hk
      rcases (by omega : i = s ∨ i < s) with hi | hi
      · subst hi
        repeat' ((conv => whnf); (first
         | (with_reducible first | refine AW.seq ?_ | refine AW.region base (by kernel_rfl) ?_ | refine AW.cond ?_ | refine AW.block ?_ | refine AW.ret ?_ | refine AW.exit ?_ | refine AW.skip ?_ | refine Br.t ?_ | refine Br.f ?_)
         | (with_reducible refine Br.mkT (fun hb => (by (first | (simp at hb; done) | omega | (simp only [decide_eq_true_eq, decide_eq_false_iff_not] at hb; omega) | fail))) (fun hb => ?_))
         | (with_reducible refine Br.mkF (fun hb => (by (first | (simp at hb; done) | omega | (simp only [decide_eq_true_eq, decide_eq_false_iff_not] at hb; omega) | fail))) (fun hb => ?_))
         | ((with_reducible refine Or.inl ?_); (conv => whnf); (with_reducible refine And.intro LitSl.mk ?_))
         | refine Br.t ?_
         | refine Br.f ?_
         | (with_reducible refine Br.mk (fun hb => ?_) (fun hb => ?_) <;> (try rw [hb]) <;> (try simp only [List.length_map, decide_eq_true_eq, decide_eq_false_iff_not, Bool.not_eq_true', Bool.not_eq_false', Int.ofNat_lt, Int.ofNat_le, Int.not_lt, Int.not_le, Int.toNat_natCast] at hb))
         | ((with_reducible first | refine Or.inl (And.intro ?_ ?_) | refine And.intro ?_ ?_); (focus (first | with_reducible rfl | exact trivial | (exact ⟨rfl, trivial⟩) | (exact ⟨rfl, rfl, trivial⟩) | omega | (intro r hr; simp only [List.mem_singleton] at hr; subst hr; rfl)  | ((simp only [in64, maxLen] at *; omega)) | ((exact ⟨by omega, by omega, by decide⟩)) | ((exact ⟨by omega, by decide⟩)) | ((exact ⟨rfl, by omega, by omega⟩)) | ((simp only [List.length_map, List.length_cons, List.length_nil, evN, plN, snN, List.length_range]; omega)) | ((rw [List.length_replicate]; simp only [maxLen]; omega)) | (simp only [in64]; omega) | assumption | (simp; done) | (simp [V.cells]; done) | (simp [in64, maxLen, limK] at *; omega) | ((show confB _ _ = true); kernel_rfl) | rfl)))
         | (intro row hrow; (try simp only [Int.toNat_natCast, List.length_map, toNat_pred, toNat_succ', toNat_zero', toNat_one'] at hrow); (first | (have hsm := same_map (by assumption) hrow; subst hsm; clear hrow) | (obtain ⟨p, hp, rfl⟩ := of_map hrow; clear hrow)))))
        all_goals ((conv => whnf); (refine ⟨(), ?_, trivial⟩; (refine ⟨⟨[0, 1, 2, 3], ?_⟩⟩; repeat' (first | (with_reducible rfl) | exact trivial | ((conv => whnf); (first | (with_reducible refine And.intro ?_ ?_) | (first | with_reducible rfl | ((first | refine congrArg V.str ?_ | refine congrArg (V.int _) ?_ | refine congrArg V.bool ?_ | refine congrArg V.sl ?_); (first | with_reducible rfl | omega | rfl | (simp; done))) | (first | with_reducible rfl | omega | rfl | (simp; done)) | rfl)))))))
      repeat' ((conv => whnf); (first
       | (with_reducible first | refine AW.seq ?_ | refine AW.region base (by kernel_rfl) ?_ | refine AW.cond ?_ | refine AW.block ?_ | refine AW.ret ?_ | refine AW.exit ?_ | refine AW.skip ?_ | refine Br.t ?_ | refine Br.f ?_)
       | (with_reducible refine Br.mkT (fun hb => (by (first | (simp at hb; done) | omega | (simp only [decide_eq_true_eq, decide_eq_false_iff_not] at hb; omega) | fail))) (fun hb => ?_))
       | (with_reducible refine Br.mkF (fun hb => (by (first | (simp at hb; done) | omega | (simp only [decide_eq_true_eq, decide_eq_false_iff_not] at hb; omega) | fail))) (fun hb => ?_))
       | ((with_reducible refine Or.inl ?_); (conv => whnf); (with_reducible refine And.intro LitSl.mk ?_))
       | refine Br.t ?_
       | refine Br.f ?_
       | ((fail_if_success (with_reducible show ∃ j, Fits _ _ _ _ ∧ _)); (refine Exists.intro _ (And.intro (ByteRows.rep _) ?_)))
       | (refine Exists.intro _ (And.intro (ByteRows.cons ByteRows.nil) ?_))
       | (with_reducible refine Br.mk (fun hb => ?_) (fun hb => ?_) <;> (try rw [hb]) <;> (try simp only [List.length_map, decide_eq_true_eq, decide_eq_false_iff_not, Bool.not_eq_true', Bool.not_eq_false', Int.ofNat_lt, Int.ofNat_le, Int.not_lt, Int.not_le, Int.toNat_natCast] at hb))
       | ((with_reducible first | refine Or.inl (And.intro ?_ ?_) | refine And.intro ?_ ?_); (focus (first | with_reducible rfl | exact trivial | (exact ⟨rfl, trivial⟩) | (exact ⟨rfl, rfl, trivial⟩) | omega | (intro r hr; simp only [List.mem_singleton] at hr; subst hr; rfl)  | ((simp only [in64, maxLen] at *; omega)) | ((exact ⟨by omega, by omega, by decide⟩)) | ((exact ⟨by omega, by decide⟩)) | ((exact ⟨rfl, by omega, by omega⟩)) | ((simp only [List.length_map, List.length_cons, List.length_nil, evN, plN, snN, List.length_range]; omega)) | ((rw [List.length_replicate]; simp only [maxLen]; omega)) | (simp only [in64]; omega) | assumption | (simp; done) | (simp [V.cells]; done) | (simp [in64, maxLen, limK] at *; omega) | ((show confB _ _ = true); kernel_rfl) | rfl)))
       | (intro row hrow; (try simp only [Int.toNat_natCast, List.length_map, toNat_pred, toNat_succ', toNat_zero', toNat_one'] at hrow); (first | (have hsm := same_map (by assumption) hrow; subst hsm; clear hrow) | (obtain ⟨p, hp, rfl⟩ := of_map hrow; clear hrow)))))
      all_goals (try first | with_reducible assumption | ((first | show (_ : Int) ≤ _ | show (_ : Nat) ≤ _ | show (_ : Int) < _ | show ¬ (_ : Int) = _); (first | omega | (simp at *; omega) | (simp; done) | (simp [maxLen]; done))) | ((show in64 _); (simp only [in64] at *; (first | omega | (simp at *; omega) | (simp; done) | (simp [maxLen]; done)))) | ((with_reducible refine And.intro ?_ ?_) <;> (first | omega | (simp at *; omega) | (simp; done) | (simp [maxLen]; done))))
      all_goals (first
        | (with_reducible exact absurd rfl (by assumption))
        | ((conv => whnf); (refine ⟨(i + 1), ?_⟩); (refine And.intro ?_ (And.intro ?_ ?_)); (focus (refine ⟨⟨[0, 1, 2, ?_], ?_⟩⟩; rotate_left 1; repeat' (first | (with_reducible rfl) | exact trivial | ((conv => whnf); (first | (with_reducible refine And.intro ?_ ?_) | (first | with_reducible rfl | ((first | refine congrArg V.str ?_ | refine congrArg (V.int _) ?_ | refine congrArg V.bool ?_ | refine congrArg V.sl ?_); (first | with_reducible rfl | omega | (rw [snByte i (by omega)]; exact snN_snoc i) | exact snN_snoc i | rfl | (simp; done))) | (first | with_reducible rfl | omega | (rw [snByte i (by omega)]; exact snN_snoc i) | exact snN_snoc i | rfl | (simp; done)) | rfl)))))); (focus (show i + 1 ≤ s; omega)); (focus (first | omega | (dsimp only; omega) | (simp; done) | (simp; omega) | (simp at *; omega))))
        | ((conv => whnf); (try (first | rfl | (exfalso; simp_all; done) | (exfalso; simp at *; omega))); done))

  rotate_right
  · rintro _ _
    have hlaw := lim_law e p s (254 + n3 % 3).toNat (by omega) (by omega) (by omega)
    generalize (okOf8 e p s (254 + n3 % 3).toNat) = okk at hlaw ⊢
    cases okk
    · have hl := hlaw
      have hI := letIs_fn (LL e p s (254 + n3 % 3).toNat)
      rw [hl] at hI
      have hne : True := trivial
      repeat' ((conv => whnf); (first
       | ((with_reducible show AW _ _ _ (Code.seq (Code.seq (Code.region 18 _ _) _) _) _ _ _); (refine AW.freeze 1 rfl ?_); (refine AW.freeze 2 rfl ?_); (refine AW.freeze 3 rfl ?_); (refine AW.ownC 0 21 1 rfl rfl rfl ?_); (refine AW.ownC 0 22 2 rfl rfl rfl ?_); (refine AW.ownC 0 20 3 rfl rfl rfl ?_))
       | (with_reducible first | refine AW.seq ?_ | refine AW.region base (by kernel_rfl) ?_ | refine AW.cond ?_ | refine AW.block ?_ | refine AW.ret ?_ | refine AW.exit ?_ | refine AW.skip ?_ | refine Br.t ?_ | refine Br.f ?_)
       | (with_reducible refine Br.mkT (fun hb => (by (first | (simp at hb; done) | (simp only [decide_eq_true_eq, decide_eq_false_iff_not, Bool.not_eq_true', Bool.not_eq_false'] at hb; first | omega | exact absurd hb hne | fail) | fail))) (fun hb => ?_))
       | (with_reducible refine Br.mkF (fun hb => (by (first | (simp at hb; done) | (simp only [decide_eq_true_eq, decide_eq_false_iff_not, Bool.not_eq_true', Bool.not_eq_false'] at hb; first | omega | exact absurd hb hne | fail) | fail))) (fun hb => ?_))
       | ((with_reducible refine Or.inl ?_); (conv => whnf); (with_reducible refine And.intro LitSl.mk ?_))
       | refine Br.t ?_
       | refine Br.f ?_
       | ((with_reducible refine Or.inl ?_); (conv => whnf); (first | refine ⟨_, Fn.unnil hI, ?_⟩))
       | (with_reducible refine Br.mk (fun hb => ?_) (fun hb => ?_) <;> (try rw [hb]) <;> (try simp only [List.length_map, decide_eq_true_eq, decide_eq_false_iff_not, Bool.not_eq_true', Bool.not_eq_false', Int.ofNat_lt, Int.ofNat_le, Int.not_lt, Int.not_le, Int.toNat_natCast] at hb))
       | ((with_reducible first | refine Or.inl (And.intro ?_ ?_) | refine And.intro ?_ ?_); (focus (first | with_reducible rfl | exact trivial | (exact ⟨rfl, trivial⟩) | (exact ⟨rfl, rfl, trivial⟩) | omega | (intro r hr; simp only [List.mem_singleton] at hr; subst hr; rfl)  | ((simp only [in64, maxLen] at *; omega)) | ((exact ⟨by omega, by omega, by decide⟩)) | ((exact ⟨by omega, by decide⟩)) | ((exact ⟨rfl, by omega, by omega⟩)) | ((simp only [List.length_map, List.length_cons, List.length_nil, evN, plN, snN, List.length_range]; omega)) | ((rw [List.length_replicate]; simp only [maxLen]; omega)) | (simp only [in64]; omega) | assumption | (simp; done) | (simp [V.cells]; done) | (simp [in64, maxLen, limK] at *; omega) | ((show confB _ _ = true); kernel_rfl) | rfl)))
       | (intro row hrow; (try simp only [Int.toNat_natCast, List.length_map, toNat_pred, toNat_succ', toNat_zero', toNat_one'] at hrow); (first | (have hsm := same_map (by assumption) hrow; subst hsm; clear hrow) | (obtain ⟨p, hp, rfl⟩ := of_map hrow; clear hrow)))))
      all_goals ((conv => whnf); first | done | rfl)
    · have hl := hlaw
      have hI := letIs_fn (LL e p s (254 + n3 % 3).toNat)
      rw [hl] at hI
      have hB := letBytes_ok (LL e p s (254 + n3 % 3).toNat) hl
      have hR := letRead_of (LL e p s (254 + n3 % 3).toNat) hl
      have hS := sameLetter_fn (LL e p s (254 + n3 % 3).toNat) (LL e p s (254 + n3 % 3).toNat) (letB_ws8 hl).1 (letB_ws8 hl).2
      rw [decide_eq_true rfl] at hS
      have hne : True := trivial
      repeat' ((conv => whnf); (first
       | ((with_reducible show AW _ _ _ (Code.seq (Code.seq (Code.region 18 _ _) _) _) _ _ _); (refine AW.freeze 1 rfl ?_); (refine AW.freeze 2 rfl ?_); (refine AW.freeze 3 rfl ?_); (refine AW.ownC 0 21 1 rfl rfl rfl ?_); (refine AW.ownC 0 22 2 rfl rfl rfl ?_); (refine AW.ownC 0 20 3 rfl rfl rfl ?_))
       | (with_reducible first | refine AW.seq ?_ | refine AW.region base (by kernel_rfl) ?_ | refine AW.cond ?_ | refine AW.block ?_ | refine AW.ret ?_ | refine AW.exit ?_ | refine AW.skip ?_ | refine Br.t ?_ | refine Br.f ?_)
       | (with_reducible refine Br.mkT (fun hb => (by (first | (simp at hb; done) | (simp only [decide_eq_true_eq, decide_eq_false_iff_not, Bool.not_eq_true', Bool.not_eq_false'] at hb; first | omega | exact absurd hb hne | fail) | fail))) (fun hb => ?_))
       | (with_reducible refine Br.mkF (fun hb => (by (first | (simp at hb; done) | (simp only [decide_eq_true_eq, decide_eq_false_iff_not, Bool.not_eq_true', Bool.not_eq_false'] at hb; first | omega | exact absurd hb hne | fail) | fail))) (fun hb => ?_))
       | ((with_reducible refine Or.inl ?_); (conv => whnf); (with_reducible refine And.intro LitSl.mk ?_))
       | refine Br.t ?_
       | refine Br.f ?_
       | ((with_reducible refine Or.inl ?_); (conv => whnf); (first | (with_reducible first | refine ⟨_, hR, ?_⟩) | refine ⟨_, Fn.unnil hI, ?_⟩ | refine ⟨_, Fn.unnil hB, ?_⟩ | refine ⟨_, Fn.unnil hS, ?_⟩))
       | (with_reducible refine Br.mk (fun hb => ?_) (fun hb => ?_) <;> (try rw [hb]) <;> (try simp only [List.length_map, decide_eq_true_eq, decide_eq_false_iff_not, Bool.not_eq_true', Bool.not_eq_false', Int.ofNat_lt, Int.ofNat_le, Int.not_lt, Int.not_le, Int.toNat_natCast] at hb))
       | ((with_reducible first | refine Or.inl (And.intro ?_ ?_) | refine And.intro ?_ ?_); (focus (first | with_reducible rfl | exact trivial | (exact ⟨rfl, trivial⟩) | (exact ⟨rfl, rfl, trivial⟩) | omega | (intro r hr; simp only [List.mem_singleton] at hr; subst hr; rfl)  | ((simp only [in64, maxLen] at *; omega)) | ((exact ⟨by omega, by omega, by decide⟩)) | ((exact ⟨by omega, by decide⟩)) | ((exact ⟨rfl, by omega, by omega⟩)) | ((simp only [List.length_map, List.length_cons, List.length_nil, evN, plN, snN, List.length_range]; omega)) | ((rw [List.length_replicate]; simp only [maxLen]; omega)) | (simp only [in64]; omega) | assumption | (simp; done) | (simp [V.cells]; done) | (simp [in64, maxLen, limK] at *; omega) | ((show confB _ _ = true); kernel_rfl) | rfl)))
       | (intro row hrow; (try simp only [Int.toNat_natCast, List.length_map, toNat_pred, toNat_succ', toNat_zero', toNat_one'] at hrow); (first | (have hsm := same_map (by assumption) hrow; subst hsm; clear hrow) | (obtain ⟨p, hp, rfl⟩ := of_map hrow; clear hrow)))))
      all_goals ((conv => whnf); first | done | rfl)
  all_goals repeat' ((conv => whnf); (first
   | (with_reducible first | refine AW.seq ?_ | refine AW.region base (by kernel_rfl) ?_ | refine AW.cond ?_ | refine AW.block ?_ | refine AW.ret ?_ | refine AW.exit ?_ | refine AW.skip ?_ | refine Br.t ?_ | refine Br.f ?_)
   | ((with_reducible refine Or.inl ?_); (conv => whnf); (with_reducible refine And.intro LitSl.mk ?_))
   | refine Br.t ?_
   | refine Br.f ?_
   | (with_reducible refine Br.mk (fun hb => ?_) (fun hb => ?_) <;> (try rw [hb]) <;> (try simp only [List.length_map, decide_eq_true_eq, decide_eq_false_iff_not, Bool.not_eq_true', Bool.not_eq_false', Int.ofNat_lt, Int.ofNat_le, Int.not_lt, Int.not_le, Int.toNat_natCast] at hb))
   | ((with_reducible first | refine Or.inl (And.intro ?_ ?_) | refine And.intro ?_ ?_); (focus (first | with_reducible rfl | exact trivial | (exact ⟨rfl, trivial⟩) | (exact ⟨rfl, rfl, trivial⟩) | omega | (intro r hr; simp only [List.mem_singleton] at hr; subst hr; rfl)  | ((simp only [in64, maxLen] at *; omega)) | ((exact ⟨by omega, by omega, by decide⟩)) | ((exact ⟨by omega, by decide⟩)) | ((exact ⟨rfl, by omega, by omega⟩)) | ((simp only [List.length_map, List.length_cons, List.length_nil, evN, plN, snN, List.length_range]; omega)) | ((rw [List.length_replicate]; simp only [maxLen]; omega)) | (simp only [in64]; omega) | assumption | (simp; done) | (simp [V.cells]; done) | (simp [in64, maxLen, limK] at *; omega) | ((show confB _ _ = true); kernel_rfl) | rfl)))
   | (intro row hrow; (try simp only [Int.toNat_natCast, List.length_map, toNat_pred, toNat_succ', toNat_zero', toNat_one'] at hrow); (first | (have hsm := same_map (by assumption) hrow; subst hsm; clear hrow) | (obtain ⟨p, hp, rfl⟩ := of_map hrow; clear hrow)))))
  all_goals ((conv => whnf); (refine ⟨(), ?_, trivial⟩; (refine ⟨⟨[0, 1, 2, 3], ?_⟩⟩; repeat' (first | (with_reducible rfl) | exact trivial | ((conv => whnf); (first | (with_reducible refine And.intro ?_ ?_) | (first | with_reducible rfl | ((first | refine congrArg V.str ?_ | refine congrArg (V.int _) ?_ | refine congrArg V.bool ?_ | refine congrArg V.sl ?_); (first | with_reducible rfl | omega | (unfold okOf8; rw [Bool.eq_iff_iff]; simp; omega) | rfl | (simp; done))) | (first | with_reducible rfl | omega | (unfold okOf8; rw [Bool.eq_iff_iff]; simp; omega) | rfl | (simp; done)) | rfl)))))))
end Go.Proofs.YtnblecdpkbempaaGreatDoor
