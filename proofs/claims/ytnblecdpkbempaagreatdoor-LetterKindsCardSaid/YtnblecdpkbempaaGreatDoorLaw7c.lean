/-
  A law of letters: what a kind has not it may not have; addresses that nobody has are none: its walk. No conditions.
-/
import Derived.Test.YtnblecdpkbempaaGreatDoorLaw7k
namespace Go.Proofs.YtnblecdpkbempaaGreatDoor
open Go.RowKit
set_option linter.unusedSimpArgs false
set_option linter.unusedVariables false

def whoF (i : Int) : Int := match i.toNat with | 0 => 0 | 1 => 2 | 2 => 3 | 3 => 100 | 4 => 200 | 5 => 202 | 6 => 203 | _ => -1
def goodF (i : Int) : Bool := match i.toNat with | 0 => true | 1 => true | 2 => false | 3 => true | 4 => true | 5 => true | _ => false
theorem good_who (i : Int) : addrB (whoF i) = goodF i := by
  unfold whoF goodF
  generalize i.toNat = n
  match n with
  | 0 => rfl
  | 1 => rfl
  | 2 => rfl
  | 3 => rfl
  | 4 => rfl
  | 5 => rfl
  | 6 => rfl
  | _ + 7 => rfl
def okOf7 (k i j : Int) (b c : Bool) : Bool := decide (1 ≤ k) && (decide (k ≤ 21) && (goodF i && (goodF j && ((b == decide (k = 1)) && (!c || decide (k = 2))))))
def opOf (b : Bool) : OpV := if b then ⟨1, [107], [], [], 0, []⟩ else zeroO
def anOf (b : Bool) : AnV := if b then ⟨0, [], 3, []⟩ else zeroA
def LK (k i j : Int) (b c : Bool) : LetV := ⟨k, whoF i, whoF j, 0, 0, 0, 0, 0, opOf b, anOf c, [], [], [], [], [], []⟩
theorem kinds_law (k i j : Int) (b c : Bool) : letB (LK k i j b c) = okOf7 k i j b c := by
  have hrest : letB (LK k i j b c) = (kindL (LK k i j b c) && addrB (whoF i) && addrB (whoF j)) := by
    unfold letB
    rw [show (numsL (LK k i j b c)).any badI = false from rfl, show isB ⟨(LK k i j b c).f, (LK k i j b c).t⟩ = true from rfl, show snsB none (LK k i j b c).seen = true from rfl,
      show ((LK k i j b c).ev.any fun x => !evB x) = false from rfl, show ((LK k i j b c).pl.any fun x => !plB x) = false from rfl, show decide ((LK k i j b c).data.length ≤ 255) = true from rfl,
      show decide ((LK k i j b c).seen.length ≤ 60) = true from rfl, show decide ((LK k i j b c).ev.length ≤ 8) = true from rfl, show decide ((LK k i j b c).pl.length ≤ 8) = true from rfl]
    simp [LK]
  have hop : ∀ b, opB (opOf b) = b := fun b => by cases b <;> kernel_rfl
  have hoz : ∀ b, decide (opOf b = zeroO) = !b := fun b => by cases b <;> rfl
  have han : ∀ c, anB (anOf c) = true := fun c => by cases c <;> rfl
  have haz : ∀ c, decide (anOf c = zeroA) = !c := fun c => by cases c <;> rfl
  rw [hrest, good_who, good_who]
  unfold kindL okOf7
  simp only [LK, hop, hoz, han, haz]
  by_cases h1 : k = 1
  · subst h1
    cases b <;> cases c <;> cases goodF i <;> cases goodF j <;> rfl
  · by_cases h2 : k = 2
    · subst h2
      cases b <;> cases c <;> cases goodF i <;> cases goodF j <;> rfl
    · cases b <;> cases c <;> simp [h1, h2, opOf, anOf, zeroO, zeroA] <;> cases goodF i <;> cases goodF j <;> first | (simp; done) | rfl | (simp; rfl)
theorem who_get (i : Int) (h : 0 ≤ i ∧ i < 8) : [V.int .i64 0, V.int .i64 2, V.int .i64 3, V.int .i64 100, V.int .i64 200, V.int .i64 202, V.int .i64 203, V.int .i64 (-1)][0 + i.toNat]? = some (V.int .i64 (whoF i)) := by
  rcases (by omega : i = 0 ∨ i = 1 ∨ i = 2 ∨ i = 3 ∨ i = 4 ∨ i = 5 ∨ i = 6 ∨ i = 7) with rfl | rfl | rfl | rfl | rfl | rfl | rfl | rfl <;> rfl
theorem good_get (i : Int) (h : 0 ≤ i ∧ i < 8) : [V.bool true, V.bool true, V.bool false, V.bool true, V.bool true, V.bool true, V.bool false, V.bool false][0 + i.toNat]? = some (V.bool (goodF i)) := by
  rcases (by omega : i = 0 ∨ i = 1 ∨ i = 2 ∨ i = 3 ∨ i = 4 ∨ i = 5 ∨ i = 6 ∨ i = 7) with rfl | rfl | rfl | rfl | rfl | rfl | rfl | rfl <;> rfl

theorem letB_ws7 {l : LetV} (h : letB l = true) : l.op.ws.length ≤ 1000000 ∧ l.an.rows.length ≤ 1000000 := by
  have ok := letOk h
  constructor
  · by_cases hk : l.kind = 1
    · have := (op_bounds (ok.op hk)).2.2.2.1; omega
    · rw [ok.op0 hk]; simp [zeroO]
  · by_cases hk : l.kind = 2
    · have := (an_bounds (ok.an hk)).2.2.2.1; omega
    · rw [ok.an0 hk]; simp [zeroA]

set_option maxRecDepth 100000 in
set_option maxHeartbeats 2000000 in
theorem letterKinds_00 (n0 n1 n2 : Int) (g0 : 0 ≤ n0 ∧ n0 ≤ 255) (g1 : 0 ≤ n1 ∧ n1 ≤ 255) (g2 : 0 ≤ n2 ∧ n2 ≤ 255) : Fn Tryz.prog 6 [.int .u8 n0, .int .u8 n1, .int .u8 n2, .bool false, .bool false] (.bool true) := by
  refine Fn.mk' base Tryz.func6 rfl rfl rfl ?_
  repeat' ((conv => whnf); (first
   | ((with_reducible show AW _ _ _ (Code.seq (Code.region 10 _ _) _) _ _ _); (refine AW.join (fun (_ : Unit) => True) (fun _ => ⟨[(13, .ptr 0 0), (14, .bool (okOf7 (n0 % 24) (n1 % 8) (n2 % 8) false false))], [.cells [.int .i64 (n0 % 24), .int .i64 (whoF (n1 % 8)), .int .i64 (whoF (n2 % 8)), .int .i64 0, .int .i64 0, .int .i64 0, .int .i64 0, .int .i64 0, .int .i64 0, .str [], .str [], .str [], .int .i64 0, .nils, .int .i64 0, .str [], .int .i64 0, .nils, .str [], .str [], .nils, .nils, .nils, .str []]]⟩) ?_ ?_))
   | (with_reducible first | refine AW.seq ?_ | refine AW.region base (by kernel_rfl) ?_ | refine AW.cond ?_ | refine AW.block ?_ | refine AW.ret ?_ | refine AW.exit ?_ | refine AW.skip ?_ | refine Br.t ?_ | refine Br.f ?_)
   | ((with_reducible refine Or.inl ?_); (conv => whnf); (with_reducible refine And.intro LitSl.mk ?_))
   | refine Br.t ?_
   | refine Br.f ?_
   | (with_reducible refine nthK_mk _ _ (who_get (n1 % 8) (by omega)) ?_)
   | (with_reducible refine nthK_mk _ _ (who_get (n2 % 8) (by omega)) ?_)
   | (with_reducible refine nthK_mk _ _ (good_get (n1 % 8) (by omega)) ?_)
   | (with_reducible refine nthK_mk _ _ (good_get (n2 % 8) (by omega)) ?_)
   | ((with_reducible refine Or.inl ?_); (conv => whnf); (first | (with_reducible first | refine ⟨_, known7_fn, ?_⟩)))
   | (with_reducible refine Br.mk (fun hb => ?_) (fun hb => ?_) <;> (try rw [hb]) <;> (try simp only [List.length_map, decide_eq_true_eq, decide_eq_false_iff_not, Bool.not_eq_true', Bool.not_eq_false', Int.ofNat_lt, Int.ofNat_le, Int.not_lt, Int.not_le, Int.toNat_natCast] at hb))
   | ((with_reducible first | refine Or.inl (And.intro ?_ ?_) | refine And.intro ?_ ?_); (focus (first | with_reducible rfl | exact trivial | (exact ⟨rfl, trivial⟩) | (exact ⟨rfl, rfl, trivial⟩) | omega | (intro r hr; simp only [List.mem_singleton] at hr; subst hr; rfl)  | ((simp only [in64, maxLen] at *; omega)) | ((exact ⟨by omega, by omega, by decide⟩)) | ((exact ⟨by omega, by decide⟩)) | (simp only [in64]; omega) | assumption | (simp; done) | (simp [V.cells]; done) | (simp [in64, maxLen, limK] at *; omega) | ((show confB _ _ = true); kernel_rfl) | rfl)))
   | (intro row hrow; (try simp only [Int.toNat_natCast, List.length_map, toNat_pred, toNat_succ', toNat_zero', toNat_one'] at hrow); (first | (have hsm := same_map (by assumption) hrow; subst hsm; clear hrow) | (obtain ⟨p, hp, rfl⟩ := of_map hrow; clear hrow)))))
  rotate_right
  · rintro _ _
    have hlaw := kinds_law (n0 % 24) (n1 % 8) (n2 % 8) false false
    generalize (okOf7 (n0 % 24) (n1 % 8) (n2 % 8) false false) = okk at hlaw ⊢
    cases okk
    · have hl := hlaw
      have hI := letIs_fn (LK (n0 % 24) (n1 % 8) (n2 % 8) false false)
      rw [hl] at hI
      have hB := letBytes_not (LK (n0 % 24) (n1 % 8) (n2 % 8) false false) hl
      have hne : True := trivial
      repeat' ((conv => whnf); (first
       | (with_reducible first | refine AW.seq ?_ | refine AW.region base (by kernel_rfl) ?_ | refine AW.cond ?_ | refine AW.block ?_ | refine AW.ret ?_ | refine AW.exit ?_ | refine AW.skip ?_ | refine Br.t ?_ | refine Br.f ?_)
       | (with_reducible refine Br.mkT (fun hb => (by (first | (simp at hb; done) | (simp only [decide_eq_true_eq, decide_eq_false_iff_not, Bool.not_eq_true', Bool.not_eq_false'] at hb; first | omega | exact absurd hb hne | fail) | fail))) (fun hb => ?_))
       | (with_reducible refine Br.mkF (fun hb => (by (first | (simp at hb; done) | (simp only [decide_eq_true_eq, decide_eq_false_iff_not, Bool.not_eq_true', Bool.not_eq_false'] at hb; first | omega | exact absurd hb hne | fail) | fail))) (fun hb => ?_))
       | ((with_reducible refine Or.inl ?_); (conv => whnf); (with_reducible refine And.intro LitSl.mk ?_))
       | refine Br.t ?_
       | refine Br.f ?_
       | ((with_reducible refine Or.inl ?_); (conv => whnf); (first | refine ⟨_, Fn.unnil hI, ?_⟩ | refine ⟨_, Fn.unnil hB, ?_⟩))
       | (with_reducible refine Br.mk (fun hb => ?_) (fun hb => ?_) <;> (try rw [hb]) <;> (try simp only [List.length_map, decide_eq_true_eq, decide_eq_false_iff_not, Bool.not_eq_true', Bool.not_eq_false', Int.ofNat_lt, Int.ofNat_le, Int.not_lt, Int.not_le, Int.toNat_natCast] at hb))
       | ((with_reducible first | refine Or.inl (And.intro ?_ ?_) | refine And.intro ?_ ?_); (focus (first | with_reducible rfl | exact trivial | (exact ⟨rfl, trivial⟩) | (exact ⟨rfl, rfl, trivial⟩) | omega | (intro r hr; simp only [List.mem_singleton] at hr; subst hr; rfl)  | ((simp only [in64, maxLen] at *; omega)) | ((exact ⟨by omega, by omega, by decide⟩)) | ((exact ⟨by omega, by decide⟩)) | (simp only [in64]; omega) | assumption | (simp; done) | (simp [V.cells]; done) | (simp [in64, maxLen, limK] at *; omega) | ((show confB _ _ = true); kernel_rfl) | rfl)))
       | (intro row hrow; (try simp only [Int.toNat_natCast, List.length_map, toNat_pred, toNat_succ', toNat_zero', toNat_one'] at hrow); (first | (have hsm := same_map (by assumption) hrow; subst hsm; clear hrow) | (obtain ⟨p, hp, rfl⟩ := of_map hrow; clear hrow)))))
      all_goals ((conv => whnf); first | done | rfl)
    · have hl := hlaw
      have hI := letIs_fn (LK (n0 % 24) (n1 % 8) (n2 % 8) false false)
      rw [hl] at hI
      have hB := letBytes_ok (LK (n0 % 24) (n1 % 8) (n2 % 8) false false) hl
      have hR := letRead_of (LK (n0 % 24) (n1 % 8) (n2 % 8) false false) hl
      have hS := sameLetter_fn (LK (n0 % 24) (n1 % 8) (n2 % 8) false false) (LK (n0 % 24) (n1 % 8) (n2 % 8) false false) (letB_ws7 hl).1 (letB_ws7 hl).2
      rw [decide_eq_true rfl] at hS
      have hne : ¬ bytesL (LK (n0 % 24) (n1 % 8) (n2 % 8) false false) = [] := fun e => by have := (bytesL_len hl).2; rw [e] at this; simp at this
      repeat' ((conv => whnf); (first
       | (with_reducible first | refine AW.seq ?_ | refine AW.region base (by kernel_rfl) ?_ | refine AW.cond ?_ | refine AW.block ?_ | refine AW.ret ?_ | refine AW.exit ?_ | refine AW.skip ?_ | refine Br.t ?_ | refine Br.f ?_)
       | (with_reducible refine Br.mkT (fun hb => (by (first | (simp at hb; done) | (simp only [decide_eq_true_eq, decide_eq_false_iff_not, Bool.not_eq_true', Bool.not_eq_false'] at hb; first | omega | exact absurd hb hne | fail) | fail))) (fun hb => ?_))
       | (with_reducible refine Br.mkF (fun hb => (by (first | (simp at hb; done) | (simp only [decide_eq_true_eq, decide_eq_false_iff_not, Bool.not_eq_true', Bool.not_eq_false'] at hb; first | omega | exact absurd hb hne | fail) | fail))) (fun hb => ?_))
       | ((with_reducible refine Or.inl ?_); (conv => whnf); (with_reducible refine And.intro LitSl.mk ?_))
       | refine Br.t ?_
       | refine Br.f ?_
       | ((with_reducible refine Or.inl ?_); (conv => whnf); (first | (with_reducible first | refine ⟨_, hR, ?_⟩) | refine ⟨_, Fn.unnil hI, ?_⟩ | refine ⟨_, Fn.unnil hB, ?_⟩ | refine ⟨_, Fn.unnil hS, ?_⟩))
       | (with_reducible refine Br.mk (fun hb => ?_) (fun hb => ?_) <;> (try rw [hb]) <;> (try simp only [List.length_map, decide_eq_true_eq, decide_eq_false_iff_not, Bool.not_eq_true', Bool.not_eq_false', Int.ofNat_lt, Int.ofNat_le, Int.not_lt, Int.not_le, Int.toNat_natCast] at hb))
       | ((with_reducible first | refine Or.inl (And.intro ?_ ?_) | refine And.intro ?_ ?_); (focus (first | with_reducible rfl | exact trivial | (exact ⟨rfl, trivial⟩) | (exact ⟨rfl, rfl, trivial⟩) | omega | (intro r hr; simp only [List.mem_singleton] at hr; subst hr; rfl)  | ((simp only [in64, maxLen] at *; omega)) | ((exact ⟨by omega, by omega, by decide⟩)) | ((exact ⟨by omega, by decide⟩)) | (simp only [in64]; omega) | assumption | (simp; done) | (simp [V.cells]; done) | (simp [in64, maxLen, limK] at *; omega) | ((show confB _ _ = true); kernel_rfl) | rfl)))
       | (intro row hrow; (try simp only [Int.toNat_natCast, List.length_map, toNat_pred, toNat_succ', toNat_zero', toNat_one'] at hrow); (first | (have hsm := same_map (by assumption) hrow; subst hsm; clear hrow) | (obtain ⟨p, hp, rfl⟩ := of_map hrow; clear hrow)))))
      all_goals ((conv => whnf); first | done | rfl)
  all_goals ((conv => whnf); (refine ⟨(), ?_, trivial⟩; (refine ⟨⟨[6012], ?_⟩⟩; repeat' (first | (with_reducible rfl) | exact trivial | ((conv => whnf); (first | (with_reducible refine And.intro ?_ ?_) | (first | with_reducible rfl | ((first | refine congrArg V.str ?_ | refine congrArg (V.int _) ?_ | refine congrArg V.bool ?_ | refine congrArg V.sl ?_); (first | with_reducible rfl | omega | (simp [okOf7, *]; done) | (simp_all [okOf7]; done) | (simp [okOf7, *]; omega) | rfl | (simp; done))) | (first | with_reducible rfl | omega | (simp [okOf7, *]; done) | (simp_all [okOf7]; done) | (simp [okOf7, *]; omega) | rfl | (simp; done)) | rfl)))))))

set_option maxRecDepth 100000 in
set_option maxHeartbeats 2000000 in
theorem letterKinds_01 (n0 n1 n2 : Int) (g0 : 0 ≤ n0 ∧ n0 ≤ 255) (g1 : 0 ≤ n1 ∧ n1 ≤ 255) (g2 : 0 ≤ n2 ∧ n2 ≤ 255) : Fn Tryz.prog 6 [.int .u8 n0, .int .u8 n1, .int .u8 n2, .bool false, .bool true] (.bool true) := by
  refine Fn.mk' base Tryz.func6 rfl rfl rfl ?_
  repeat' ((conv => whnf); (first
   | ((with_reducible show AW _ _ _ (Code.seq (Code.region 10 _ _) _) _ _ _); (refine AW.join (fun (_ : Unit) => True) (fun _ => ⟨[(13, .ptr 0 0), (14, .bool (okOf7 (n0 % 24) (n1 % 8) (n2 % 8) false true))], [.cells [.int .i64 (n0 % 24), .int .i64 (whoF (n1 % 8)), .int .i64 (whoF (n2 % 8)), .int .i64 0, .int .i64 0, .int .i64 0, .int .i64 0, .int .i64 0, .int .i64 0, .str [], .str [], .str [], .int .i64 0, .nils, .int .i64 0, .str [], .int .i64 3, .nils, .str [], .str [], .nils, .nils, .nils, .str []]]⟩) ?_ ?_))
   | (with_reducible first | refine AW.seq ?_ | refine AW.region base (by kernel_rfl) ?_ | refine AW.cond ?_ | refine AW.block ?_ | refine AW.ret ?_ | refine AW.exit ?_ | refine AW.skip ?_ | refine Br.t ?_ | refine Br.f ?_)
   | ((with_reducible refine Or.inl ?_); (conv => whnf); (with_reducible refine And.intro LitSl.mk ?_))
   | refine Br.t ?_
   | refine Br.f ?_
   | (with_reducible refine nthK_mk _ _ (who_get (n1 % 8) (by omega)) ?_)
   | (with_reducible refine nthK_mk _ _ (who_get (n2 % 8) (by omega)) ?_)
   | (with_reducible refine nthK_mk _ _ (good_get (n1 % 8) (by omega)) ?_)
   | (with_reducible refine nthK_mk _ _ (good_get (n2 % 8) (by omega)) ?_)
   | ((with_reducible refine Or.inl ?_); (conv => whnf); (first | (with_reducible first | refine ⟨_, known7_fn, ?_⟩)))
   | (with_reducible refine Br.mk (fun hb => ?_) (fun hb => ?_) <;> (try rw [hb]) <;> (try simp only [List.length_map, decide_eq_true_eq, decide_eq_false_iff_not, Bool.not_eq_true', Bool.not_eq_false', Int.ofNat_lt, Int.ofNat_le, Int.not_lt, Int.not_le, Int.toNat_natCast] at hb))
   | ((with_reducible first | refine Or.inl (And.intro ?_ ?_) | refine And.intro ?_ ?_); (focus (first | with_reducible rfl | exact trivial | (exact ⟨rfl, trivial⟩) | (exact ⟨rfl, rfl, trivial⟩) | omega | (intro r hr; simp only [List.mem_singleton] at hr; subst hr; rfl)  | ((simp only [in64, maxLen] at *; omega)) | ((exact ⟨by omega, by omega, by decide⟩)) | ((exact ⟨by omega, by decide⟩)) | (simp only [in64]; omega) | assumption | (simp; done) | (simp [V.cells]; done) | (simp [in64, maxLen, limK] at *; omega) | ((show confB _ _ = true); kernel_rfl) | rfl)))
   | (intro row hrow; (try simp only [Int.toNat_natCast, List.length_map, toNat_pred, toNat_succ', toNat_zero', toNat_one'] at hrow); (first | (have hsm := same_map (by assumption) hrow; subst hsm; clear hrow) | (obtain ⟨p, hp, rfl⟩ := of_map hrow; clear hrow)))))
  rotate_right
  · rintro _ _
    have hlaw := kinds_law (n0 % 24) (n1 % 8) (n2 % 8) false true
    generalize (okOf7 (n0 % 24) (n1 % 8) (n2 % 8) false true) = okk at hlaw ⊢
    cases okk
    · have hl := hlaw
      have hI := letIs_fn (LK (n0 % 24) (n1 % 8) (n2 % 8) false true)
      rw [hl] at hI
      have hB := letBytes_not (LK (n0 % 24) (n1 % 8) (n2 % 8) false true) hl
      have hne : True := trivial
      repeat' ((conv => whnf); (first
       | (with_reducible first | refine AW.seq ?_ | refine AW.region base (by kernel_rfl) ?_ | refine AW.cond ?_ | refine AW.block ?_ | refine AW.ret ?_ | refine AW.exit ?_ | refine AW.skip ?_ | refine Br.t ?_ | refine Br.f ?_)
       | (with_reducible refine Br.mkT (fun hb => (by (first | (simp at hb; done) | (simp only [decide_eq_true_eq, decide_eq_false_iff_not, Bool.not_eq_true', Bool.not_eq_false'] at hb; first | omega | exact absurd hb hne | fail) | fail))) (fun hb => ?_))
       | (with_reducible refine Br.mkF (fun hb => (by (first | (simp at hb; done) | (simp only [decide_eq_true_eq, decide_eq_false_iff_not, Bool.not_eq_true', Bool.not_eq_false'] at hb; first | omega | exact absurd hb hne | fail) | fail))) (fun hb => ?_))
       | ((with_reducible refine Or.inl ?_); (conv => whnf); (with_reducible refine And.intro LitSl.mk ?_))
       | refine Br.t ?_
       | refine Br.f ?_
       | ((with_reducible refine Or.inl ?_); (conv => whnf); (first | refine ⟨_, Fn.unnil hI, ?_⟩ | refine ⟨_, Fn.unnil hB, ?_⟩))
       | (with_reducible refine Br.mk (fun hb => ?_) (fun hb => ?_) <;> (try rw [hb]) <;> (try simp only [List.length_map, decide_eq_true_eq, decide_eq_false_iff_not, Bool.not_eq_true', Bool.not_eq_false', Int.ofNat_lt, Int.ofNat_le, Int.not_lt, Int.not_le, Int.toNat_natCast] at hb))
       | ((with_reducible first | refine Or.inl (And.intro ?_ ?_) | refine And.intro ?_ ?_); (focus (first | with_reducible rfl | exact trivial | (exact ⟨rfl, trivial⟩) | (exact ⟨rfl, rfl, trivial⟩) | omega | (intro r hr; simp only [List.mem_singleton] at hr; subst hr; rfl)  | ((simp only [in64, maxLen] at *; omega)) | ((exact ⟨by omega, by omega, by decide⟩)) | ((exact ⟨by omega, by decide⟩)) | (simp only [in64]; omega) | assumption | (simp; done) | (simp [V.cells]; done) | (simp [in64, maxLen, limK] at *; omega) | ((show confB _ _ = true); kernel_rfl) | rfl)))
       | (intro row hrow; (try simp only [Int.toNat_natCast, List.length_map, toNat_pred, toNat_succ', toNat_zero', toNat_one'] at hrow); (first | (have hsm := same_map (by assumption) hrow; subst hsm; clear hrow) | (obtain ⟨p, hp, rfl⟩ := of_map hrow; clear hrow)))))
      all_goals ((conv => whnf); first | done | rfl)
    · have hl := hlaw
      have hI := letIs_fn (LK (n0 % 24) (n1 % 8) (n2 % 8) false true)
      rw [hl] at hI
      have hB := letBytes_ok (LK (n0 % 24) (n1 % 8) (n2 % 8) false true) hl
      have hR := letRead_of (LK (n0 % 24) (n1 % 8) (n2 % 8) false true) hl
      have hS := sameLetter_fn (LK (n0 % 24) (n1 % 8) (n2 % 8) false true) (LK (n0 % 24) (n1 % 8) (n2 % 8) false true) (letB_ws7 hl).1 (letB_ws7 hl).2
      rw [decide_eq_true rfl] at hS
      have hne : ¬ bytesL (LK (n0 % 24) (n1 % 8) (n2 % 8) false true) = [] := fun e => by have := (bytesL_len hl).2; rw [e] at this; simp at this
      repeat' ((conv => whnf); (first
       | (with_reducible first | refine AW.seq ?_ | refine AW.region base (by kernel_rfl) ?_ | refine AW.cond ?_ | refine AW.block ?_ | refine AW.ret ?_ | refine AW.exit ?_ | refine AW.skip ?_ | refine Br.t ?_ | refine Br.f ?_)
       | (with_reducible refine Br.mkT (fun hb => (by (first | (simp at hb; done) | (simp only [decide_eq_true_eq, decide_eq_false_iff_not, Bool.not_eq_true', Bool.not_eq_false'] at hb; first | omega | exact absurd hb hne | fail) | fail))) (fun hb => ?_))
       | (with_reducible refine Br.mkF (fun hb => (by (first | (simp at hb; done) | (simp only [decide_eq_true_eq, decide_eq_false_iff_not, Bool.not_eq_true', Bool.not_eq_false'] at hb; first | omega | exact absurd hb hne | fail) | fail))) (fun hb => ?_))
       | ((with_reducible refine Or.inl ?_); (conv => whnf); (with_reducible refine And.intro LitSl.mk ?_))
       | refine Br.t ?_
       | refine Br.f ?_
       | ((with_reducible refine Or.inl ?_); (conv => whnf); (first | (with_reducible first | refine ⟨_, hR, ?_⟩) | refine ⟨_, Fn.unnil hI, ?_⟩ | refine ⟨_, Fn.unnil hB, ?_⟩ | refine ⟨_, Fn.unnil hS, ?_⟩))
       | (with_reducible refine Br.mk (fun hb => ?_) (fun hb => ?_) <;> (try rw [hb]) <;> (try simp only [List.length_map, decide_eq_true_eq, decide_eq_false_iff_not, Bool.not_eq_true', Bool.not_eq_false', Int.ofNat_lt, Int.ofNat_le, Int.not_lt, Int.not_le, Int.toNat_natCast] at hb))
       | ((with_reducible first | refine Or.inl (And.intro ?_ ?_) | refine And.intro ?_ ?_); (focus (first | with_reducible rfl | exact trivial | (exact ⟨rfl, trivial⟩) | (exact ⟨rfl, rfl, trivial⟩) | omega | (intro r hr; simp only [List.mem_singleton] at hr; subst hr; rfl)  | ((simp only [in64, maxLen] at *; omega)) | ((exact ⟨by omega, by omega, by decide⟩)) | ((exact ⟨by omega, by decide⟩)) | (simp only [in64]; omega) | assumption | (simp; done) | (simp [V.cells]; done) | (simp [in64, maxLen, limK] at *; omega) | ((show confB _ _ = true); kernel_rfl) | rfl)))
       | (intro row hrow; (try simp only [Int.toNat_natCast, List.length_map, toNat_pred, toNat_succ', toNat_zero', toNat_one'] at hrow); (first | (have hsm := same_map (by assumption) hrow; subst hsm; clear hrow) | (obtain ⟨p, hp, rfl⟩ := of_map hrow; clear hrow)))))
      all_goals ((conv => whnf); first | done | rfl)
  all_goals ((conv => whnf); (refine ⟨(), ?_, trivial⟩; (refine ⟨⟨[6012], ?_⟩⟩; repeat' (first | (with_reducible rfl) | exact trivial | ((conv => whnf); (first | (with_reducible refine And.intro ?_ ?_) | (first | with_reducible rfl | ((first | refine congrArg V.str ?_ | refine congrArg (V.int _) ?_ | refine congrArg V.bool ?_ | refine congrArg V.sl ?_); (first | with_reducible rfl | omega | (simp [okOf7, *]; done) | (simp_all [okOf7]; done) | (simp [okOf7, *]; omega) | rfl | (simp; done))) | (first | with_reducible rfl | omega | (simp [okOf7, *]; done) | (simp_all [okOf7]; done) | (simp [okOf7, *]; omega) | rfl | (simp; done)) | rfl)))))))

set_option maxRecDepth 100000 in
set_option maxHeartbeats 2000000 in
theorem letterKinds_10 (n0 n1 n2 : Int) (g0 : 0 ≤ n0 ∧ n0 ≤ 255) (g1 : 0 ≤ n1 ∧ n1 ≤ 255) (g2 : 0 ≤ n2 ∧ n2 ≤ 255) : Fn Tryz.prog 6 [.int .u8 n0, .int .u8 n1, .int .u8 n2, .bool true, .bool false] (.bool true) := by
  refine Fn.mk' base Tryz.func6 rfl rfl rfl ?_
  repeat' ((conv => whnf); (first
   | ((with_reducible show AW _ _ _ (Code.seq (Code.region 10 _ _) _) _ _ _); (refine AW.join (fun (_ : Unit) => True) (fun _ => ⟨[(13, .ptr 0 0), (14, .bool (okOf7 (n0 % 24) (n1 % 8) (n2 % 8) true false))], [.cells [.int .i64 (n0 % 24), .int .i64 (whoF (n1 % 8)), .int .i64 (whoF (n2 % 8)), .int .i64 0, .int .i64 0, .int .i64 0, .int .i64 0, .int .i64 0, .int .i64 1, .str [107], .str [], .str [], .int .i64 0, .nils, .int .i64 0, .str [], .int .i64 0, .nils, .str [], .str [], .nils, .nils, .nils, .str []]]⟩) ?_ ?_))
   | (with_reducible first | refine AW.seq ?_ | refine AW.region base (by kernel_rfl) ?_ | refine AW.cond ?_ | refine AW.block ?_ | refine AW.ret ?_ | refine AW.exit ?_ | refine AW.skip ?_ | refine Br.t ?_ | refine Br.f ?_)
   | ((with_reducible refine Or.inl ?_); (conv => whnf); (with_reducible refine And.intro LitSl.mk ?_))
   | refine Br.t ?_
   | refine Br.f ?_
   | (with_reducible refine nthK_mk _ _ (who_get (n1 % 8) (by omega)) ?_)
   | (with_reducible refine nthK_mk _ _ (who_get (n2 % 8) (by omega)) ?_)
   | (with_reducible refine nthK_mk _ _ (good_get (n1 % 8) (by omega)) ?_)
   | (with_reducible refine nthK_mk _ _ (good_get (n2 % 8) (by omega)) ?_)
   | ((with_reducible refine Or.inl ?_); (conv => whnf); (first | (with_reducible first | refine ⟨_, known7_fn, ?_⟩)))
   | (with_reducible refine Br.mk (fun hb => ?_) (fun hb => ?_) <;> (try rw [hb]) <;> (try simp only [List.length_map, decide_eq_true_eq, decide_eq_false_iff_not, Bool.not_eq_true', Bool.not_eq_false', Int.ofNat_lt, Int.ofNat_le, Int.not_lt, Int.not_le, Int.toNat_natCast] at hb))
   | ((with_reducible first | refine Or.inl (And.intro ?_ ?_) | refine And.intro ?_ ?_); (focus (first | with_reducible rfl | exact trivial | (exact ⟨rfl, trivial⟩) | (exact ⟨rfl, rfl, trivial⟩) | omega | (intro r hr; simp only [List.mem_singleton] at hr; subst hr; rfl)  | ((simp only [in64, maxLen] at *; omega)) | ((exact ⟨by omega, by omega, by decide⟩)) | ((exact ⟨by omega, by decide⟩)) | (simp only [in64]; omega) | assumption | (simp; done) | (simp [V.cells]; done) | (simp [in64, maxLen, limK] at *; omega) | ((show confB _ _ = true); kernel_rfl) | rfl)))
   | (intro row hrow; (try simp only [Int.toNat_natCast, List.length_map, toNat_pred, toNat_succ', toNat_zero', toNat_one'] at hrow); (first | (have hsm := same_map (by assumption) hrow; subst hsm; clear hrow) | (obtain ⟨p, hp, rfl⟩ := of_map hrow; clear hrow)))))
  rotate_right
  · rintro _ _
    have hlaw := kinds_law (n0 % 24) (n1 % 8) (n2 % 8) true false
    generalize (okOf7 (n0 % 24) (n1 % 8) (n2 % 8) true false) = okk at hlaw ⊢
    cases okk
    · have hl := hlaw
      have hI := letIs_fn (LK (n0 % 24) (n1 % 8) (n2 % 8) true false)
      rw [hl] at hI
      have hB := letBytes_not (LK (n0 % 24) (n1 % 8) (n2 % 8) true false) hl
      have hne : True := trivial
      repeat' ((conv => whnf); (first
       | (with_reducible first | refine AW.seq ?_ | refine AW.region base (by kernel_rfl) ?_ | refine AW.cond ?_ | refine AW.block ?_ | refine AW.ret ?_ | refine AW.exit ?_ | refine AW.skip ?_ | refine Br.t ?_ | refine Br.f ?_)
       | (with_reducible refine Br.mkT (fun hb => (by (first | (simp at hb; done) | (simp only [decide_eq_true_eq, decide_eq_false_iff_not, Bool.not_eq_true', Bool.not_eq_false'] at hb; first | omega | exact absurd hb hne | fail) | fail))) (fun hb => ?_))
       | (with_reducible refine Br.mkF (fun hb => (by (first | (simp at hb; done) | (simp only [decide_eq_true_eq, decide_eq_false_iff_not, Bool.not_eq_true', Bool.not_eq_false'] at hb; first | omega | exact absurd hb hne | fail) | fail))) (fun hb => ?_))
       | ((with_reducible refine Or.inl ?_); (conv => whnf); (with_reducible refine And.intro LitSl.mk ?_))
       | refine Br.t ?_
       | refine Br.f ?_
       | ((with_reducible refine Or.inl ?_); (conv => whnf); (first | refine ⟨_, Fn.unnil hI, ?_⟩ | refine ⟨_, Fn.unnil hB, ?_⟩))
       | (with_reducible refine Br.mk (fun hb => ?_) (fun hb => ?_) <;> (try rw [hb]) <;> (try simp only [List.length_map, decide_eq_true_eq, decide_eq_false_iff_not, Bool.not_eq_true', Bool.not_eq_false', Int.ofNat_lt, Int.ofNat_le, Int.not_lt, Int.not_le, Int.toNat_natCast] at hb))
       | ((with_reducible first | refine Or.inl (And.intro ?_ ?_) | refine And.intro ?_ ?_); (focus (first | with_reducible rfl | exact trivial | (exact ⟨rfl, trivial⟩) | (exact ⟨rfl, rfl, trivial⟩) | omega | (intro r hr; simp only [List.mem_singleton] at hr; subst hr; rfl)  | ((simp only [in64, maxLen] at *; omega)) | ((exact ⟨by omega, by omega, by decide⟩)) | ((exact ⟨by omega, by decide⟩)) | (simp only [in64]; omega) | assumption | (simp; done) | (simp [V.cells]; done) | (simp [in64, maxLen, limK] at *; omega) | ((show confB _ _ = true); kernel_rfl) | rfl)))
       | (intro row hrow; (try simp only [Int.toNat_natCast, List.length_map, toNat_pred, toNat_succ', toNat_zero', toNat_one'] at hrow); (first | (have hsm := same_map (by assumption) hrow; subst hsm; clear hrow) | (obtain ⟨p, hp, rfl⟩ := of_map hrow; clear hrow)))))
      all_goals ((conv => whnf); first | done | rfl)
    · have hl := hlaw
      have hI := letIs_fn (LK (n0 % 24) (n1 % 8) (n2 % 8) true false)
      rw [hl] at hI
      have hB := letBytes_ok (LK (n0 % 24) (n1 % 8) (n2 % 8) true false) hl
      have hR := letRead_of (LK (n0 % 24) (n1 % 8) (n2 % 8) true false) hl
      have hS := sameLetter_fn (LK (n0 % 24) (n1 % 8) (n2 % 8) true false) (LK (n0 % 24) (n1 % 8) (n2 % 8) true false) (letB_ws7 hl).1 (letB_ws7 hl).2
      rw [decide_eq_true rfl] at hS
      have hne : ¬ bytesL (LK (n0 % 24) (n1 % 8) (n2 % 8) true false) = [] := fun e => by have := (bytesL_len hl).2; rw [e] at this; simp at this
      repeat' ((conv => whnf); (first
       | (with_reducible first | refine AW.seq ?_ | refine AW.region base (by kernel_rfl) ?_ | refine AW.cond ?_ | refine AW.block ?_ | refine AW.ret ?_ | refine AW.exit ?_ | refine AW.skip ?_ | refine Br.t ?_ | refine Br.f ?_)
       | (with_reducible refine Br.mkT (fun hb => (by (first | (simp at hb; done) | (simp only [decide_eq_true_eq, decide_eq_false_iff_not, Bool.not_eq_true', Bool.not_eq_false'] at hb; first | omega | exact absurd hb hne | fail) | fail))) (fun hb => ?_))
       | (with_reducible refine Br.mkF (fun hb => (by (first | (simp at hb; done) | (simp only [decide_eq_true_eq, decide_eq_false_iff_not, Bool.not_eq_true', Bool.not_eq_false'] at hb; first | omega | exact absurd hb hne | fail) | fail))) (fun hb => ?_))
       | ((with_reducible refine Or.inl ?_); (conv => whnf); (with_reducible refine And.intro LitSl.mk ?_))
       | refine Br.t ?_
       | refine Br.f ?_
       | ((with_reducible refine Or.inl ?_); (conv => whnf); (first | (with_reducible first | refine ⟨_, hR, ?_⟩) | refine ⟨_, Fn.unnil hI, ?_⟩ | refine ⟨_, Fn.unnil hB, ?_⟩ | refine ⟨_, Fn.unnil hS, ?_⟩))
       | (with_reducible refine Br.mk (fun hb => ?_) (fun hb => ?_) <;> (try rw [hb]) <;> (try simp only [List.length_map, decide_eq_true_eq, decide_eq_false_iff_not, Bool.not_eq_true', Bool.not_eq_false', Int.ofNat_lt, Int.ofNat_le, Int.not_lt, Int.not_le, Int.toNat_natCast] at hb))
       | ((with_reducible first | refine Or.inl (And.intro ?_ ?_) | refine And.intro ?_ ?_); (focus (first | with_reducible rfl | exact trivial | (exact ⟨rfl, trivial⟩) | (exact ⟨rfl, rfl, trivial⟩) | omega | (intro r hr; simp only [List.mem_singleton] at hr; subst hr; rfl)  | ((simp only [in64, maxLen] at *; omega)) | ((exact ⟨by omega, by omega, by decide⟩)) | ((exact ⟨by omega, by decide⟩)) | (simp only [in64]; omega) | assumption | (simp; done) | (simp [V.cells]; done) | (simp [in64, maxLen, limK] at *; omega) | ((show confB _ _ = true); kernel_rfl) | rfl)))
       | (intro row hrow; (try simp only [Int.toNat_natCast, List.length_map, toNat_pred, toNat_succ', toNat_zero', toNat_one'] at hrow); (first | (have hsm := same_map (by assumption) hrow; subst hsm; clear hrow) | (obtain ⟨p, hp, rfl⟩ := of_map hrow; clear hrow)))))
      all_goals ((conv => whnf); first | done | rfl)
  all_goals ((conv => whnf); (refine ⟨(), ?_, trivial⟩; (refine ⟨⟨[6012], ?_⟩⟩; repeat' (first | (with_reducible rfl) | exact trivial | ((conv => whnf); (first | (with_reducible refine And.intro ?_ ?_) | (first | with_reducible rfl | ((first | refine congrArg V.str ?_ | refine congrArg (V.int _) ?_ | refine congrArg V.bool ?_ | refine congrArg V.sl ?_); (first | with_reducible rfl | omega | (simp [okOf7, *]; done) | (simp_all [okOf7]; done) | (simp [okOf7, *]; omega) | rfl | (simp; done))) | (first | with_reducible rfl | omega | (simp [okOf7, *]; done) | (simp_all [okOf7]; done) | (simp [okOf7, *]; omega) | rfl | (simp; done)) | rfl)))))))

set_option maxRecDepth 100000 in
set_option maxHeartbeats 2000000 in
theorem letterKinds_11 (n0 n1 n2 : Int) (g0 : 0 ≤ n0 ∧ n0 ≤ 255) (g1 : 0 ≤ n1 ∧ n1 ≤ 255) (g2 : 0 ≤ n2 ∧ n2 ≤ 255) : Fn Tryz.prog 6 [.int .u8 n0, .int .u8 n1, .int .u8 n2, .bool true, .bool true] (.bool true) := by
  refine Fn.mk' base Tryz.func6 rfl rfl rfl ?_
  repeat' ((conv => whnf); (first
   | ((with_reducible show AW _ _ _ (Code.seq (Code.region 10 _ _) _) _ _ _); (refine AW.join (fun (_ : Unit) => True) (fun _ => ⟨[(13, .ptr 0 0), (14, .bool (okOf7 (n0 % 24) (n1 % 8) (n2 % 8) true true))], [.cells [.int .i64 (n0 % 24), .int .i64 (whoF (n1 % 8)), .int .i64 (whoF (n2 % 8)), .int .i64 0, .int .i64 0, .int .i64 0, .int .i64 0, .int .i64 0, .int .i64 1, .str [107], .str [], .str [], .int .i64 0, .nils, .int .i64 0, .str [], .int .i64 3, .nils, .str [], .str [], .nils, .nils, .nils, .str []]]⟩) ?_ ?_))
   | (with_reducible first | refine AW.seq ?_ | refine AW.region base (by kernel_rfl) ?_ | refine AW.cond ?_ | refine AW.block ?_ | refine AW.ret ?_ | refine AW.exit ?_ | refine AW.skip ?_ | refine Br.t ?_ | refine Br.f ?_)
   | ((with_reducible refine Or.inl ?_); (conv => whnf); (with_reducible refine And.intro LitSl.mk ?_))
   | refine Br.t ?_
   | refine Br.f ?_
   | (with_reducible refine nthK_mk _ _ (who_get (n1 % 8) (by omega)) ?_)
   | (with_reducible refine nthK_mk _ _ (who_get (n2 % 8) (by omega)) ?_)
   | (with_reducible refine nthK_mk _ _ (good_get (n1 % 8) (by omega)) ?_)
   | (with_reducible refine nthK_mk _ _ (good_get (n2 % 8) (by omega)) ?_)
   | ((with_reducible refine Or.inl ?_); (conv => whnf); (first | (with_reducible first | refine ⟨_, known7_fn, ?_⟩)))
   | (with_reducible refine Br.mk (fun hb => ?_) (fun hb => ?_) <;> (try rw [hb]) <;> (try simp only [List.length_map, decide_eq_true_eq, decide_eq_false_iff_not, Bool.not_eq_true', Bool.not_eq_false', Int.ofNat_lt, Int.ofNat_le, Int.not_lt, Int.not_le, Int.toNat_natCast] at hb))
   | ((with_reducible first | refine Or.inl (And.intro ?_ ?_) | refine And.intro ?_ ?_); (focus (first | with_reducible rfl | exact trivial | (exact ⟨rfl, trivial⟩) | (exact ⟨rfl, rfl, trivial⟩) | omega | (intro r hr; simp only [List.mem_singleton] at hr; subst hr; rfl)  | ((simp only [in64, maxLen] at *; omega)) | ((exact ⟨by omega, by omega, by decide⟩)) | ((exact ⟨by omega, by decide⟩)) | (simp only [in64]; omega) | assumption | (simp; done) | (simp [V.cells]; done) | (simp [in64, maxLen, limK] at *; omega) | ((show confB _ _ = true); kernel_rfl) | rfl)))
   | (intro row hrow; (try simp only [Int.toNat_natCast, List.length_map, toNat_pred, toNat_succ', toNat_zero', toNat_one'] at hrow); (first | (have hsm := same_map (by assumption) hrow; subst hsm; clear hrow) | (obtain ⟨p, hp, rfl⟩ := of_map hrow; clear hrow)))))
  rotate_right
  · rintro _ _
    have hlaw := kinds_law (n0 % 24) (n1 % 8) (n2 % 8) true true
    generalize (okOf7 (n0 % 24) (n1 % 8) (n2 % 8) true true) = okk at hlaw ⊢
    cases okk
    · have hl := hlaw
      have hI := letIs_fn (LK (n0 % 24) (n1 % 8) (n2 % 8) true true)
      rw [hl] at hI
      have hB := letBytes_not (LK (n0 % 24) (n1 % 8) (n2 % 8) true true) hl
      have hne : True := trivial
      repeat' ((conv => whnf); (first
       | (with_reducible first | refine AW.seq ?_ | refine AW.region base (by kernel_rfl) ?_ | refine AW.cond ?_ | refine AW.block ?_ | refine AW.ret ?_ | refine AW.exit ?_ | refine AW.skip ?_ | refine Br.t ?_ | refine Br.f ?_)
       | (with_reducible refine Br.mkT (fun hb => (by (first | (simp at hb; done) | (simp only [decide_eq_true_eq, decide_eq_false_iff_not, Bool.not_eq_true', Bool.not_eq_false'] at hb; first | omega | exact absurd hb hne | fail) | fail))) (fun hb => ?_))
       | (with_reducible refine Br.mkF (fun hb => (by (first | (simp at hb; done) | (simp only [decide_eq_true_eq, decide_eq_false_iff_not, Bool.not_eq_true', Bool.not_eq_false'] at hb; first | omega | exact absurd hb hne | fail) | fail))) (fun hb => ?_))
       | ((with_reducible refine Or.inl ?_); (conv => whnf); (with_reducible refine And.intro LitSl.mk ?_))
       | refine Br.t ?_
       | refine Br.f ?_
       | ((with_reducible refine Or.inl ?_); (conv => whnf); (first | refine ⟨_, Fn.unnil hI, ?_⟩ | refine ⟨_, Fn.unnil hB, ?_⟩))
       | (with_reducible refine Br.mk (fun hb => ?_) (fun hb => ?_) <;> (try rw [hb]) <;> (try simp only [List.length_map, decide_eq_true_eq, decide_eq_false_iff_not, Bool.not_eq_true', Bool.not_eq_false', Int.ofNat_lt, Int.ofNat_le, Int.not_lt, Int.not_le, Int.toNat_natCast] at hb))
       | ((with_reducible first | refine Or.inl (And.intro ?_ ?_) | refine And.intro ?_ ?_); (focus (first | with_reducible rfl | exact trivial | (exact ⟨rfl, trivial⟩) | (exact ⟨rfl, rfl, trivial⟩) | omega | (intro r hr; simp only [List.mem_singleton] at hr; subst hr; rfl)  | ((simp only [in64, maxLen] at *; omega)) | ((exact ⟨by omega, by omega, by decide⟩)) | ((exact ⟨by omega, by decide⟩)) | (simp only [in64]; omega) | assumption | (simp; done) | (simp [V.cells]; done) | (simp [in64, maxLen, limK] at *; omega) | ((show confB _ _ = true); kernel_rfl) | rfl)))
       | (intro row hrow; (try simp only [Int.toNat_natCast, List.length_map, toNat_pred, toNat_succ', toNat_zero', toNat_one'] at hrow); (first | (have hsm := same_map (by assumption) hrow; subst hsm; clear hrow) | (obtain ⟨p, hp, rfl⟩ := of_map hrow; clear hrow)))))
      all_goals ((conv => whnf); first | done | rfl)
    · have hl := hlaw
      have hI := letIs_fn (LK (n0 % 24) (n1 % 8) (n2 % 8) true true)
      rw [hl] at hI
      have hB := letBytes_ok (LK (n0 % 24) (n1 % 8) (n2 % 8) true true) hl
      have hR := letRead_of (LK (n0 % 24) (n1 % 8) (n2 % 8) true true) hl
      have hS := sameLetter_fn (LK (n0 % 24) (n1 % 8) (n2 % 8) true true) (LK (n0 % 24) (n1 % 8) (n2 % 8) true true) (letB_ws7 hl).1 (letB_ws7 hl).2
      rw [decide_eq_true rfl] at hS
      have hne : ¬ bytesL (LK (n0 % 24) (n1 % 8) (n2 % 8) true true) = [] := fun e => by have := (bytesL_len hl).2; rw [e] at this; simp at this
      repeat' ((conv => whnf); (first
       | (with_reducible first | refine AW.seq ?_ | refine AW.region base (by kernel_rfl) ?_ | refine AW.cond ?_ | refine AW.block ?_ | refine AW.ret ?_ | refine AW.exit ?_ | refine AW.skip ?_ | refine Br.t ?_ | refine Br.f ?_)
       | (with_reducible refine Br.mkT (fun hb => (by (first | (simp at hb; done) | (simp only [decide_eq_true_eq, decide_eq_false_iff_not, Bool.not_eq_true', Bool.not_eq_false'] at hb; first | omega | exact absurd hb hne | fail) | fail))) (fun hb => ?_))
       | (with_reducible refine Br.mkF (fun hb => (by (first | (simp at hb; done) | (simp only [decide_eq_true_eq, decide_eq_false_iff_not, Bool.not_eq_true', Bool.not_eq_false'] at hb; first | omega | exact absurd hb hne | fail) | fail))) (fun hb => ?_))
       | ((with_reducible refine Or.inl ?_); (conv => whnf); (with_reducible refine And.intro LitSl.mk ?_))
       | refine Br.t ?_
       | refine Br.f ?_
       | ((with_reducible refine Or.inl ?_); (conv => whnf); (first | (with_reducible first | refine ⟨_, hR, ?_⟩) | refine ⟨_, Fn.unnil hI, ?_⟩ | refine ⟨_, Fn.unnil hB, ?_⟩ | refine ⟨_, Fn.unnil hS, ?_⟩))
       | (with_reducible refine Br.mk (fun hb => ?_) (fun hb => ?_) <;> (try rw [hb]) <;> (try simp only [List.length_map, decide_eq_true_eq, decide_eq_false_iff_not, Bool.not_eq_true', Bool.not_eq_false', Int.ofNat_lt, Int.ofNat_le, Int.not_lt, Int.not_le, Int.toNat_natCast] at hb))
       | ((with_reducible first | refine Or.inl (And.intro ?_ ?_) | refine And.intro ?_ ?_); (focus (first | with_reducible rfl | exact trivial | (exact ⟨rfl, trivial⟩) | (exact ⟨rfl, rfl, trivial⟩) | omega | (intro r hr; simp only [List.mem_singleton] at hr; subst hr; rfl)  | ((simp only [in64, maxLen] at *; omega)) | ((exact ⟨by omega, by omega, by decide⟩)) | ((exact ⟨by omega, by decide⟩)) | (simp only [in64]; omega) | assumption | (simp; done) | (simp [V.cells]; done) | (simp [in64, maxLen, limK] at *; omega) | ((show confB _ _ = true); kernel_rfl) | rfl)))
       | (intro row hrow; (try simp only [Int.toNat_natCast, List.length_map, toNat_pred, toNat_succ', toNat_zero', toNat_one'] at hrow); (first | (have hsm := same_map (by assumption) hrow; subst hsm; clear hrow) | (obtain ⟨p, hp, rfl⟩ := of_map hrow; clear hrow)))))
      all_goals ((conv => whnf); first | done | rfl)
  all_goals ((conv => whnf); (refine ⟨(), ?_, trivial⟩; (refine ⟨⟨[6012], ?_⟩⟩; repeat' (first | (with_reducible rfl) | exact trivial | ((conv => whnf); (first | (with_reducible refine And.intro ?_ ?_) | (first | with_reducible rfl | ((first | refine congrArg V.str ?_ | refine congrArg (V.int _) ?_ | refine congrArg V.bool ?_ | refine congrArg V.sl ?_); (first | with_reducible rfl | omega | (simp [okOf7, *]; done) | (simp_all [okOf7]; done) | (simp [okOf7, *]; omega) | rfl | (simp; done))) | (first | with_reducible rfl | omega | (simp [okOf7, *]; done) | (simp_all [okOf7]; done) | (simp [okOf7, *]; omega) | rfl | (simp; done)) | rfl)))))))

theorem letterKinds_fn (n0 n1 n2 : Int) (b3 b4 : Bool) (g0 : 0 ≤ n0 ∧ n0 ≤ 255) (g1 : 0 ≤ n1 ∧ n1 ≤ 255) (g2 : 0 ≤ n2 ∧ n2 ≤ 255) : Fn Tryz.prog 6 [.int .u8 n0, .int .u8 n1, .int .u8 n2, .bool b3, .bool b4] (.bool true) := by
  cases b3 <;> cases b4
  · exact letterKinds_00 n0 n1 n2 g0 g1 g2
  · exact letterKinds_01 n0 n1 n2 g0 g1 g2
  · exact letterKinds_10 n0 n1 n2 g0 g1 g2
  · exact letterKinds_11 n0 n1 n2 g0 g1 g2
end Go.Proofs.YtnblecdpkbempaaGreatDoor
