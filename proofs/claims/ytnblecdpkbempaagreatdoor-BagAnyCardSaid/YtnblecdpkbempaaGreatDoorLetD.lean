/-
  Walks of package letter: whether a letter has its kind's parts. No conditions.
-/
import Derived.Test.YtnblecdpkbempaaGreatDoorLetB
namespace Go.Proofs.YtnblecdpkbempaaGreatDoor
open Go.RowKit
set_option linter.unusedSimpArgs false
set_option linter.unusedVariables false

structure LetV where
  kind : Int
  fr : Int
  to : Int
  n0 : Int
  n1 : Int
  n2 : Int
  n3 : Int
  n4 : Int
  op : OpV
  an : AnV
  f : Bs
  t : Bs
  seen : List Sn
  ev : List Evt
  pl : List Plc
  data : Bs
  deriving DecidableEq
abbrev encL (l : LetV) : List V := [.int .i64 l.kind, .int .i64 l.fr, .int .i64 l.to, .int .i64 l.n0, .int .i64 l.n1, .int .i64 l.n2, .int .i64 l.n3, .int .i64 l.n4,
  .int .i64 l.op.kind, .str l.op.key, .str l.op.to, .str l.op.val, .int .i64 l.op.ver, .sl (l.op.ws.map encWr), .int .i64 l.an.code, .str l.an.val, .int .i64 l.an.ver, .sl (l.an.rows.map encRw), .str l.f, .str l.t, .sl (l.seen.map encN), .sl (l.ev.map encE), .sl (l.pl.map encP), .str l.data]
def kindL (l : LetV) : Bool := decide (1 ≤ l.kind) && decide (l.kind ≤ 21) && (decide (l.kind = 1) == opB l.op) && (decide (l.kind = 1) || decide (l.op = zeroO)) && (if l.kind = 2 then anB l.an else decide (l.an = zeroA))
theorem rep_nilI {w : World} {R : Nat → Prop} {ρ : Rho} {i : Nat} {cs : List V} {v : Value} (hi : cs[i]? = some .nils) (h : Rep w R ρ (.agg cs) v) : Rep w R ρ (.agg (cs.set i (.sl []))) v := by
  cases h with
  | agg hl h1 hh =>
    have := Reps.nilAt (v' := .sl []) ⟨hl, hh⟩ hi fun x hx => by rw [hx.of_nils]; exact .slnil
    exact .agg this.1 h1 this.2
theorem Fn.nilI1 {P : Program} {f : FuncId} {a : V} {cs : List V} {r : V} (i : Nat) (hi : cs[i]? = some .nils) (h : Fn P f [a, .agg (cs.set i (.sl []))] r) : Fn P f [a, .agg cs] r := h.weaken fun w R xs hx => by
  obtain ⟨x, rr, rfl, h1, h2⟩ := hx.uncons
  obtain ⟨y, rr, rfl, h3, h4⟩ := h2.uncons
  exact .cons h1 (.cons (rep_nilI hi h3) h4)
theorem bytesA_ne (a : AnV) : ¬ bytesA a = [] := by
  intro h
  have := num_ne a.code.toNat
  simp [bytesA, headA, this] at h
theorem anB_bytes (a : AnV) : (!decide ((if anB a then bytesA a else []) = [])) = anB a := by
  cases anB a
  · rfl
  · simp [bytesA_ne]

theorem opSame_zero (a : OpV) : Fn Tryz.prog 98 [.agg [.int .i64 a.kind, .str a.key, .str a.to, .str a.val, .int .i64 a.ver, .sl (a.ws.map encWr)], .agg [.int .i64 0, .str [], .str [], .str [], .int .i64 0, .nils]] (.bool (decide (a = zeroO))) := Fn.nilI1 5 rfl (opSame_fn a zeroO)
theorem anSame_zero (a : AnV) : Fn Tryz.prog 99 [.agg [.int .i64 a.code, .str a.val, .int .i64 a.ver, .sl (a.rows.map encRw)], .agg [.int .i64 0, .str [], .int .i64 0, .nils]] (.bool (decide (a = zeroA))) := Fn.nilI1 3 rfl (anSame_fn a zeroA)

set_option maxRecDepth 100000 in
set_option maxHeartbeats 1000000 in
theorem isKind_fn (l : LetV) : Fn Tryz.prog 51 [.agg (encL l)] (.bool (kindL l)) := by
  refine Fn.mk' base Tryz.func51 rfl rfl rfl ?_
  repeat' ((conv => whnf); (first
   | (with_reducible first | refine AW.seq ?_ | refine AW.region base (by kernel_rfl) ?_ | refine AW.cond ?_ | refine AW.block ?_ | refine AW.ret ?_ | refine AW.exit ?_ | refine AW.skip ?_ | refine Br.t ?_ | refine Br.f ?_)
   | ((with_reducible refine Or.inl ?_); (conv => whnf); (with_reducible refine And.intro LitSl.mk ?_))
   | refine Br.t ?_
   | refine Br.f ?_
   | ((with_reducible refine Or.inl ?_); (conv => whnf); (first | (with_reducible first | refine ⟨_, opIs_fn l.op, ?_⟩ | refine ⟨_, opSame_zero l.op, ?_⟩ | refine ⟨_, anBytes_fn l.an, ?_⟩ | refine ⟨_, anSame_zero l.an, ?_⟩)))
   | (with_reducible refine Br.mk (fun hb => ?_) (fun hb => ?_) <;> (try rw [hb]) <;> (try simp only [List.length_map, decide_eq_true_eq, decide_eq_false_iff_not, Bool.not_eq_true', Bool.not_eq_false', Int.ofNat_lt, Int.ofNat_le, Int.not_lt, Int.not_le, Int.toNat_natCast] at hb))
   | ((with_reducible first | refine Or.inl (And.intro ?_ ?_) | refine And.intro ?_ ?_); (focus (first | with_reducible rfl | exact trivial | (exact ⟨rfl, trivial⟩) | (exact ⟨rfl, rfl, trivial⟩) | omega | (intro r hr; simp only [List.mem_singleton] at hr; subst hr; rfl)  | ((simp only [in64, maxLen] at *; omega)) | (simp only [in64]; omega) | assumption | (simp; done) | (simp [V.cells]; done) | (simp [in64, maxLen, limK] at *; omega) | ((show confB _ _ = true); kernel_rfl) | rfl)))
   | (intro row hrow; (try simp only [Int.toNat_natCast, List.length_map, toNat_pred, toNat_succ', toNat_zero', toNat_one'] at hrow); (first | (have hsm := same_map (by assumption) hrow; subst hsm; clear hrow) | (obtain ⟨p, hp, rfl⟩ := of_map hrow; clear hrow)))))
  all_goals ((conv => whnf); (first | done | rfl | (refine congrArg V.bool ?_; first | (rw [anB_bytes]; simp_all [kindL]; done) | (simp_all [kindL]; done) | (simp_all [kindL]; omega) | (rw [anB_bytes]; simp_all [kindL]; omega))))
end Go.Proofs.YtnblecdpkbempaaGreatDoor

namespace Go.Proofs.YtnblecdpkbempaaGreatDoor
open Go.RowKit
set_option linter.unusedSimpArgs false
set_option linter.unusedVariables false

def numsL (l : LetV) : List Int := [l.n0, l.n1, l.n2, l.n3, l.n4]
def letB (l : LetV) : Bool := kindL l && addrB l.fr && addrB l.to && !(numsL l).any badI && decide (l.data.length ≤ 255) && isB ⟨l.f, l.t⟩ && snsB none l.seen && decide (l.seen.length ≤ 60) && decide (l.ev.length ≤ 8) && decide (l.pl.length ≤ 8) && !(l.ev.any fun x => !evB x) && !(l.pl.any fun x => !plB x)

set_option maxRecDepth 100000 in
set_option maxHeartbeats 2000000 in
theorem letIs_fn (l : LetV) : Fn Tryz.prog 20 [.agg (encL l)] (.bool (letB l)) := by
  refine Fn.mk' base Tryz.func20 rfl rfl rfl ?_
  repeat' ((conv => whnf); (first
   | ((with_reducible show AW _ _ _ (Code.seq (Code.region 3 _ _) _) _ _ _); (refine AW.freezeC 1000 rfl rfl ?_))
   | (with_reducible first | refine AW.seq ?_ | refine AW.region base (by kernel_rfl) ?_ | refine AW.cond ?_ | refine AW.block ?_ | refine AW.ret ?_ | refine AW.exit ?_ | refine AW.skip ?_ | refine Br.t ?_ | refine Br.f ?_)
   | ((with_reducible refine Or.inl ?_); (conv => whnf); (with_reducible refine And.intro LitSl.mk ?_))
   | refine Br.t ?_
   | refine Br.f ?_
   | ((with_reducible refine Or.inl ?_); (conv => whnf); (first | (with_reducible first | refine ⟨_, isKind_fn l, ?_⟩ | refine ⟨_, isAddr_fn _, ?_⟩ | refine ⟨_, is_fn ⟨_, _⟩, ?_⟩ | refine ⟨_, tokenIs_fn _, ?_⟩ | refine ⟨_, containsEvt_fn _, ?_⟩ | refine ⟨_, containsPlc_fn _, ?_⟩) | refine ⟨_, containsInt_fn [l.n0, l.n1, l.n2, l.n3, l.n4], ?_⟩))
   | (with_reducible refine Br.mk (fun hb => ?_) (fun hb => ?_) <;> (try rw [hb]) <;> (try simp only [List.length_map, decide_eq_true_eq, decide_eq_false_iff_not, Bool.not_eq_true', Bool.not_eq_false', Int.ofNat_lt, Int.ofNat_le, Int.not_lt, Int.not_le, Int.toNat_natCast] at hb))
   | ((with_reducible first | refine Or.inl (And.intro ?_ ?_) | refine And.intro ?_ ?_); (focus (first | with_reducible rfl | exact trivial | (exact ⟨rfl, trivial⟩) | (exact ⟨rfl, rfl, trivial⟩) | omega | (intro r hr; simp only [List.mem_singleton] at hr; subst hr; rfl)  | ((simp only [in64, maxLen] at *; omega)) | (simp only [in64]; omega) | assumption | (simp; done) | (simp [V.cells]; done) | (simp [in64, maxLen, limK] at *; omega) | ((show confB _ _ = true); kernel_rfl) | rfl)))
   | (intro row hrow; (try simp only [Int.toNat_natCast, List.length_map, toNat_pred, toNat_succ', toNat_zero', toNat_one'] at hrow); (first | (have hsm := same_map (by assumption) hrow; subst hsm; clear hrow) | (obtain ⟨p, hp, rfl⟩ := of_map hrow; clear hrow)))))
  all_goals ((conv => whnf); (first | done | rfl | (refine congrArg V.bool ?_; (try simp only [List.length_map] at *); first | (simp_all [letB]; done) | (simp_all [letB]; omega) | (unfold letB numsL; rw [show kindL l = true by assumption, show addrB l.fr = true by assumption, show addrB l.to = true by assumption, show [l.n0, l.n1, l.n2, l.n3, l.n4].any badI = true by assumption]; rfl) | (unfold letB numsL; rw [show kindL l = true by assumption, show addrB l.fr = true by assumption, show addrB l.to = true by assumption, show [l.n0, l.n1, l.n2, l.n3, l.n4].any badI = false by assumption, decide_eq_true (show l.data.length ≤ 255 by omega), show isB ⟨l.f, l.t⟩ = true by assumption, show snsB none l.seen = true by assumption, decide_eq_true (show l.seen.length ≤ 60 by omega), decide_eq_true (show l.ev.length ≤ 8 by omega), decide_eq_true (show l.pl.length ≤ 8 by omega), show (l.ev.any fun x => !evB x) = true by assumption]; rfl) | (unfold letB numsL; rw [show kindL l = true by assumption, show addrB l.fr = true by assumption, show addrB l.to = true by assumption, show [l.n0, l.n1, l.n2, l.n3, l.n4].any badI = false by assumption, decide_eq_true (show l.data.length ≤ 255 by omega), show isB ⟨l.f, l.t⟩ = true by assumption, show snsB none l.seen = true by assumption, decide_eq_true (show l.seen.length ≤ 60 by omega), decide_eq_true (show l.ev.length ≤ 8 by omega), decide_eq_true (show l.pl.length ≤ 8 by omega), show (l.ev.any fun x => !evB x) = false by assumption]; rfl) | skip)))
end Go.Proofs.YtnblecdpkbempaaGreatDoor
