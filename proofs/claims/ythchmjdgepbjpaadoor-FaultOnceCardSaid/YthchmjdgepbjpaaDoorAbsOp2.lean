/-
  Each operation of AbsDef's walk does to the world what the walk says: numbers, texts, structs, lists. No conditions.
-/
import Derived.Lib.SliceRun
import Derived.Test.YthchmjdgepbjpaaDoorAbsOp
import Derived.Laws.StructEq
namespace Go.Proofs.YthchmjdgepbjpaaDoor
open Go.RowKit
set_option linter.unusedSimpArgs false
set_option linter.unusedVariables false

theorem blt_asymm (a b : Bs) : (!Op.bytesLess b a && !b == a) = Op.bytesLess a b := by
  induction a generalizing b with
  | nil => cases b <;> simp [Op.bytesLess]
  | cons x a ih =>
    cases b with
    | nil => simp [Op.bytesLess]
    | cons y b =>
      simp only [Op.bytesLess]
      have h := ih b
      rcases Nat.lt_trichotomy x.toNat y.toNat with g | g | g
      · have e1 : x < y := UInt8.lt_iff_toNat_lt.2 g
        have e2 : ¬ y < x := fun c => by have := UInt8.lt_iff_toNat_lt.1 c; omega
        have e3 : ¬ y = x := fun c => by subst c; omega
        simp [e1, e2, e3]
      · have e1 : x = y := UInt8.toNat_inj.1 g
        subst e1
        simpa using h
      · have e1 : y < x := UInt8.lt_iff_toNat_lt.2 g
        have e2 : ¬ x < y := fun c => by have := UInt8.lt_iff_toNat_lt.1 c; omega
        have e4 : ¬ x = y := fun c => by subst c; omega
        simp [e1, e2, e4]
theorem beq_dec (a b : Bs) : (a == b) = decide (a = b) := by
  cases h : decide (a = b)
  · simp at h; simpa using h
  · simp at h; simpa using h
theorem str_list (l : Bs) : (ByteArray.mk l.toArray).toList = l := ByteArray.toList_mk l

section
variable {P : Program} {cx : Cx} {h h' : Hp} {w w' : World} {R : Nat → Prop} {ρ : Rho} {c : Nat} {v : V} {x : Value} {e : Env} {T : Tab}
variable {dst : Option Tmp} {ty : TypeId} {pos : String} {af : Array Edge} {gd : Option (Nat × Bool)}

def isAggD' : TypeDesc → Bool
  | .struct _ | .array _ _ => true
  | _ => false
theorem run_isAgg' {t : TypeId} {d : TypeDesc} (hd : P.underlying t = some d) (w : World) : (isAgg t).run P w = .ok (isAggD' d) w := by
  unfold isAgg isAggD'
  rw [Sem.run_bind, run_underlying hd w]
  cases d <;> rfl
theorem wrap64_in {n : Int} (hn : in64 n) : IntKind.i64.wrap n = n := by
  unfold in64 at hn
  exact IntWalk.i64_in n hn
theorem wrapK_spec {k : IntKind} {n : Int} {K : V → Prop} (hh : wrapK k n K) : K (.int k (k.wrap n)) := by
  unfold wrapK at hh
  split at hh
  · rename_i e
    cases is64_spec e
    rcases hh with hh | hh
    · rw [wrap64_in hh.1]; exact hh.2
    · exact hh.2
  · exact hh
theorem tdiv_nonneg {a b : Int} (ha : 0 ≤ a) (hb : 0 < b) : a.tdiv b = a / b := Int.tdiv_eq_ediv_of_nonneg ha
/-! ### bits -/
theorem wrap_lim {k : IntKind} {n : Int} (h0 : 0 ≤ n) (h1 : n ≤ limK k) : k.wrap n = n := by
  cases k <;> simp only [limK] at h1 <;> simp [IntKind.wrap, IntKind.bits, IntKind.signed] <;> omega
theorem lim_pow (k : IntKind) : ∃ j, limK k = 2 ^ j - 1 ∧ j ≤ k.bits := by
  cases k
  · exact ⟨7, by decide, by decide⟩
  · exact ⟨15, by decide, by decide⟩
  · exact ⟨31, by decide, by decide⟩
  · exact ⟨63, by decide, by decide⟩
  · exact ⟨8, by decide, by decide⟩
  · exact ⟨16, by decide, by decide⟩
  · exact ⟨32, by decide, by decide⟩
  · exact ⟨64, by decide, by decide⟩
theorem bits_nat {k : IntKind} {a : Int} (h0 : 0 ≤ a) (h1 : a ≤ limK k) : (BitVec.ofInt k.bits a).toNat = a.toNat ∧ ∃ j, limK k = 2 ^ j - 1 ∧ a.toNat < 2 ^ j := by
  obtain ⟨j, hj, hb⟩ := lim_pow k
  have hlt : a.toNat < 2 ^ j := by
    have : (0 : Int) < 2 ^ j := Int.pow_pos (by omega)
    have e : ((2 ^ j : Nat) : Int) = 2 ^ j := by simp
    omega
  refine ⟨?_, j, hj, hlt⟩
  obtain ⟨m, rfl⟩ := Int.eq_ofNat_of_zero_le h0
  rw [BitVec.ofInt_natCast, BitVec.toNat_ofNat]
  simp only [Int.toNat_natCast] at hlt ⊢
  exact Nat.mod_eq_of_lt (Nat.lt_of_lt_of_le hlt (Nat.pow_le_pow_right (by omega) hb))
theorem wrap_nat {k : IntKind} {n j : Nat} (hj : limK k = 2 ^ j - 1) (hn : n < 2 ^ j) : k.wrap (n : Int) = n := by
  refine wrap_lim (Int.natCast_nonneg _) ?_
  have e : ((2 ^ j : Nat) : Int) = 2 ^ j := by simp
  omega
theorem bitsK_spec {k : IntKind} {a b : Int} {p : Prop} (hh : bitsK k a b p) : p ∧ ∃ j, limK k = 2 ^ j - 1 ∧ a.toNat < 2 ^ j ∧ b.toNat < 2 ^ j ∧ (BitVec.ofInt k.bits a).toNat = a.toNat ∧ (BitVec.ofInt k.bits b).toNat = b.toNat := by
  obtain ⟨⟨h1, h2, h3, h4⟩, hp⟩ := hh
  obtain ⟨a1, j, a2, a3⟩ := bits_nat h1 h2
  obtain ⟨b1, j', b2, b3⟩ := bits_nat h3 h4
  have : (2 ^ j : Int) = 2 ^ j' := by omega
  have e : ∀ j : Nat, ((2 ^ j : Nat) : Int) = 2 ^ j := fun j => by simp
  have : (2 ^ j : Nat) = 2 ^ j' := by have := e j; have := e j'; omega
  exact ⟨hp, j, a2, a3, this ▸ b3, a1, b1⟩
theorem intK_spec {op : BinOp} {k : IntKind} {a b : Int} {K : V → Prop} (hh : intK op k a b K) : ∃ v : Value, (∀ (P : Program) (w : World) (t : TypeId), (binOp op t (.int k a) (.int k b)).run P w = .ok v w) ∧ ∃ u, K u ∧ ∀ w R ρ, Rep w R ρ u v := by
  cases op <;> simp only [intK] at hh
  case add => exact ⟨_, fun P w t => (by rw [binOp_add]; rfl), _, wrapK_spec hh, fun _ _ _ => .int⟩
  case sub => exact ⟨_, fun P w t => (by rw [binOp_sub]; rfl), _, wrapK_spec hh, fun _ _ _ => .int⟩
  case mul => exact ⟨_, fun P w t => (by rw [binOp_mul]; rfl), _, wrapK_spec hh, fun _ _ _ => .int⟩
  case quo =>
    split at hh
    · rename_i e
      cases is64_spec e
      obtain ⟨⟨h1, h2, h3⟩, h4⟩ := hh
      have hq : a / b ≤ a := Int.ediv_le_self _ h1
      have hq0 : 0 ≤ a / b := Int.ediv_nonneg h1 (by omega)
      refine ⟨_, fun P w t => ?_, _, h4, fun _ _ _ => .int⟩
      rw [binOp_quo]
      simp only [Op.intDiv]
      rw [if_neg (by omega)]
      simp [Int.tdiv_eq_ediv_of_nonneg h1, wrap64_in (n := a / b) (by unfold in64; omega)]
    · obtain ⟨⟨h1, h2⟩, h4⟩ := hh
      refine ⟨_, fun P w t => ?_, _, h4, fun _ _ _ => .int⟩
      rw [binOp_quo]
      simp only [Op.intDiv]
      rw [if_neg (by omega)]
      simp [Int.tdiv_eq_ediv_of_nonneg h1]
  case rem =>
    obtain ⟨⟨h1, h2⟩, h4⟩ := hh
    refine ⟨_, fun P w t => ?_, _, h4, fun _ _ _ => .int⟩
    rw [binOp_rem]
    simp only [Op.intDiv]
    rw [if_neg (by omega)]
    simp [Int.tmod_eq_emod_of_nonneg h1]
  case and =>
    obtain ⟨hh, j, hj, ha, hb, ea, eb⟩ := bitsK_spec hh
    refine ⟨_, fun P w t => ?_, _, hh, fun _ _ _ => .int⟩
    rw [binOp_and]
    simp only [Op.intBits, BitVec.toNat_and, ea, eb]
    rw [wrap_nat hj (Nat.and_lt_two_pow _ hb)]; rfl
  case or =>
    obtain ⟨hh, j, hj, ha, hb, ea, eb⟩ := bitsK_spec hh
    refine ⟨_, fun P w t => ?_, _, hh, fun _ _ _ => .int⟩
    rw [binOp_or]
    simp only [Op.intBits, BitVec.toNat_or, ea, eb]
    rw [wrap_nat hj (Nat.or_lt_two_pow ha hb)]; rfl
  case xor =>
    obtain ⟨hh, j, hj, ha, hb, ea, eb⟩ := bitsK_spec hh
    refine ⟨_, fun P w t => ?_, _, hh, fun _ _ _ => .int⟩
    rw [binOp_xor]
    simp only [Op.intBits, BitVec.toNat_xor, ea, eb]
    rw [wrap_nat hj (Nat.xor_lt_two_pow ha hb)]; rfl
  case eql => exact ⟨_, fun P w t => (by rw [binOp_eql]; rfl), _, hh, fun _ _ _ => (by rw [show (a == b) = decide (a = b) from rfl]; exact .bool)⟩
  case neq => exact ⟨_, fun P w t => (by rw [binOp_neq]; rfl), _, hh, fun _ _ _ => (by rw [show (a != b) = !decide (a = b) from rfl]; exact .bool)⟩
  case lss => exact ⟨_, fun P w t => (by rw [binOp_lss]; rfl), _, hh, fun _ _ _ => .bool⟩
  case leq => exact ⟨_, fun P w t => (by rw [binOp_leq]; rfl), _, hh, fun _ _ _ => .bool⟩
  case gtr => exact ⟨_, fun P w t => (by rw [binOp_gtr]; rfl), _, hh, fun _ _ _ => .bool⟩
  case geq => exact ⟨_, fun P w t => (by rw [binOp_geq]; rfl), _, hh, fun _ _ _ => .bool⟩
theorem shiftK_spec {op : BinOp} {k k' : IntKind} {a b : Int} {K : V → Prop} (hh : shiftK op k a b K) : ∃ v : Value, (∀ (P : Program) (w : World) (t : TypeId), (binOp op t (.int k a) (.int k' b)).run P w = .ok v w) ∧ ∃ u, K u ∧ ∀ w R ρ, Rep w R ρ u v := by
  cases op <;> simp only [shiftK] at hh
  case shl =>
    obtain ⟨⟨h1, h2⟩, hh⟩ := hh
    refine ⟨_, fun P w t => ?_, _, wrapK_spec hh, fun _ _ _ => .int⟩
    rw [binOp_shl]
    simp only [Op.shift]
    rw [if_neg (by omega)]
    by_cases hb : b.toNat ≤ k.bits
    · rw [Nat.min_eq_left hb]; rfl
    · rw [Nat.min_eq_right (by omega)]
      have e : ∀ m : Nat, k.bits ≤ m → k.wrap (a * 2 ^ m) = k.wrap 0 := fun m hm => by
        obtain ⟨d, rfl⟩ := Nat.exists_eq_add_of_le hm
        have : a * 2 ^ (k.bits + d) = (a * 2 ^ d) * (2 ^ k.bits : Int) := by rw [Int.pow_add, Int.mul_comm (2 ^ k.bits : Int), ← Int.mul_assoc]
        rw [this]
        simp [IntKind.wrap]
      have e1 := e b.toNat (by omega)
      have e2 := e k.bits (Nat.le_refl _)
      rw [e1, ← e2]; rfl
  case shr =>
    obtain ⟨⟨h1, h2, h3⟩, hh⟩ := hh
    refine ⟨_, fun P w t => ?_, _, hh, fun _ _ _ => .int⟩
    rw [show binOp .shr t (.int k a) (.int k' b) = Op.shift .shr k a k' b from rfl]
    simp only [Op.shift]
    rw [if_neg (by omega), Nat.min_eq_left (by omega), Int.fdiv_eq_ediv_of_nonneg a (Int.le_of_lt (Int.pow_pos (by omega)))]; rfl
theorem strK_spec {op : BinOp} {a b : Bs} {K : V → Prop} (hh : strK op a b K) : ∃ v : Value, (∀ (P : Program) (w : World) (t : TypeId), (binOp op t (S a) (S b)).run P w = .ok v w) ∧ ∃ u, K u ∧ ∀ w R ρ, Rep w R ρ u v := by
  have ha := str_list a
  have hb := str_list b
  have hs := blt_asymm a b
  have hs' := blt_asymm b a
  cases op <;> simp only [strK] at hh
  case add =>
    obtain ⟨h1, h2⟩ := hh
    refine ⟨S (a ++ b), fun P w t => ?_, _, h2, fun _ _ _ => .str⟩
    unfold maxLen at h1
    have e : ¬ (((⟨a.toArray⟩ : ByteArray).size + (⟨b.toArray⟩ : ByteArray).size : Nat) : Int) > IntKind.i64.max := by
      simp [ByteArray.size]; omega
    simp only [binOp, Op.stringOp, if_neg e, Sem.run_pure]
    have : (ByteArray.mk a.toArray ++ ByteArray.mk b.toArray) = ByteArray.mk (a ++ b).toArray := by apply ByteArray.ext; simp
    rw [this]
  case eql => exact ⟨_, fun P w t => (by simp only [binOp, Op.stringOp, ha, hb, Sem.run_pure]; rfl), _, hh, fun _ _ _ => (by rw [show (a == b) = decide (a = b) from beq_dec a b]; exact .bool)⟩
  case neq => exact ⟨_, fun P w t => (by simp only [binOp, Op.stringOp, ha, hb, Sem.run_pure]; rfl), _, hh, fun _ _ _ => (by rw [show (a == b) = decide (a = b) from beq_dec a b]; exact .bool)⟩
  case lss => exact ⟨_, fun P w t => (by simp only [binOp, Op.stringOp, ha, hb, Sem.run_pure]; rfl), _, hh, fun _ _ _ => .bool⟩
  case leq =>
    refine ⟨_, fun P w t => (by simp only [binOp, Op.stringOp, ha, hb, Sem.run_pure]; rfl), _, hh, fun _ _ _ => ?_⟩
    rw [show (Op.bytesLess a b || a == b) = !blt b a from by unfold blt; rw [← hs']; cases Op.bytesLess a b <;> cases (a == b) <;> rfl]
    exact .bool
  case gtr =>
    refine ⟨_, fun P w t => (by simp only [binOp, Op.stringOp, ha, hb, Sem.run_pure]; rfl), _, hh, fun _ _ _ => ?_⟩
    rw [show (!(Op.bytesLess a b || a == b)) = blt b a from by unfold blt; rw [← hs']; cases Op.bytesLess a b <;> cases (a == b) <;> rfl]
    exact .bool
  case geq => exact ⟨_, fun P w t => (by simp only [binOp, Op.stringOp, ha, hb, Sem.run_pure]; rfl), _, hh, fun _ _ _ => .bool⟩

/-! ### structs held against each other -/
def cellEq : EK → Value → Value → Option Bool
  | .b, .bool x, .bool y => some (x == y)
  | .n, .int k x, .int k' y => if k = k' then some (x == y) else none
  | .s, .string x, .string y => some (x.toList == y.toList)
  | _, _, _ => none
def cellsEq : List EK → List Value → List Value → Option Bool
  | [], [], [] => some true
  | k :: ks, x :: xs, y :: ys => match cellEq k x y, cellsEq ks xs ys with
    | some r, some s => some (r && s)
    | _, _ => none
  | _, _, _ => none
theorem cellsEq_len : ∀ {ks : List EK} {xs ys : List Value} {r : Bool}, cellsEq ks xs ys = some r → xs.length = ks.length ∧ ys.length = ks.length
  | [], [], [], _, _ => ⟨rfl, rfl⟩
  | [], [], _ :: _, _, h => by simp [cellsEq] at h
  | [], _ :: _, _, _, h => by simp [cellsEq] at h
  | _ :: _, [], _, _, h => by simp [cellsEq] at h
  | _ :: _, _ :: _, [], _, h => by simp [cellsEq] at h
  | k :: ks, x :: xs, y :: ys, r, h => by
    simp only [cellsEq] at h
    split at h
    · rename_i r' s' h1 h2
      obtain ⟨a, b⟩ := cellsEq_len h2
      exact ⟨by simp [a], by simp [b]⟩
    · cases h
theorem cellsEq_app : ∀ {ks ks' : List EK} {xs ys : List Value} {r : Bool}, cellsEq (ks ++ ks') xs ys = some r → ∃ r1 r2, cellsEq ks (xs.take ks.length) (ys.take ks.length) = some r1 ∧ cellsEq ks' (xs.drop ks.length) (ys.drop ks.length) = some r2 ∧ r = (r1 && r2)
  | [], ks', xs, ys, r, h => ⟨true, r, by simp [cellsEq], by simpa using h, by simp⟩
  | k :: ks, ks', [], ys, r, h => by simp [cellsEq] at h
  | k :: ks, ks', x :: xs, [], r, h => by simp [cellsEq] at h
  | k :: ks, ks', x :: xs, y :: ys, r, h => by
    simp only [List.cons_append, cellsEq] at h
    split at h
    · rename_i r' s' h1 h2
      cases h
      obtain ⟨r1, r2, a, b, rfl⟩ := cellsEq_app h2
      refine ⟨r' && r1, r2, ?_, by simpa using b, by rw [Bool.and_assoc]⟩
      simp [cellsEq, h1, a]
    · cases h
/-- a value out of its cells -/
def ofCells (P : Program) (t : TypeId) (xs : List Value) : Value := match P.underlying t with
  | some (.struct _) => .agg xs.toArray
  | some (.array _ _) => .agg xs.toArray
  | _ => xs.headD undef
theorem ek_len : ∀ (d : Nat) (t : TypeId) (ks : List EK), ek P d t = some ks → (∀ F, P.underlying t ≠ some (.struct F)) → (∀ n e, P.underlying t ≠ some (.array n e)) → ks.length = 1
  | 0, _, _, h, _, _ => by simp [ek] at h
  | d + 1, t, ks, h, hn, hn2 => by
    simp only [ek] at h
    split at h <;> first | (cases h; rfl) | (rename_i F hu; exact absurd hu (hn F)) | (rename_i n e hu; exact absurd hu (hn2 n e)) | cases h
theorem run_part {t : TypeId} {i : TypeInfo} {d : Nat} {ks : List EK} (hk : ek P d t = some ks) (hi : P.info? t = some i) (hsz : i.size = ks.length) {X : List Value} {off : Nat} (hl : off + ks.length ≤ X.length) (w : World) : (part t X.toArray off).run P w = .ok (ofCells P t ((X.drop off).take ks.length)) w := by
  unfold ofCells
  cases hu : P.underlying t with
  | none => cases d <;> simp [ek, hu] at hk
  | some dd =>
    have hag := fun w => run_isAgg' hu w
    by_cases hs : (∃ F, dd = .struct F) ∨ ∃ n e, dd = .array n e
    · rcases hs with ⟨F, rfl⟩ | ⟨n, e, rfl⟩
      all_goals
        simp only [part, Sem.run_bind, hag, Result.andThen_ok, isAggD', if_true, sizeOf, typeInfo, run_program, hi, Sem.run_pure, hsz]
        congr 2
        simp [List.extract_toArray, List.extract_eq_take_drop]
    · have h1 : ks.length = 1 := ek_len d t ks hk (fun F hF => hs (.inl ⟨F, by rw [hu] at hF; exact Option.some.inj hF⟩)) (fun n e hF => hs (.inr ⟨n, e, by rw [hu] at hF; exact Option.some.inj hF⟩))
      have hna : isAggD' dd = false := by
        cases d with
        | zero => simp [ek] at hk
        | succ d =>
          simp only [ek, hu] at hk
          cases dd <;> first | rfl | (exact absurd (.inl ⟨_, rfl⟩) hs) | (exact absurd (.inr ⟨_, _, rfl⟩) hs) | cases hk
      have hlt : off < X.length := by omega
      have hget : X.toArray[off]? = some X[off] := by simp [hlt]
      have hd : (X.drop off).take ks.length = [X[off]] := by
        rw [h1, List.drop_eq_getElem_cons hlt]; rfl
      simp only [part, Sem.run_bind, hag, Result.andThen_ok, hna, Bool.false_eq_true, if_false, hget, Sem.run_pure, hd]
      cases dd <;> first | rfl | (exact absurd (.inl ⟨_, rfl⟩) hs) | (exact absurd (.inr ⟨_, _, rfl⟩) hs)
theorem run_equal_cells : ∀ (d : Nat) (t : TypeId) (ks : List EK), ek P d t = some ks → ∀ (D : Nat), d ≤ D → ∀ (xs ys : List Value) (r : Bool) (w : World), cellsEq ks xs ys = some r → (Op.equalIn D t (ofCells P t xs) (ofCells P t ys)).run P w = .ok r w
  | 0, _, _, h, _, _, _, _, _, _, _ => by simp [ek] at h
  | d + 1, t, ks, h, D, hD, xs, ys, r, w, hr => by
    obtain ⟨D', rfl⟩ : ∃ D', D = D' + 1 := ⟨D - 1, by omega⟩
    simp only [ek] at h
    unfold ofCells
    have one : ∀ k, ks = [k] → ∃ x y, xs = [x] ∧ ys = [y] ∧ cellEq k x y = some r := fun k hk => by
      subst hk
      cases xs with
      | nil => simp [cellsEq] at hr
      | cons x xs =>
        cases ys with
        | nil => simp [cellsEq] at hr
        | cons y ys =>
          simp only [cellsEq] at hr
          split at hr
          · rename_i r' s' h1 h2
            cases hr
            cases xs <;> cases ys <;> simp [cellsEq] at h2
            subst h2
            exact ⟨x, y, rfl, rfl, by simpa using h1⟩
          · cases hr
    split at h
    · rename_i hu
      cases h
      obtain ⟨x, y, rfl, rfl, hc⟩ := one .b rfl
      simp only [hu, List.headD_cons]
      cases x <;> simp [cellEq] at hc
      cases y <;> simp at hc
      subst hc
      exact run_equalIn_bool w D' t _ _ hu
    · rename_i kk hu
      cases h
      obtain ⟨x, y, rfl, rfl, hc⟩ := one .n rfl
      simp only [hu, List.headD_cons]
      cases x <;> simp [cellEq] at hc
      cases y <;> simp at hc
      obtain ⟨rfl, rfl⟩ := hc
      exact run_equalIn_int w D' t _ _ _ _ hu
    · rename_i hu
      cases h
      obtain ⟨x, y, rfl, rfl, hc⟩ := one .s rfl
      simp only [hu, List.headD_cons]
      cases x <;> simp [cellEq] at hc
      cases y <;> simp at hc
      subst hc
      exact run_equalIn_string w D' t _ _ hu
    · rename_i F hu
      split at h
      · cases h
      · rename_i hst
        have hfo : P.fieldsOf t = F := by unfold Program.fieldsOf; rw [hu]
        simp only [hu]
        rw [run_equalIn_struct w D' t _ _ (by rw [hfo]; exact hu) (by simpa using hst), hfo]
        have key : ∀ (F : List Field) (off : Nat) (ks : List EK) (r : Bool) (w : World), ekFields (ek P d) P off F = some ks → off + ks.length = xs.length → off + ks.length = ys.length → cellsEq ks (xs.drop off) (ys.drop off) = some r → (Op.eqFields D' xs.toArray ys.toArray F).run P w = .ok r w := by
          intro F
          induction F with
          | nil =>
            intro off ks r w h h1 h2 hc
            simp only [ekFields] at h
            cases h
            have e1 : xs.drop off = [] := List.drop_of_length_le (by simp at h1; omega)
            have e2 : ys.drop off = [] := List.drop_of_length_le (by simp at h2; omega)
            rw [e1, e2] at hc
            simp [cellsEq] at hc
            subst hc
            simp [Op.eqFields]
          | cons f F ih =>
            intro off ks r w h h1 h2 hc
            simp only [ekFields] at h
            split at h
            · rename_i ks1 i hname hk1 hi
              split at h
              · rename_i hsz
                obtain ⟨ks2, hk2, rfl⟩ := Option.map_eq_some_iff.1 h
                simp only [Bool.and_eq_true, bne_iff_ne, ne_eq, beq_iff_eq] at hname
                obtain ⟨hn, ho⟩ := hname
                obtain ⟨r1, r2, c1, c2, rfl⟩ := cellsEq_app hc
                rw [List.length_append] at h1 h2
                have hszz : i.size = ks1.length := by simpa using hsz
                have p1 := run_part (P := P) hk1 hi hszz (X := xs) (off := off) (by omega) w
                have p2 := run_part (P := P) hk1 hi hszz (X := ys) (off := off) (by omega) w
                have p3 := run_equal_cells d f.type ks1 hk1 D' (by omega) _ _ r1 w c1
                simp only [Op.eqFields, hn, ne_eq, not_false_eq_true, if_true, Sem.run_bind, ho, p1, p2, p3, Result.andThen_ok]
                cases r1
                · simp
                · simp only [Bool.not_true, Bool.false_eq_true, if_false, Bool.true_and]
                  exact ih (off + ks1.length) ks2 r2 w hk2 (by omega) (by omega) (by rw [← List.drop_drop, ← List.drop_drop]; exact c2)
              · cases h
            · cases h
        obtain ⟨l1, l2⟩ := cellsEq_len hr
        exact key F.toList 0 ks r w h (by simpa using l1.symm) (by simpa using l2.symm) (by simpa using hr)
    · rename_i n el hu
      split at h
      · rename_i k i hk1 hi
        split at h
        · rename_i hsz
          cases h
          simp only [Bool.and_eq_true, beq_iff_eq] at hsz
          obtain ⟨hs1, hs2⟩ := hsz
          simp only [hu]
          rw [run_equalIn_array w D' xs.toArray ys.toArray hu hi, hs2, List.range_eq_range']
          obtain ⟨l1, l2⟩ := cellsEq_len hr
          rw [List.length_replicate] at l1 l2
          have key : ∀ (m off : Nat) (r : Bool) (w : World), off + m = n → cellsEq (List.replicate m k) (xs.drop off) (ys.drop off) = some r → (Op.eqItems D' el 1 xs.toArray ys.toArray (List.range' off m)).run P w = .ok r w := by
            intro m
            induction m with
            | zero =>
              intro off r w h0 hc
              rw [List.drop_of_length_le (by omega), List.drop_of_length_le (by omega)] at hc
              simp [cellsEq] at hc
              subst hc
              simp [Op.eqItems]
            | succ m ih =>
              intro off r w h0 hc
              rw [List.replicate_succ] at hc
              obtain ⟨r1, r2, c1, c2, rfl⟩ := cellsEq_app (ks := [k]) hc
              have p1 := run_part (P := P) hk1 hi (by rw [hs1]; rfl) (X := xs) (off := off) (by simp; omega) w
              have p2 := run_part (P := P) hk1 hi (by rw [hs1]; rfl) (X := ys) (off := off) (by simp; omega) w
              have p3 := run_equal_cells d el [k] hk1 D' (by omega) _ _ r1 w c1
              rw [List.range'_succ]
              simp only [Op.eqItems, Nat.mul_one, Sem.run_bind, p1, p2, p3, Result.andThen_ok]
              cases r1
              · simp
              · simp only [Bool.not_true, Bool.false_eq_true, if_false, Bool.true_and]
                exact ih (off + 1) r2 w (by omega) (by rw [← List.drop_drop, ← List.drop_drop]; exact c2)
          exact key n 0 r w (by omega) (by simpa using hr)
        · cases h
      · cases h
    · cases h
theorem eqK_spec : ∀ {ks : List EK} {xs ys : List V} {K : Bool → Prop}, eqK ks xs ys K → ∃ r, K r ∧ ∀ w R ρ (xa yb : List Value), Reps w R ρ xs xa → Reps w R ρ ys yb → cellsEq ks xa yb = some r := by
  intro ks
  induction ks with
  | nil =>
    intro xs ys K h
    cases xs with
    | cons x xs => exact h.elim
    | nil =>
      cases ys with
      | cons y ys => exact h.elim
      | nil => exact ⟨true, h, fun w R ρ xa yb ha hb => by
          have := ha.1; have := hb.1
          cases xa <;> cases yb <;> simp_all [cellsEq]⟩
  | cons k ks ih =>
    intro xs ys K h
    cases xs with
    | nil => cases k <;> exact h.elim
    | cons x xs =>
      cases ys with
      | nil => cases k <;> cases x <;> exact h.elim
      | cons y ys =>
        cases k <;> cases x <;> try exact h.elim
        · cases y <;> try exact h.elim
          rename_i a b
          obtain ⟨r, h1, h2⟩ := ih h
          refine ⟨_, h1, fun w R ρ xa yb ha hb => ?_⟩
          obtain ⟨u, us, rfl, hu, hus⟩ := ha.uncons
          obtain ⟨v, vs, rfl, hv, hvs⟩ := hb.uncons
          rw [hu.of_bool, hv.of_bool]
          simp [cellsEq, cellEq, h2 w R ρ us vs hus hvs]
        · cases y <;> try exact h.elim
          rename_i k a k' b
          simp only [eqK] at h
          split at h
          · rename_i hk
            cases sameK_spec hk
            obtain ⟨r, h1, h2⟩ := ih h
            refine ⟨_, h1, fun w R ρ xa yb ha hb => ?_⟩
            obtain ⟨u, us, rfl, hu, hus⟩ := ha.uncons
            obtain ⟨v, vs, rfl, hv, hvs⟩ := hb.uncons
            rw [hu.of_int, hv.of_int]
            simp [cellsEq, cellEq, h2 w R ρ us vs hus hvs]
            rfl
          · exact h.elim
        · cases y <;> try exact h.elim
          rename_i a b
          obtain ⟨r, h1, h2⟩ := ih h
          refine ⟨_, h1, fun w R ρ xa yb ha hb => ?_⟩
          obtain ⟨u, us, rfl, hu, hus⟩ := ha.uncons
          obtain ⟨v, vs, rfl, hv, hvs⟩ := hb.uncons
          rw [hu.of_str, hv.of_str]
          simp [cellsEq, cellEq, h2 w R ρ us vs hus hvs, str_list, beq_dec]
theorem eql_struct (hT : TabOk P T) {t : TypeId} {ks : List EK} (ht : T.eq t = some ks) {xs ys : List V} {K : Bool → Prop} (hk : eqK ks xs ys K) : ∃ r, K r ∧ ∀ (w : World) R ρ (X Y : Operand) (a b : Value), Rep w R ρ (.agg xs) a → Rep w R ρ (.agg ys) b →
    (do eqGuard .eql t X Y a b; binOp .eql t a b : Sem Value).run P w = .ok (.bool r) w ∧ (do eqGuard .neq t X Y a b; binOp .neq t a b : Sem Value).run P w = .ok (.bool (!r)) w := by
  have hok := hT.eq t ks ht
  simp only [ekOkB, Bool.and_eq_true] at hok
  obtain ⟨⟨h1, h2⟩, h3⟩ := hok
  obtain ⟨r, hr, hc⟩ := eqK_spec hk
  refine ⟨r, hr, fun w R ρ X Y a b ha hb => ?_⟩
  cases ha with
  | agg la oa ra =>
    cases hb with
    | agg lb ob rb =>
      rename_i xa yb
      have hcc := hc w R ρ xa yb ⟨la, ra⟩ ⟨lb, rb⟩
      split at h1
      · rename_i l hl
        obtain rfl : l = ks := by simpa using h1
        have hq := run_equal_cells 8 t l hl 10000 (by omega) xa yb r w hcc
        split at h3
        · rename_i F hu
          unfold ofCells at hq
          simp only [hu] at hq
          have hg : P.eqGuardType P.depth t = false := by simpa using h2
          refine ⟨?_, ?_⟩
          · simp only [Sem.run_bind, run_eqGuard_agg w _ t X Y _ _ hg, Result.andThen_ok, run_eql_struct, hq]
          · simp only [Sem.run_bind, run_eqGuard_agg w _ t X Y _ _ hg, Result.andThen_ok, run_neq_struct, hq]
        · rename_i nn ee hu
          unfold ofCells at hq
          simp only [hu] at hq
          have hg : P.eqGuardType P.depth t = false := by simpa using h2
          refine ⟨?_, ?_⟩
          · simp only [Sem.run_bind, run_eqGuard_agg w _ t X Y _ _ hg, Result.andThen_ok, run_eql_struct, hq]
          · simp only [Sem.run_bind, run_eqGuard_agg w _ t X Y _ _ hg, Result.andThen_ok, run_neq_struct, hq]
        · cases h3
      · cases h1
theorem binK_spec {op : BinOp} {t : TypeId} (hT : TabOk P T) {x y : V} {K : V → Prop} (hh : binK op (T t) (T.eq t) x y K) : ∃ u, K u ∧ ∀ (w : World) R ρ (X Y : Operand) (a b : Value), Rep w R ρ x a → Rep w R ρ y b →
    ∃ r, (do eqGuard op t X Y a b; binOp op t a b : Sem Value).run P w = .ok r w ∧ Rep w R ρ u r := by
  unfold binK at hh
  split at hh
  · rename_i xs ys
    split at hh
    · rename_i ks hks
      split at hh
      · obtain ⟨r, h1, h2⟩ := eql_struct (P := P) hT hks hh
        exact ⟨_, h1, fun w R ρ X Y a b ha hb => ⟨_, (h2 w R ρ X Y a b ha hb).1, .bool⟩⟩
      · obtain ⟨r, h1, h2⟩ := eql_struct (P := P) hT hks hh
        exact ⟨_, h1, fun w R ρ X Y a b ha hb => ⟨_, (h2 w R ρ X Y a b ha hb).2, .bool⟩⟩
      · exact hh.elim
    · exact hh.elim
  · rename_i a b
    split at hh
    · rename_i hti
      have hu := tiOk_bool (hT t _ hti)
      split at hh
      · refine ⟨_, hh, fun w R ρ X Y u v hu' hv => ⟨.bool (a == b), ?_, .bool⟩⟩
        rw [hu'.of_bool, hv.of_bool, eqGuard_at_bool]
        simp [binOp, Op.equal, Op.maxDepth, run_equalIn_bool _ _ _ _ _ hu]
      · refine ⟨_, hh, fun w R ρ X Y u v hu' hv => ⟨.bool (!(a == b)), ?_, .bool⟩⟩
        rw [hu'.of_bool, hv.of_bool, eqGuard_at_bool]
        simp [binOp, Op.equal, Op.maxDepth, run_equalIn_bool _ _ _ _ _ hu]
      · exact hh.elim
    · exact hh.elim
  · split at hh
    · obtain ⟨v, h1, u, h2, h3⟩ := shiftK_spec hh
      refine ⟨u, h2, fun w R ρ X Y a b ha hb => ⟨v, ?_, h3 _ _ _⟩⟩
      rw [ha.of_int, hb.of_int, eqGuard_at_int]
      simpa using h1 P w t
    · obtain ⟨v, h1, u, h2, h3⟩ := shiftK_spec hh
      refine ⟨u, h2, fun w R ρ X Y a b ha hb => ⟨v, ?_, h3 _ _ _⟩⟩
      rw [ha.of_int, hb.of_int, eqGuard_at_int]
      simpa using h1 P w t
    split at hh
    · rename_i hk
      cases sameK_spec hk
      obtain ⟨v, h1, u, h2, h3⟩ := intK_spec hh
      refine ⟨u, h2, fun w R ρ X Y a b ha hb => ⟨v, ?_, h3 _ _ _⟩⟩
      rw [ha.of_int, hb.of_int, eqGuard_at_int]
      simpa using h1 P w t
    · exact hh.elim
  · obtain ⟨v, h1, u, h2, h3⟩ := strK_spec hh
    refine ⟨u, h2, fun w R ρ X Y a b ha hb => ⟨v, ?_, h3 _ _ _⟩⟩
    rw [ha.of_str, hb.of_str, eqGuard_at_string]
    simpa using h1 P w t
  · rename_i xs
    split at hh <;> try exact hh.elim
    rename_i el E hti
    obtain ⟨hu, _⟩ := tiOk_slice (hT t _ hti)
    split at hh <;> try exact hh.elim
    refine ⟨_, hh, fun w R ρ X Y a b ha hb => ?_⟩
    have go : ∀ (ad : Option Addr) (n c : Nat), (ad.isNone = true → xs = []) → ∃ r, (do eqGuard .eql t X Y (.slice ad n c) b; binOp .eql t (.slice ad n c) b : Sem Value).run P w = .ok r w ∧ Rep w R ρ (.tst (xs = [])) r := fun ad n c h1 => by
      cases hb
      refine ⟨.bool ad.isNone, ?_, .tst h1⟩
      rw [eqGuard_at_slice]
      simpa using Go.Lib.run_eql_slice_nil (P := P) w t el ad n c 0 0 hu
    cases ha with
    | slnil => exact go _ _ _ fun _ => rfl
    | sl f hn hc hm hR hE hf h1 h => exact go _ _ _ fun h => by cases h
  · split at hh <;> try exact hh.elim
    rename_i el E hti
    obtain ⟨hu, _⟩ := tiOk_slice (hT t _ hti)
    split at hh <;> try exact hh.elim
    refine ⟨_, hh, fun w R ρ X Y a b ha hb => ⟨_, ?_, .bool⟩⟩
    cases ha
    cases hb
    rw [eqGuard_at_slice]
    simpa using Go.Lib.run_eql_slice_nil (P := P) w t el none 0 0 0 0 hu
  · exact hh.elim
/-! ### values of interfaces -/
theorem isIK_spec {t : TypeId} {p : Prop} (hT : TabOk P T) (hh : isIK (T t) p) : (∃ m, P.underlying t = some (.interface m)) ∧ p := by
  unfold isIK at hh
  split at hh
  · rename_i ht
    obtain ⟨d, hd, hk⟩ := tiOk_kind (hT t _ ht)
    cases d <;> simp [kindB] at hk
    exact ⟨⟨_, hd⟩, hh⟩
  · exact hh.elim
theorem Rep.of_val {z : Value} {x : Value} (hr : Rep w R ρ (.val z) x) : x = z := by cases hr; rfl
theorem Rep.of_ifc {t : TypeId} {u : V} {x : Value} (hr : Rep w R ρ (.ifc t u) x) : ∃ y, x = .iface t y ∧ Rep w R ρ u y := by cases hr; exact ⟨_, rfl, ‹_›⟩
theorem run_equal_iface {t : TypeId} {m : Array (String × TypeId)} (hu : P.underlying t = some (.interface m)) (a b : Value) (w : World) {r : Bool} (h : ∀ d, (Op.equalIn (d + 2) t a b).run P w = .ok r w) (op : BinOp) (ho : op = .eql ∨ op = .neq) (ha : a = .nilIface ∨ ∃ t x, a = .iface t x) :
    (binOp op t a b).run P w = .ok (.bool (if op = .eql then r else !r)) w := by
  have h' : (Op.equal t a b).run P w = .ok r w := h 9998
  rcases ho with rfl | rfl <;> rcases ha with rfl | ⟨t', x, rfl⟩ <;> simp [binOp, h']
theorem eqIf_nil {t : TypeId} {m : Array (String × TypeId)} (hu : P.underlying t = some (.interface m)) (w : World) (d : Nat) : (Op.equalIn (d + 1) t .nilIface .nilIface).run P w = .ok true w := by
  unfold Op.equalIn; simp only [Sem.run_bind, run_underlying hu, Result.andThen_ok, Sem.run_pure]
theorem eqIf_nil1 {t : TypeId} {m : Array (String × TypeId)} (hu : P.underlying t = some (.interface m)) (w : World) (d : Nat) (t1 : TypeId) (y : Value) : (Op.equalIn (d + 1) t .nilIface (.iface t1 y)).run P w = .ok false w := by
  unfold Op.equalIn; simp only [Sem.run_bind, run_underlying hu, Result.andThen_ok, Sem.run_pure]
theorem eqIf_nil2 {t : TypeId} {m : Array (String × TypeId)} (hu : P.underlying t = some (.interface m)) (w : World) (d : Nat) (t1 : TypeId) (y : Value) : (Op.equalIn (d + 1) t (.iface t1 y) .nilIface).run P w = .ok false w := by
  unfold Op.equalIn; simp only [Sem.run_bind, run_underlying hu, Result.andThen_ok, Sem.run_pure]
theorem eqIf_ne {t : TypeId} {m : Array (String × TypeId)} (hu : P.underlying t = some (.interface m)) (w : World) (d : Nat) {t1 t2 : TypeId} (hne : t1 ≠ t2) (x y : Value) : (Op.equalIn (d + 1) t (.iface t1 x) (.iface t2 y)).run P w = .ok false w := by
  unfold Op.equalIn; simp only [Sem.run_bind, run_underlying hu, Result.andThen_ok]
  rw [if_pos hne]; rfl
theorem eqIf_int {t t1 : TypeId} {m : Array (String × TypeId)} (hu : P.underlying t = some (.interface m)) (w : World) (d : Nat) {i : TypeInfo} {kk k : IntKind} (q1 : P.info? t1 = some i) (q2 : i.comparable = true) (q3 : P.underlying t1 = some (.int kk)) (a b : Int) :
    (Op.equalIn (d + 2) t (.iface t1 (.int k a)) (.iface t1 (.int k b))).run P w = .ok (decide (a = b)) w := by
  have h2 : (Op.equalIn (d + 1) t1 (.int k a) (.int k b)).run P w = .ok (decide (a = b)) w := by
    unfold Op.equalIn; simp only [Sem.run_bind, run_underlying q3, Result.andThen_ok, if_true, Sem.run_pure]
    rfl
  unfold Op.equalIn
  simp only [Sem.run_bind, run_underlying hu, Result.andThen_ok]
  rw [if_neg (by simp)]
  have hi : (typeInfo t1).run P w = .ok i w := by simp [typeInfo, q1]
  simp only [Sem.run_bind, hi, Result.andThen_ok, q2]
  rw [if_neg (by simp)]
  simpa using h2
theorem nilK_spec : ∀ {n : Nat} {v : V} {k : Bool → Prop}, nilK n v k → ∃ r, k r ∧ ∀ (w : World) (R : Nat → Prop) (ρ : Rho) (a : Value), Rep w R ρ v a → (r = true ∧ a = .nilIface) ∨ (r = false ∧ ∃ t y, a = .iface t y)
  | 0, v, k, h => by simp [nilK] at h
  | n + 1, v, k, h => by
    cases v <;> simp only [nilK] at h
    case val z =>
      split at h
      · exact ⟨_, h, fun w R ρ a ha => .inl ⟨rfl, ha.of_val⟩⟩
      · exact h.elim
    case ifc t u => exact ⟨_, h, fun w R ρ a ha => by obtain ⟨y, rfl, _⟩ := ha.of_ifc; exact .inr ⟨rfl, _, _, rfl⟩⟩
    case alt b x y =>
      obtain ⟨p, h, hp⟩ := nilK_spec h
      obtain ⟨q, h, hq⟩ := nilK_spec h
      have : ∃ r, k r ∧ r = (if b then p else q) := by
        unfold altBK at h
        cases p <;> cases q <;> exact ⟨_, h, by cases b <;> rfl⟩
      obtain ⟨r, hr, rfl⟩ := this
      refine ⟨_, hr, fun w R ρ a ha => ?_⟩
      cases ha with
      | altT hh => exact hp w R ρ a hh
      | altF hh => exact hq w R ρ a hh
    all_goals exact h.elim
theorem nilcmp {op : BinOp} {t : TypeId} {X Y : Operand} {x : V} {K : V → Prop} {m : Array (String × TypeId)} {r : Bool} (hu : P.underlying t = some (.interface m)) (hc : (isC X || isC Y) = true)
    (hx : ∀ (w : World) (R : Nat → Prop) (ρ : Rho) (a : Value), Rep w R ρ x a → (r = true ∧ a = .nilIface) ∨ (r = false ∧ ∃ t y, a = .iface t y)) (hk : goK op r K) : ∃ u, K u ∧ ∀ (w : World) R ρ (a b : Value), Rep w R ρ x a → Rep w R ρ (.val .nilIface) b →
    ∃ z, (do eqGuard op t X Y a b; binOp op t a b : Sem Value).run P w = .ok z w ∧ Rep w R ρ u z := by
  have key : ∀ (w : World) R ρ (a c : Value), Rep w R ρ x a → Rep w R ρ (.val .nilIface) c → (a = .nilIface ∨ ∃ t x, a = .iface t x) ∧ (eqGuard op t X Y a c).run P w = .ok () w ∧ ∀ d, (Op.equalIn (d + 2) t a c).run P w = .ok r w := fun w R ρ a c ha hc' => by
    rw [hc'.of_val]
    rcases hx w R ρ a ha with ⟨rfl, rfl⟩ | ⟨rfl, t1, y1, rfl⟩
    · refine ⟨.inl rfl, ?_, fun d => eqIf_nil hu w _⟩
      unfold eqGuard
      cases op <;> simp <;> (cases X <;> cases Y <;> simp_all [isC])
    · exact ⟨.inr ⟨_, _, rfl⟩, by cases op <;> rfl, fun d => eqIf_nil2 hu w _ _ _⟩
  unfold goK at hk
  split at hk
  · refine ⟨_, hk, fun w R ρ a c ha hc => ⟨.bool r, ?_, .bool⟩⟩
    obtain ⟨h1, h2, h3⟩ := key w R ρ a c ha hc
    simp only [Sem.run_bind, h2, Result.andThen_ok, run_equal_iface hu a c w h3 .eql (.inl rfl) h1, if_true]
  · refine ⟨_, hk, fun w R ρ a c ha hc => ⟨.bool (!r), ?_, .bool⟩⟩
    obtain ⟨h1, h2, h3⟩ := key w R ρ a c ha hc
    simp only [Sem.run_bind, h2, Result.andThen_ok, run_equal_iface hu a c w h3 .neq (.inr rfl) h1]
    rfl
  · exact hk.elim
theorem cmpK_spec {op : BinOp} {t : TypeId} (hT : TabOk P T) {X Y : Operand} {x y : V} {K : V → Prop} {m : Array (String × TypeId)} (hu : P.underlying t = some (.interface m)) (hh : cmpK T op (isC X || isC Y) x y K) : ∃ u, K u ∧ ∀ (w : World) R ρ (a b : Value), Rep w R ρ x a → Rep w R ρ y b →
    ∃ r, (do eqGuard op t X Y a b; binOp op t a b : Sem Value).run P w = .ok r w ∧ Rep w R ρ u r := by
  unfold cmpK at hh
  have fin : ∀ {b : Bool}, goK op b K → (∀ (w : World) R ρ (a c : Value), Rep w R ρ x a → Rep w R ρ y c → (a = .nilIface ∨ ∃ t x, a = .iface t x) ∧ (eqGuard op t X Y a c).run P w = .ok () w ∧ ∀ d, (Op.equalIn (d + 2) t a c).run P w = .ok b w) →
      ∃ u, K u ∧ ∀ (w : World) R ρ (a b : Value), Rep w R ρ x a → Rep w R ρ y b → ∃ r, (do eqGuard op t X Y a b; binOp op t a b : Sem Value).run P w = .ok r w ∧ Rep w R ρ u r := fun {b} hk hr => by
    unfold goK at hk
    split at hk
    · refine ⟨_, hk, fun w R ρ a c ha hc => ⟨.bool b, ?_, .bool⟩⟩
      obtain ⟨h1, h2, h3⟩ := hr w R ρ a c ha hc
      simp only [Sem.run_bind, h2, Result.andThen_ok, run_equal_iface hu a c w h3 .eql (.inl rfl) h1, if_true]
    · refine ⟨_, hk, fun w R ρ a c ha hc => ⟨.bool (!b), ?_, .bool⟩⟩
      obtain ⟨h1, h2, h3⟩ := hr w R ρ a c ha hc
      simp only [Sem.run_bind, h2, Result.andThen_ok, run_equal_iface hu a c w h3 .neq (.inr rfl) h1]
      rfl
    · exact hk.elim
  have und : ∀ w, (underlying t : Sem TypeDesc).run P w = .ok (.interface m) w := fun w => run_underlying hu w
  split at hh
  · split at hh
    · split at hh
      · rename_i hc
        refine fin hh fun w R ρ a c ha hc' => ?_
        rw [ha.of_val, hc'.of_val]
        refine ⟨.inl rfl, ?_, fun d => eqIf_nil hu w _⟩
        unfold eqGuard
        cases op <;> simp <;> (cases X <;> cases Y <;> simp_all [isC])
      · exact hh.elim
    · rename_i t1 u1
      refine fin hh fun w R ρ a c ha hc' => ?_
      obtain ⟨y1, rfl, _⟩ := hc'.of_ifc
      rw [ha.of_val]
      exact ⟨.inl rfl, by cases op <;> rfl, fun d => eqIf_nil1 hu w _ _ _⟩
    · exact hh.elim
  · rename_i t1 u1
    split at hh
    · refine fin hh fun w R ρ a c ha hc' => ?_
      obtain ⟨y1, rfl, _⟩ := ha.of_ifc
      rw [hc'.of_val]
      exact ⟨.inr ⟨_, _, rfl⟩, by cases op <;> rfl, fun d => eqIf_nil2 hu w _ _ _⟩
    · rename_i t2 u2
      split at hh
      · rename_i hne
        have hne' : t1 ≠ t2 := fun e => by subst e; rw [Nat.beq_refl] at hne; cases hne
        refine fin hh fun w R ρ a c ha hc' => ?_
        obtain ⟨y1, rfl, _⟩ := ha.of_ifc
        obtain ⟨y2, rfl, _⟩ := hc'.of_ifc
        exact ⟨.inr ⟨_, _, rfl⟩, by cases op <;> rfl, fun d => eqIf_ne hu w _ hne' _ _⟩
      · rename_i heq
        obtain rfl := Nat.eq_of_beq_eq_true heq
        split at hh
        · rename_i hcmp
          split at hh
          · split at hh
            · split at hh
              · rename_i k1 n1 _ k2 n2 hk
                cases sameK_spec hk
                obtain ⟨i, kk, q1, q2, q3⟩ := hT.cmp _ hcmp
                refine fin hh fun w R ρ a c ha hc' => ?_
                obtain ⟨y1, rfl, h1⟩ := ha.of_ifc
                obtain ⟨y2, rfl, h2⟩ := hc'.of_ifc
                rw [h1.of_int, h2.of_int]
                exact ⟨.inr ⟨_, _, rfl⟩, by cases op <;> rfl, fun d => eqIf_int hu w d q1 q2 q3 _ _⟩
              · exact hh.elim
            · exact hh.elim
          · exact hh.elim
        · exact hh.elim
    · exact hh.elim
  · exact hh.elim
/-! ### pointers in interfaces -/
theorem run_sameAddr_one (w : World) (a : Addr) : (sameAddr a a).run P w = .ok true w := by simp [sameAddr]
theorem run_sameAddr_apart {w : World} {a b : Addr} {xs ys : Array Value} {ta tb : TypeId} (hne : a.block ≠ b.block) (ha : w.heap[a.block]? = some (.cells xs ta (0, 0))) (hb : w.heap[b.block]? = some (.cells ys tb (0, 0))) : (sameAddr a b).run P w = .ok false w := by
  have hnb : (a.block == b.block) = false := by simpa using hne
  have hfa : ∀ o, w.frozen? ⟨a.block, o, none⟩ = false := fun o => by simp [World.frozen?, ha]
  have hfb : ∀ o, w.frozen? ⟨b.block, o, none⟩ = false := fun o => by simp [World.frozen?, hb]
  have hfa' : w.frozen? a = false := by simp [World.frozen?, ha]
  have hfb' : w.frozen? b = false := by simp [World.frozen?, hb]
  have hsa : w.shape? a.block = some (ta, xs.size) := by simp [World.shape?, ha]
  have hsb : w.shape? b.block = some (tb, ys.size) := by simp [World.shape?, hb]
  simp [sameAddr, hnb, frozen, noView, viewAt, mayBeOne, stringish, shape, Sem.run, hsa, hsb, hfa, hfb, hfa', hfb']
theorem eqIf_ptr {t t1 el : TypeId} {m : Array (String × TypeId)} (hu : P.underlying t = some (.interface m)) (w : World) (d : Nat) {i j : TypeInfo} (q1 : P.info? t1 = some i) (q2 : i.comparable = true) (q3 : P.underlying t1 = some (.pointer el)) (q4 : P.info? el = some j) (q5 : j.size ≠ 0) (a b : Addr) {r : Bool} (hs : (sameAddr a b).run P w = .ok r w) :
    (Op.equalIn (d + 2) t (.iface t1 (.pointer (some a))) (.iface t1 (.pointer (some b)))).run P w = .ok r w := by
  have h2 : (Op.equalIn (d + 1) t1 (.pointer (some a)) (.pointer (some b))).run P w = .ok r w := by
    unfold Op.equalIn
    simp only [Sem.run_bind, run_underlying q3, Result.andThen_ok, run_sizeOf q4]
    rw [if_pos q5]
    exact hs
  unfold Op.equalIn
  simp only [Sem.run_bind, run_underlying hu, Result.andThen_ok]
  rw [if_neg (by simp)]
  have hi : (typeInfo t1).run P w = .ok i w := by simp [typeInfo, q1]
  simp only [Sem.run_bind, hi, Result.andThen_ok, q2]
  rw [if_neg (by simp)]
  simpa using h2
theorem goK_iface {op : BinOp} {t : TypeId} {X Y : Operand} {b : Bool} {K : V → Prop} {m : Array (String × TypeId)} (hu : P.underlying t = some (.interface m)) (hk : goK op b K) : ∃ u, K u ∧ ∀ (w : World) (a c : Value), (a = .nilIface ∨ ∃ t x, a = .iface t x) → (eqGuard op t X Y a c).run P w = .ok () w → (∀ d, (Op.equalIn (d + 2) t a c).run P w = .ok b w) →
    ∃ z, (do eqGuard op t X Y a c; binOp op t a c : Sem Value).run P w = .ok z w ∧ ∀ (R : Nat → Prop) (ρ : Rho), Rep w R ρ u z := by
  unfold goK at hk
  split at hk
  · refine ⟨_, hk, fun w a c h1 h2 h3 => ⟨.bool b, ?_, fun R ρ => .bool⟩⟩
    simp only [Sem.run_bind, h2, Result.andThen_ok, run_equal_iface hu a c w h3 .eql (.inl rfl) h1, if_true]
  · refine ⟨_, hk, fun w a c h1 h2 h3 => ⟨.bool (!b), ?_, fun R ρ => .bool⟩⟩
    simp only [Sem.run_bind, h2, Result.andThen_ok, run_equal_iface hu a c w h3 .neq (.inr rfl) h1]
    rfl
  · exact hk.elim
end
end Go.Proofs.YthchmjdgepbjpaaDoor

-- tabvar