/-
  Each operation of AbsDef's walk does to the world what the walk says: structs and lists that are made, lengths, appends, calls. No conditions.
-/
import Derived.Test.YthchmjdgepbjpaaDoorAbsOp3
namespace Go.Proofs.YthchmjdgepbjpaaDoor
open Go.RowKit
set_option linter.unusedSimpArgs false
set_option linter.unusedVariables false

section
variable {P : Program} {cx : Cx} {h h' : Hp} {w w' : World} {R : Nat → Prop} {ρ : Rho} {c : Nat} {v : V} {x : Value} {e : Env} {T : Tab}
variable {dst : Option Tmp} {ty : TypeId} {pos : String} {af : Array Edge} {gd : Option (Nat × Bool)}

/-! ### structs -/
theorem fold_set (off : Nat) : ∀ (vs : List Value) (k : Nat) (cs : List Value), off + k + vs.length ≤ cs.length →
    ((vs.zipIdx k).foldl (fun (a : Array Value) (p : Value × Nat) => a.setIfInBounds (off + p.2) p.1) cs.toArray).toList = cs.take (off + k) ++ vs ++ cs.drop (off + k + vs.length)
  | [], k, cs, _ => by simp
  | v :: vs, k, cs, hl => by
    simp only [List.zipIdx_cons, List.foldl_cons]
    have e : (cs.toArray.setIfInBounds (off + k) v) = (cs.set (off + k) v).toArray := by simp
    rw [e, fold_set off vs (k + 1) (cs.set (off + k) v) (by simp at hl ⊢; omega)]
    simp only [List.length_cons] at hl ⊢
    have hlt : off + k < cs.length := by omega
    have e2 : cs.set (off + k) v = cs.take (off + k) ++ v :: cs.drop (off + k + 1) := by rw [List.set_eq_take_append_cons_drop, if_pos hlt]
    have hA : (cs.take (off + k)).length = off + k := by simp; omega
    have t1 : (cs.set (off + k) v).take (off + (k + 1)) = cs.take (off + k) ++ [v] := by
      rw [e2, List.take_append, hA, List.take_of_length_le (by omega), show off + (k + 1) - (off + k) = 1 by omega]
      rfl
    have t2 : (cs.set (off + k) v).drop (off + (k + 1) + vs.length) = cs.drop (off + k + (vs.length + 1)) := by
      rw [e2, List.drop_append, hA, List.drop_of_length_le (by omega), show off + (k + 1) + vs.length - (off + k) = vs.length + 1 by omega]
      simp
      congr 1
      omega
    rw [t1, t2]
    simp
theorem fill_spec {G : Nat → Option (Nat × Nat)} {fs : List (Nat × Nat × Bool)} (hF : ∀ (j o s : Nat) (a : Bool), fs[j]? = some (o, s, a) → G j = some (o, s)) {ac : Act} :
    ∀ (parts : List (Nat × Operand)) (cs : List V) (xs : List Value) (k : List V → Prop), (∀ p ∈ parts, Rep w R ρ (e.rd p.2) (ac.eval p.2)) → Reps w R ρ cs xs → (∀ x ∈ xs, Value.oneCell' x = true) → buildK e fs parts cs k →
      ∃ cs' xs', k cs' ∧ Instr.fill G xs.toArray (parts.map fun p => (p.1, ac.eval p.2)) = some (List.toArray xs') ∧ Reps w R ρ cs' xs' ∧ (∀ x ∈ xs', Value.oneCell' x = true)
  | [], cs, xs, k, _, hr, h1, hb => ⟨cs, xs, hb, rfl, hr, h1⟩
  | (i, x) :: parts, cs, xs, k, hp, hr, h1, hb => by
    obtain ⟨o, s, a, hf, hb⟩ := fieldK_spec hb
    obtain ⟨hin, hb⟩ := innerK_spec hb
    obtain ⟨hsz, hb⟩ := natK_spec hb
    obtain ⟨hlen, hb⟩ := writeK_spec _ _ _ _ hb
    have hx := hp (i, x) (by simp)
    obtain ⟨k1, k2⟩ := hx.cells hin
    have hcl := k1.1
    have hl := hr.1
    have e1 := fold_set o (ac.eval x).cells.toList 0 xs (by simp at hcl ⊢; omega)
    obtain ⟨cs', xs', q1, q2, q3, q4⟩ := fill_spec hF parts _ (xs.take o ++ (ac.eval x).cells.toList ++ xs.drop (o + (ac.eval x).cells.toList.length)) k (fun p hp' => hp p (by simp [hp'])) (hr.write k1) (fun y hy => by
      simp only [List.mem_append] at hy
      rcases hy with (hy | hy) | hy
      · exact h1 y (List.mem_of_mem_take hy)
      · exact k2 y hy
      · exact h1 y (List.mem_of_mem_drop hy)) hb
    refine ⟨cs', xs', q1, ?_, q3, q4⟩
    rw [List.map_cons]
    simp only [Instr.fill, hF i o s a hf]
    have hz : (ac.eval x).cells.size = s := by have := hcl; simp at this; omega
    rw [if_neg (by simp; omega), ← q2]
    congr 1
    apply Array.ext'
    rw [← Array.foldl_toList]
    simp only [Nat.add_zero] at e1
    simp only [Array.toList_zipIdx]
    exact e1
theorem places_of : ∀ {fs : List (Nat × Nat × Bool)} {F : List Field}, fsB P fs F = true → F.mapM (fun f => (P.info? f.type).map fun i => (f.offset, i.size)) = some (fs.map fun p => (p.1, p.2.1))
  | [], [], _ => rfl
  | [], _ :: _, h => by simp [fsB] at h
  | _ :: _, [], h => by simp [fsB] at h
  | (o, s, a) :: fs, f :: F, h => by
    simp only [fsB, Bool.and_eq_true] at h
    obtain ⟨⟨h1, h2⟩, h3⟩ := h
    split at h2
    · rename_i d i hd hi
      simp at h1 h2
      rw [List.mapM_cons, places_of h3]
      simp [hi, h1, h2.1.2]
    · cases h2
theorem tiOk_zero {t : TypeId} {fs : List (Nat × Nat × Bool)} {zs : List V} (h : tiOkB P t (.struct fs zs) = true) : ∃ F i cs, P.underlying t = some (.struct F) ∧ fsB P fs F.toList = true ∧ P.info? t = some i ∧ i.zero = some (.agg cs) ∧ ∀ w R ρ, Reps w R ρ zs cs.toList ∧ ∀ x ∈ cs.toList, Value.oneCell' x = true := by
  simp only [tiOkB] at h
  split at h
  · rename_i F i hd hi
    simp only [Bool.and_eq_true] at h
    obtain ⟨⟨h1, h2⟩, h3⟩ := h
    split at h2
    · rename_i cs hx
      exact ⟨F, i, cs, hd, h3, hi, hx, fun w R ρ => zsB_spec h2⟩
    · cases h2
  · cases h
theorem nthK_mk {α : Type} {k : α → Prop} : ∀ (n : Nat) (l : List α) {x : α}, l[n]? = some x → k x → nthK n l k
  | 0, [], _, h, _ => by simp at h
  | 0, y :: _, x, h, hk => by simp at h; subst h; exact hk
  | n + 1, [], _, h, _ => by simp at h
  | n + 1, _ :: r, x, h, hk => nthK_mk n r (by simpa using h) hk
theorem innerK_mk {v : V} {k : V → Prop} (h : v.inner = true) (hk : k v) : innerK v k := by
  cases v
  case alt b x y =>
    simp only [V.inner] at h
    simp only [innerK, h]
    exact hk
  all_goals simp_all [innerK, V.inner]
theorem natK_mk {a b : Nat} {p : Prop} (h : a = b) (hp : p) : natK a b p := by subst h; simp [natK, hp]
theorem writeK_mk : ∀ (off : Nat) (vs cs : List V) (k : List V → Prop), off + vs.length ≤ cs.length → k (cs.take off ++ vs ++ cs.drop (off + vs.length)) → writeK cs off vs k
  | 0, [], cs, k, _, h => by cases cs <;> simpa [writeK] using h
  | 0, v :: vs, [], k, h, _ => by simp at h
  | 0, v :: vs, c :: cs, k, h, hk => by
    refine writeK_mk 0 vs cs _ (by simp at h ⊢; omega) ?_
    have e : 0 + (v :: vs).length = (0 + vs.length) + 1 := by simp
    rw [e, List.drop_succ_cons] at hk
    exact hk
  | n + 1, vs, [], k, h, _ => by simp at h
  | n + 1, vs, c :: cs, k, h, hk => by
    have key : writeK cs n vs fun s => k (c :: s) := by
      refine writeK_mk n vs cs _ (by simp at h; omega) ?_
      rw [show n + 1 + vs.length = (n + vs.length) + 1 by omega, List.take_succ_cons, List.drop_succ_cons] at hk
      exact hk
    cases vs <;> exact key
theorem buildK_one {fs : List (Nat × Nat × Bool)} : ∀ {parts : List (Nat × Operand)} {cs : List V} {k : List V → Prop}, buildK e fs parts cs k → ∃ cs', k cs' ∧ buildK e fs parts cs (· = cs')
  | [], cs, k, hb => ⟨cs, hb, rfl⟩
  | (i, x) :: parts, cs, k, hb => by
    obtain ⟨o, s, a, hf, hb⟩ := fieldK_spec hb
    obtain ⟨hin, hb⟩ := innerK_spec hb
    obtain ⟨hsz, hb⟩ := natK_spec hb
    obtain ⟨hlen, hb⟩ := writeK_spec _ _ _ _ hb
    obtain ⟨cs', h1, h2⟩ := buildK_one hb
    exact ⟨cs', h1, nthK_mk _ _ hf (innerK_mk hin (natK_mk hsz (writeK_mk _ _ _ _ hlen h2)))⟩
theorem build_ok [Inhabited TabT] {t : TypeId} {fs : List (Nat × Nat × Bool)} {zs : List V} (ht : tiOkB P t (.struct fs zs) = true) (parts : Array (Nat × Operand)) {k : List V → Prop} (hb : buildK e fs parts.toList zs k) :
    ∃ cs, k cs ∧ CalmOk P cx c ⟨dst, .build t parts, ty, pos, af, gd⟩ e h (.agg cs) none := by
  obtain ⟨F, i, cs0, hF, hfs, hi, hz, hzr⟩ := tiOk_zero ht
  have hpl : ∀ (j o s : Nat) (a : Bool), fs[j]? = some (o, s, a) → (fun i => ((fs.map fun p => (p.1, p.2.1)).toArray)[i]?) j = some (o, s) := fun j o s a hj => by simp [hj]
  obtain ⟨cs', hk, hone⟩ := buildK_one hb
  refine ⟨cs', hk, .of_val fun R ρ ac w hs hr => ?_⟩
  obtain ⟨hz1, hz2⟩ := hzr w R ρ
  obtain ⟨cs'', xs', q1, q2, q3, q4⟩ := fill_spec (R := R) (ρ := ρ) (w := w) (e := e) (ac := ac) hpl parts.toList zs cs0.toList (· = cs') (fun p hp => hr p.2 (by
    simp only [Op.operands, List.mem_toArray, List.mem_map]
    exact ⟨p, hp, rfl⟩)) hz1 hz2 hone
  subst q1
  have hbu : P.built t (parts.map fun p => (p.1, ac.eval p.2)).toList = some xs'.toArray := by
    unfold Program.built
    rw [hi, hF]
    simp only [hz, places_of hfs, Value.cells]
    simpa using q2
  refine ⟨.agg xs'.toArray, ?_, .agg q3.1 q4 q3.2⟩
  have := run_build (P := P) w t (parts.map fun p => (p.1, ac.eval p.2)) _ hbu
  simp only [execOp, Sem.run_bind]
  rw [this]
  rfl
theorem onesF_get : ∀ (n k j o s : Nat) (a : Bool), (onesF k n)[j]? = some (o, s, a) → o = k + j ∧ s = 1
  | 0, _, _, _, _, _, h => by simp [onesF] at h
  | n + 1, k, 0, o, s, a, h => by simp [onesF] at h; omega
  | n + 1, k, j + 1, o, s, a, h => by
    simp only [onesF, List.getElem?_cons_succ] at h
    have := onesF_get n (k + 1) j o s a h
    omega
theorem buildA_ok [Inhabited TabT] {t el : TypeId} {n E : Nat} {zs : List V} (ht : tiOkB P t (.array n el E zs) = true) (parts : Array (Nat × Operand)) {k : List V → Prop} (hb : buildK e (onesF 0 n) parts.toList zs k) :
    ∃ cs, k cs ∧ CalmOk P cx c ⟨dst, .build t parts, ty, pos, af, gd⟩ e h (.agg cs) none := by
  simp only [tiOkB] at ht
  split at ht
  case h_2 => cases ht
  rename_i n' el' i ie d hF hi hie hd
  simp only [Bool.and_eq_true, beq_iff_eq] at ht
  obtain ⟨⟨⟨⟨⟨⟨⟨hn, hel⟩, _⟩, _⟩, hie1⟩, hE1⟩, _⟩, hz⟩ := ht
  split at hz
  case h_2 => cases hz
  rename_i cs0 hz0
  subst hel hn
  have hes : ie.size = 1 := by omega
  have hpl : ∀ (j o s : Nat) (a : Bool), (onesF 0 n)[j]? = some (o, s, a) → (fun i => some (i * ie.size, ie.size)) j = some (o, s) := fun j o s a hj => by
    obtain ⟨h1, h2⟩ := onesF_get n 0 j o s a hj
    simp only [hes, h1, h2, Nat.mul_one, Nat.zero_add]
  obtain ⟨cs', hk, hone⟩ := buildK_one hb
  refine ⟨cs', hk, .of_val fun R ρ ac w hs hr => ?_⟩
  obtain ⟨hz1, hz2⟩ := zsB_spec (w := w) (R := R) (ρ := ρ) hz
  obtain ⟨cs'', xs', q1, q2, q3, q4⟩ := fill_spec (R := R) (ρ := ρ) (w := w) (e := e) (ac := ac) hpl parts.toList zs cs0.toList (· = cs') (fun p hp => hr p.2 (by
    simp only [Op.operands, List.mem_toArray, List.mem_map]
    exact ⟨p, hp, rfl⟩)) hz1 hz2 hone
  subst q1
  have hbu : P.built t (parts.map fun p => (p.1, ac.eval p.2)).toList = some xs'.toArray := by
    unfold Program.built
    rw [hi, hF]
    simp only [hz0, hie, Value.cells]
    simpa using q2
  refine ⟨.agg xs'.toArray, ?_, .agg q3.1 q4 q3.2⟩
  have := run_build (P := P) w t (parts.map fun p => (p.1, ac.eval p.2)) _ hbu
  simp only [execOp, Sem.run_bind]
  rw [this]
  rfl
end
end Go.Proofs.YthchmjdgepbjpaaDoor

-- tabvar