/-
  Each operation of AbsDef's walk does to the world what the walk says: addresses, parts, lists, calls. No conditions.
-/
import Derived.Test.YthchmjdgepbjpaaDoorAbsOp2
namespace Go.Proofs.YthchmjdgepbjpaaDoor
open Go.RowKit
set_option linter.unusedSimpArgs false
set_option linter.unusedVariables false

section
variable {P : Program} {cx : Cx} {h h' : Hp} {w w' : World} {R : Nat → Prop} {ρ : Rho} {c : Nat} {v : V} {x : Value} {e : Env} {T : Tab}
variable {dst : Option Tmp} {ty : TypeId} {pos : String} {af : Array Edge} {gd : Option (Nat × Bool)}

theorem fieldK_spec {fs : List (Nat × Nat × Bool)} {f : Nat} {k : Nat → Nat → Bool → Prop} (hh : fieldK fs f k) : ∃ o s a, fs[f]? = some (o, s, a) ∧ k o s a := by
  unfold fieldK at hh
  obtain ⟨⟨o, s, a⟩, h1, h2⟩ := nthK_spec _ _ hh
  exact ⟨o, s, a, h1, h2⟩
theorem run_fieldAt {t : TypeId} {fs : List (Nat × Nat × Bool)} {zs : List V} (ht : tiOkB P t (.struct fs zs) = true) {f o s : Nat} {a : Bool} (hf : fs[f]? = some (o, s, a)) (b off : Nat) (w : World) :
    (Instr.fieldAt t (.pointer (some ⟨b, off, none⟩)) f).run P w = .ok (.pointer (some ⟨b, off + o, none⟩)) w := by
  obtain ⟨F, hF, hfs⟩ := tiOk_struct ht
  obtain ⟨fd, d, i, h1, rfl, h3, h4, h5, h6, h7⟩ := hfs f o s a hf
  have h1' : F[f]? = some fd := h1
  simp only [Instr.fieldAt, Sem.run_bind, run_underlying hF, Result.andThen_ok, h1', Instr.sureAddr, Sem.run_pure, fieldPlace, run_sizeOf h4]
  rw [if_neg (by omega)]
  simp [add_none]
theorem fieldAddr_ok [Inhabited TabT] {t : TypeId} {fs : List (Nat × Nat × Bool)} {zs : List V} (ht : tiOkB P t (.struct fs zs) = true) (x : Operand) {f o s : Nat} {a : Bool} (hf : fs[f]? = some (o, s, a)) {v : V}
    (hv : (∃ k off, e.rd x = .ptr k off ∧ v = .ptr k (off + o)) ∨ (∃ r off, e.rd x = .elt r off ∧ v = .elt r (off + o)) ∨ (∃ k E i off, e.rd x = .oelt k E i off ∧ v = .oelt k E i (off + o))) :
    CalmOk P cx c ⟨dst, .fieldAddr t x f, ty, pos, af, gd⟩ e h v none := by
  refine .of_val fun R ρ ac w hs hr => ?_
  have h1 := hr x (by simp [Op.operands])
  generalize he : ac.eval x = u at h1
  have fin : ∀ b off, u = .pointer (some ⟨b, off, none⟩) → (execOp ac.eval ⟨dst, .fieldAddr t x f, ty, pos, af, gd⟩).run P w = .ok (.value (.pointer (some ⟨b, off + o, none⟩))) w := fun b off hu => by
    subst hu
    simp [execOp, he, run_fieldAt ht hf]
  rcases hv with ⟨k, off, hx, rfl⟩ | ⟨r, off, hx, rfl⟩ | ⟨k, E, i, off, hx, rfl⟩ <;> rw [hx] at h1 <;> cases h1
  · rename_i b hp
    exact ⟨_, fin _ _ rfl, .ptr hp⟩
  · rename_i b q ff hR hf0 h10 h0
    exact ⟨_, fin _ _ rfl, by rw [Nat.add_assoc]; exact .elt ff hR hf0 h10 h0⟩
  · rename_i hp
    exact ⟨_, fin _ _ rfl, by rw [Nat.add_assoc]; exact .oelt hp⟩
theorem field_ok [Inhabited TabT] {t : TypeId} {fs : List (Nat × Nat × Bool)} {zs : List V} (ht : tiOkB P t (.struct fs zs) = true) (x : Operand) {f o s : Nat} {a : Bool} (hf : fs[f]? = some (o, s, a)) {cs : List V} (hx : e.rd x = .agg cs) {v : V}
    (hv : (a = false ∧ cs[o]? = some v) ∨ (a = true ∧ o ≤ cs.length ∧ o + s ≤ cs.length ∧ v = .agg ((cs.drop o).take s))) : CalmOk P cx c ⟨dst, .field t x f, ty, pos, af, gd⟩ e h v none := by
  refine .of_val fun R ρ ac w hs hr => ?_
  have h1 := hr x (by simp [Op.operands])
  rw [hx] at h1
  generalize he : ac.eval x = u at h1
  obtain ⟨F, hF, hfs⟩ := tiOk_struct ht
  obtain ⟨fd, d, i, g1, rfl, g3, g4, g5, rfl, g7⟩ := hfs f o s a hf
  have g1' : F[f]? = some fd := g1
  cases h1 with
  | agg hl hone hrep =>
    rename_i xs
    have hR : Reps w R ρ cs xs := ⟨hl, hrep⟩
    rcases hv with ⟨rfl, hv⟩ | ⟨rfl, ho1, ho, rfl⟩
    · obtain ⟨y, hy, hry⟩ := hR.get hv
      refine ⟨y, ?_, hry⟩
      simp [execOp, he, Instr.field, run_underlying hF, g1', asAgg, part, run_isAgg g3, g5, hy]
    · refine ⟨.agg ((xs.drop fd.offset).take i.size).toArray, ?_, .agg ?_ ?_ ?_⟩
      · have e1 : xs.toArray.extract fd.offset (fd.offset + i.size) = ((xs.drop fd.offset).take i.size).toArray := by
          simp [List.extract_toArray, List.extract_eq_take_drop]
        simp [execOp, he, Instr.field, run_underlying hF, g1', asAgg, part, run_isAgg g3, g5, run_sizeOf g4, e1]
      · exact ((hR.drop _).take _).1
      · intro y hy; exact hone y (List.mem_of_mem_drop (List.mem_of_mem_take hy))
      · exact ((hR.drop _).take _).2

theorem run_indexAt {t el : TypeId} {E : Nat} (ht : tiOkB P t (.slice el E) = true) {b o n cap : Nat} {k : IntKind} {i : Int} (h0 : 0 ≤ i) (hi : i < n) (w : World) :
    (Instr.indexAt t (.slice (some ⟨b, o, none⟩) n cap) (.int k i)).run P w = .ok (.pointer (some ⟨b, o + i.toNat * E, none⟩)) w := by
  obtain ⟨hu, hp, ii, z, hinfo, rfl, _⟩ := tiOk_slice ht
  simp only [Instr.indexAt, asIntOf, Sem.run_bind, Sem.run_pure, Result.andThen_ok, run_underlying hu, run_sizeOf hinfo, Sem.run_ite]
  rw [if_pos ⟨h0, hi⟩]
  simp [add_none, run_sizeOf hinfo]
theorem indexAddr_sl_ok [Inhabited TabT] {t el : TypeId} {E : Nat} (ht : tiOkB P t (.slice el E) = true) (x ix : Operand) {xs : List (List V)} (hx : e.rd x = .sl xs) {k : IntKind} {i : Int} (hix : e.rd ix = .int k i) (h0 : 0 ≤ i) {row : List V} (hrow : xs[i.toNat]? = some row) (hE : row.length = E) :
    CalmOk P cx c ⟨dst, .indexAddr t x ix, ty, pos, af, gd⟩ e h (.elt row 0) none := by
  refine .of_val fun R ρ ac w hs hr => ?_
  have h1 := hr x (by simp [Op.operands])
  have h2 := hr ix (by simp [Op.operands])
  rw [hx] at h1
  rw [hix] at h2
  generalize he : ac.eval x = u at h1
  have hlt : i.toNat < xs.length := (List.getElem?_eq_some_iff.1 hrow).1
  cases h1 with
  | slnil => simp at hrow
  | sl f hn hc hm hR hEE hf hone hrep =>
    rename_i b o n cap E'
    subst hn
    obtain rfl : E' = E := by rw [← hEE row (List.mem_of_getElem? hrow), hE]
    have hin := row_at (E := E') hlt
    refine ⟨.pointer (some ⟨b, o + i.toNat * E' + 0, none⟩), ?_, .elt (R := R) (row := row) (off := 0) (o := o + i.toNat * E') (fun j => f (i.toNat * E' + j)) hR ?_ ?_ ?_⟩
    · simp only [execOp, he, h2.of_int, Sem.run_bind, run_indexAt ht h0 (show i < (xs.length : Int) by omega), Result.andThen_ok, Sem.run_pure]
      rfl
    · intro j hj; rw [Nat.add_assoc]; exact hf _ (by omega)
    · intro j hj; exact hone _ (by omega)
    · intro j v hj; exact hrep _ row j v hrow hj
theorem run_indexArr {t el : TypeId} {n E : Nat} {zs : List V} (ht : tiOkB P t (.array n el E zs) = true) {b o : Nat} {k : IntKind} {i : Int} (h0 : 0 ≤ i) (hi : i < n) (w : World) :
    (Instr.indexAt t (.pointer (some ⟨b, o, none⟩)) (.int k i)).run P w = .ok (.pointer (some ⟨b, o + i.toNat, none⟩)) w := by
  obtain ⟨rfl, hz, hu, ie, d, hinfo, hsz, _⟩ := tiOk_array ht
  simp only [Instr.indexAt, Instr.sureAddr, asIntOf, Sem.run_bind, Sem.run_pure, Result.andThen_ok, run_underlying hu, run_sizeOf hinfo, Sem.run_ite]
  rw [if_pos ⟨h0, hi⟩]
  simp [add_none, run_sizeOf hinfo, hsz]
theorem indexAddr_arr_ok [Inhabited TabT] {t el : TypeId} {n E : Nat} {zs : List V} (ht : tiOkB P t (.array n el E zs) = true) (x ix : Operand) {k : IntKind} {i : Int} (hix : e.rd ix = .int k i) (h0 : 0 ≤ i) (hi : i < n) {v : V}
    (hx : (∃ a off, e.rd x = .ptr a off ∧ v = .ptr a (off + i.toNat)) ∨ ∃ row off, e.rd x = .elt row off ∧ v = .elt row (off + i.toNat)) :
    CalmOk P cx c ⟨dst, .indexAddr t x ix, ty, pos, af, gd⟩ e h v none := by
  refine .of_val fun R ρ ac w hs hr => ?_
  have h1 := hr x (by simp [Op.operands])
  have h2 := hr ix (by simp [Op.operands])
  rw [hix] at h2
  generalize he : ac.eval x = u at h1
  rcases hx with ⟨a, off, hx, rfl⟩ | ⟨row, off, hx, rfl⟩
  · rw [hx] at h1
    cases h1 with
    | ptr hp =>
      refine ⟨_, ?_, .ptr hp⟩
      simp only [execOp, he, h2.of_int, Sem.run_bind, run_indexArr ht h0 hi, Result.andThen_ok, Sem.run_pure]
  · rw [hx] at h1
    cases h1 with
    | elt f hR hf ho hrr =>
      refine ⟨_, ?_, .elt f hR hf ho hrr⟩
      simp only [execOp, he, h2.of_int, Sem.run_bind, run_indexArr ht h0 hi, Result.andThen_ok, Sem.run_pure, Nat.add_assoc]
theorem indexAddr_own_ok [Inhabited TabT] {t el el' : TypeId} {E : Nat} (ht : tiOkB P t (.slice el E) = true) (x ix : Operand) {k0 : Nat} {xs : List (List V)} (hx : e.rd x = .own k0) (hk : h k0 = some (.rows el' xs)) {k : IntKind} {i : Int} (hix : e.rd ix = .int k i) (h0 : 0 ≤ i) (hi : i < xs.length) :
    CalmOk P cx c ⟨dst, .indexAddr t x ix, ty, pos, af, gd⟩ e h (.oelt k0 E i.toNat 0) none := by
  refine .of_val fun R ρ ac w hs hr => ?_
  have h1 := hr x (by simp [Op.operands])
  have h2 := hr ix (by simp [Op.operands])
  rw [hx] at h1
  rw [hix] at h2
  generalize he : ac.eval x = u at h1
  cases h1 with
  | own hp =>
    obtain ⟨E', fl, ho⟩ := hs.brep k0 _ _ hp hk
    obtain ⟨ha, hb⟩ := ho.owns
    rcases hb with ⟨hb, hz⟩ | ⟨_, hb, hz⟩ | ⟨g, cap, cur, fz, rfl, hg, hnc, hcm, hcs, htake, hfz⟩
    · omega
    · omega
    · refine ⟨_, ?_, .oelt (off := 0) hp⟩
      simp only [execOp, he, h2.of_int, Sem.run_bind, run_indexAt ht h0 hi, Result.andThen_ok, Sem.run_pure]
      simp
theorem index_ok [Inhabited TabT] {t : TypeId} {z : Bs} (ht : tiOkB P t (.word (.str z)) = true) (x ix : Operand) {l : Bs} (hx : e.rd x = .str l) {k : IntKind} {i : Int} (hix : e.rd ix = .int k i) (h0 : 0 ≤ i) (hi : i < l.length) :
    CalmOk P cx c ⟨dst, .index t x ix, ty, pos, af, gd⟩ e h (.int .u8 (l.getD i.toNat 0).toNat) none := by
  refine .of_val fun R ρ ac w hs hr => ?_
  have h1 := hr x (by simp [Op.operands])
  have h2 := hr ix (by simp [Op.operands])
  rw [hx] at h1
  rw [hix] at h2
  have hlt : i.toNat < l.length := by omega
  refine ⟨.int .u8 (l.getD i.toNat 0).toNat, ?_, .int⟩
  have e1 : (⟨l.toArray⟩ : ByteArray)[i.toNat]? = some l[i.toNat] := by
    have hs : i.toNat < (⟨l.toArray⟩ : ByteArray).size := by simpa [ByteArray.size] using hlt
    exact getElem?_pos (⟨l.toArray⟩ : ByteArray) i.toNat hs
  simp only [execOp, h1.of_str, h2.of_int, Instr.index, asIntOf, Sem.run_bind, Sem.run_pure, Result.andThen_ok, run_underlying (tiOk_str ht), if_pos h0, e1]
  simp [List.getD, List.getElem?_eq_getElem hlt]
theorem extract_ok [Inhabited TabT] (x : Operand) {vs : List V} (hx : e.rd x = .tup vs) {i : Nat} {v : V} (hv : vs[i]? = some v) : CalmOk P cx c ⟨dst, .extract x i, ty, pos, af, gd⟩ e h v none := by
  refine .of_val fun R ρ ac w hs hr => ?_
  have h1 := hr x (by simp [Op.operands])
  rw [hx] at h1
  generalize he : ac.eval x = u at h1
  cases h1 with
  | tup hl hrep =>
    rename_i xs
    obtain ⟨y, hy, hry⟩ := Reps.get ⟨hl, hrep⟩ hv
    exact ⟨y, by simp [execOp, he, Instr.extract, hy], hry⟩
theorem makeInterface_ok [Inhabited TabT] {t : TypeId} {ti : TI} (ht : tiOkB P t ti = true) (hn : ti ≠ .word (.val .nilIface)) (x : Operand) : CalmOk P cx c ⟨dst, .makeInterface t x, ty, pos, af, gd⟩ e h (.ifc t (e.rd x)) none := by
  refine .of_val fun R ρ ac w hs hr => ?_
  have h1 := hr x (by simp [Op.operands])
  obtain ⟨d, hd, hni⟩ := tiOk_noIface ht hn
  refine ⟨.iface t (ac.eval x), ?_, .ifc h1⟩
  simp only [execOp, Instr.makeInterface, Sem.run_bind, run_underlying hd, Result.andThen_ok]
  cases d <;> first | rfl | exact absurd rfl (hni _)
theorem makeFunc_ok [Inhabited TabT] (f : FuncId) (caps : Array Operand) : CalmOk P cx c ⟨dst, .makeFunc (.func f) #[] caps, ty, pos, af, gd⟩ e h (.fn f (caps.toList.map e.rd)) none := by
  refine .of_val fun R ρ ac w hs hr => ?_
  refine ⟨.func (.func f) #[] (caps.toList.map ac.eval).toArray, ?_, .fn (by simp) ?_⟩
  · have e1 : caps.map ac.eval = (caps.toList.map ac.eval).toArray := by apply Array.ext'; simp
    simp [execOp, Instr.makeFunc, e1]
  · intro i v y hv hy
    rw [List.getElem?_map] at hv hy
    cases hc : caps.toList[i]? with
    | none => simp [hc] at hv
    | some q =>
      simp [hc] at hv hy
      subst hv; subst hy
      exact hr q (by
        have : q ∈ caps.toList := List.mem_of_getElem? hc
        simpa [Op.operands] using this)
theorem not_ok [Inhabited TabT] {t : TypeId} (x : Operand) {b : Bool} (hx : e.rd x = .bool b) : CalmOk P cx c ⟨dst, .unOp .not t x, ty, pos, af, gd⟩ e h (.bool !b) none := by
  refine .of_val fun R ρ ac w hs hr => ?_
  have h1 := hr x (by simp [Op.operands])
  rw [hx] at h1
  exact ⟨_, by simp [execOp, Op.unary, h1.of_bool], .bool⟩
theorem neg_ok [Inhabited TabT] {t : TypeId} (x : Operand) {k : IntKind} {n : Int} (hx : e.rd x = .int k n) : CalmOk P cx c ⟨dst, .unOp .neg t x, ty, pos, af, gd⟩ e h (.int k (k.wrap (0 - n))) none := by
  refine .of_val fun R ρ ac w hs hr => ?_
  have h1 := hr x (by simp [Op.operands])
  rw [hx] at h1
  exact ⟨_, by simp only [execOp, Op.unary, h1.of_int, Op.intArith, Sem.run_bind, Sem.run_pure, Result.andThen_ok], .int⟩
end
end Go.Proofs.YthchmjdgepbjpaaDoor

-- tabvar