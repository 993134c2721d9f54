/-
  Whatever AbsDef's walk says of an operation, the operation does. No conditions.
-/
import Derived.Test.YthchmjdgepbjpaaDoorAbsOp7
namespace Go.Proofs.YthchmjdgepbjpaaDoor
open Go.RowKit
set_option linter.unusedSimpArgs false
set_option linter.unusedVariables false

section
variable {P : Program} {cx : Cx} {h h' : Hp} {w w' : World} {R : Nat → Prop} {ρ : Rho} {c : Nat} {v : V} {x : Value} {e : Env} {T : Tab}
variable {dst : Option Tmp} {ty : TypeId} {pos : String} {af : Array Edge} {gd : Option (Nat × Bool)}

theorem window_write (fl zs : List Value) (s E off : Nat) (h1 : off + zs.length ≤ E) (h2 : s + E ≤ fl.length) :
    ((fl.take (s + off) ++ zs ++ fl.drop (s + off + zs.length)).drop s).take E = ((fl.drop s).take E).take off ++ zs ++ ((fl.drop s).take E).drop (off + zs.length) := by
  apply List.ext_getElem?
  intro q
  simp only [List.getElem?_take, List.getElem?_drop, List.getElem?_append, List.length_take, List.length_append, List.length_drop]
  by_cases q1 : q < E
  · by_cases q2 : q < off
    · simp only [q1, q2, if_true]
      rw [if_pos (by omega), if_pos (by omega), if_pos (by omega), if_pos (by omega), if_pos (by omega)]
    · by_cases q3 : q < off + zs.length
      · simp only [q1, if_true]
        rw [if_pos (by omega), if_neg (by omega), if_pos (by omega), if_neg (by omega)]
        congr 1
        omega
      · simp only [q1, if_true]
        rw [if_neg (by omega), if_neg (by omega), if_pos (by omega)]
        congr 1
        omega
  · simp only [q1, if_false]
    rw [if_neg (by omega), if_neg (by omega)]
theorem store_oelt_ok [Inhabited TabT] {t : TypeId} {ti : TI} (ht : tiOkB P t ti = true) (x y : Operand) {k E i off : Nat} {el : TypeId} {xs : List (List V)} (hx : e.rd x = .oelt k E i off) (hk : h k = some (.rows el xs)) {row : List V} (hrow : xs[i]? = some row) (hE : row.length = E)
    (hin : (e.rd y).inner = true) (hkl : V.kl 40 (e.rd y) = true) (hl : (e.rd y).cells.length = ti.cells) (ho : off + (e.rd y).cells.length ≤ row.length) :
    StoreOk P cx ⟨dst, .store t x y, ty, pos, af, gd⟩ e h k (.rows el (xs.set i (row.take off ++ (e.rd y).cells ++ row.drop (off + (e.rd y).cells.length)))) := by
  intro R ρ ac w hs hr
  have h1 := hr x (by simp [Op.operands])
  have h2 := hr y (by simp [Op.operands])
  rw [hx] at h1
  generalize he : ac.eval x = u at h1
  generalize hey : ac.eval y = z at h2
  generalize hvy : e.rd y = vy at *
  cases h1 with
  | oelt hp =>
    rename_i g n cap
    obtain ⟨E', fl, hown⟩ := hs.brep k _ _ hp hk
    have hlt : i < xs.length := (List.getElem?_eq_some_iff.1 hrow).1
    obtain rfl : E' = E := by rw [← hown.len row (List.mem_of_getElem? hrow), hE]
    have hrl := hown.len row (List.mem_of_getElem? hrow)
    have hrin := row_at (E := E') hlt
    obtain ⟨k1, k2⟩ := (h2.kl 40 hkl).cells hin
    have hzl : z.cells.size = ti.cells := by have := k1.1; simp at this; omega
    have hfl := hown.owns.1
    obtain ⟨ha, hb⟩ := hown.owns
    rcases hb with ⟨hb, h0⟩ | ⟨_, hb, h0⟩ | ⟨g', cap', cur, fz, hv, hg, hnc, hcm, hcs, htake, hfz⟩
    · simp at hb
    · omega
    simp at hv
    obtain ⟨rfl, rfl, rfl⟩ := hv
    have hcur : xs.length * E' ≤ cur.size := by rw [hcs]; exact Nat.mul_le_mul_right _ hnc
    have hrun := run_storeAt (P := P) ht hg (hfz.imp id And.left) hzl (o := i * E' + off) (by omega) k2
    let fl' := fl.take (i * E' + off) ++ z.cells.toList ++ fl.drop (i * E' + off + z.cells.toList.length)
    have hfl' : fl'.length = fl.length := by simp [fl']; omega
    have hrun' : (execOp ac.eval ⟨dst, .store t x y, ty, pos, af, gd⟩).run P w = .ok .skip (w.setRow g (cur.toList.take (i * E' + off) ++ z.cells.toList ++ cur.toList.drop (i * E' + off + ti.cells)).toArray) := by
      simp only [execOp, he, hey, Sem.run_bind, hrun, Result.andThen_ok, Sem.run_pure]
    rw [hrun']
    obtain ⟨a1, a2, a3, a4⟩ := setRow_ext w g (cur.toList.take (i * E' + off) ++ z.cells.toList ++ cur.toList.drop (i * E' + off + ti.cells)).toArray
    have hrow' : (row.take off ++ vy.cells ++ row.drop (off + vy.cells.length)).length = E' := by simp; omega
    obtain ⟨s1, s2⟩ := hs.write (n := g) hp hk (by simp) rfl a1 a2 a3 a4.symm (fun j hj => setRow_other w g j _ hj) (b' := .rows el (xs.set i (row.take off ++ vy.cells ++ row.drop (off + vy.cells.length)))) (fun ex => by
      refine ⟨E', fl', ⟨⟨by rw [hfl', hfl]; simp, .inr (.inr ⟨g, cap', _, fz, by simp, setRow_heap w g cur _ el _ hg, by simpa using hnc, hcm, ?_, ?_, hfz.imp id fun h => ⟨by simp; omega, h.2⟩⟩)⟩, hown.info, ?_, ?_, ?_⟩⟩
      · simp; omega
      · simp only [List.length_set]
        have e1 : fl.take (i * E' + off) = cur.toList.take (i * E' + off) := by rw [← htake, List.take_take, Nat.min_eq_left (by omega)]
        have e2 : fl.drop (i * E' + off + z.cells.toList.length) = (cur.toList.drop (i * E' + off + ti.cells)).take (xs.length * E' - (i * E' + off + ti.cells)) := by
          rw [← htake, List.drop_take]; simp [hzl]
        simp only [fl', e1, e2, List.toList_toArray]
        have l1 : (cur.toList.take (i * E' + off) ++ z.cells.toList).length = i * E' + off + ti.cells := by simp; omega
        rw [List.take_append, l1, List.take_of_length_le (by rw [l1]; omega)]
      · intro r hr
        rcases List.mem_or_eq_of_mem_set hr with hr | rfl
        · exact hown.len r hr
        · exact hrow'
      · intro q hq
        simp only [fl', List.mem_append] at hq
        rcases hq with (hq | hq) | hq
        · exact hown.one q (List.mem_of_mem_take hq)
        · exact k2 q hq
        · exact hown.one q (List.mem_of_mem_drop hq)
      · intro j r hj
        have exx : Ext w R rho0 _ R rho0 := ⟨ex.r, ex.heap, fun _ _ h => h⟩
        rw [List.getElem?_set] at hj
        split at hj
        · rename_i hij
          subst hij
          simp [hlt] at hj
          subst hj
          have key : (fl'.drop (i * E')).take E' = ((fl.drop (i * E')).take E').take off ++ z.cells.toList ++ ((fl.drop (i * E')).take E').drop (off + z.cells.toList.length) := by
            exact window_write fl z.cells.toList (i * E') E' off (by simp; omega) (by omega)
          rw [key]
          have fin := (((hown.rep i row hrow).write (o := off) k1)).ext exx
          simpa using fin
        · rename_i hij
          have hjl : j < xs.length := (List.getElem?_eq_some_iff.1 hj).1
          have hjin := row_at (E := E') hjl
          have key : (fl'.drop (j * E')).take E' = (fl.drop (j * E')).take E' := by
            apply List.ext_getElem?
            intro q
            rw [List.getElem?_take, List.getElem?_take]
            split
            · rename_i hq
              rw [List.getElem?_drop, List.getElem?_drop]
              simp only [fl']
              by_cases hji : j < i
              · have : (j + 1) * E' ≤ i * E' := Nat.mul_le_mul_right _ hji
                rw [Nat.add_mul] at this
                rw [List.append_assoc, List.getElem?_append_left (by simp; omega), List.getElem?_take, if_pos (by omega)]
              · have hgt : i < j := by omega
                have : (i + 1) * E' ≤ j * E' := Nat.mul_le_mul_right _ hgt
                rw [Nat.add_mul] at this
                rw [List.getElem?_append_right (by simp; omega), List.getElem?_drop]
                congr 1
                simp
                omega
            · rfl
          rw [key]
          exact (hown.rep j r hj).ext exx)
    exact ⟨rfl, s1, s2⟩
theorem str_cmp (a b : Bs) : (Op.bytesLess a b || a == b) = !Op.bytesLess b a := by
  have := blt_asymm b a
  rw [← this]
  cases Op.bytesLess a b <;> cases (a == b) <;> rfl
theorem min_int_ok [Inhabited TabT] {ts : Array TypeId} (x y : Operand) {k : IntKind} {a b : Int} (hx : e.rd x = .int k a) (hy : e.rd y = .int k b) : CalmOk P cx c ⟨dst, .call { callee := .builtin .min, args := #[x, y], argTypes := ts }, ty, pos, af, gd⟩ e h (.int k (min a b)) none := by
  refine .of_val fun R ρ ac w hs hr => ?_
  have g1 := hr x (by simp [Op.operands, Call.operands])
  have g2 := hr y (by simp [Op.operands, Call.operands])
  rw [hx] at g1
  rw [hy] at g2
  refine ⟨_, ?_, .int⟩
  have : min a b = if b < a then b else a := by split <;> omega
  simp [execOp, resolve, invoke, builtin, g1.of_int, g2.of_int, Builtin.min_, Builtin.min2, this]
theorem max_int_ok [Inhabited TabT] {ts : Array TypeId} (x y : Operand) {k : IntKind} {a b : Int} (hx : e.rd x = .int k a) (hy : e.rd y = .int k b) : CalmOk P cx c ⟨dst, .call { callee := .builtin .max, args := #[x, y], argTypes := ts }, ty, pos, af, gd⟩ e h (.int k (max a b)) none := by
  refine .of_val fun R ρ ac w hs hr => ?_
  have g1 := hr x (by simp [Op.operands, Call.operands])
  have g2 := hr y (by simp [Op.operands, Call.operands])
  rw [hx] at g1
  rw [hy] at g2
  refine ⟨_, ?_, .int⟩
  have : max a b = if a < b then b else a := by split <;> omega
  simp [execOp, resolve, invoke, builtin, g1.of_int, g2.of_int, Builtin.max_, Builtin.max2, this]
theorem min_str_ok [Inhabited TabT] {ts : Array TypeId} (x y : Operand) {a b : Bs} (hx : e.rd x = .str a) (hy : e.rd y = .str b) : CalmOk P cx c ⟨dst, .call { callee := .builtin .min, args := #[x, y], argTypes := ts }, ty, pos, af, gd⟩ e h (.str (minS a b)) none := by
  refine .of_val fun R ρ ac w hs hr => ?_
  have g1 := hr x (by simp [Op.operands, Call.operands])
  have g2 := hr y (by simp [Op.operands, Call.operands])
  rw [hx] at g1
  rw [hy] at g2
  refine ⟨S (minS a b), ?_, .str⟩
  simp only [execOp, resolve, invoke, builtin, Sem.run_bind, Sem.run_pure, Result.andThen_ok, List.map_toArray, List.map_cons, List.map_nil, g1.of_str, g2.of_str, Builtin.min_, List.foldlM_cons, List.foldlM_nil, Builtin.min2, Op.stringOp, str_list, str_cmp, asBool, minS, blt]
  by_cases hh : Op.bytesLess b a = true <;> simp [hh]
theorem max_str_ok [Inhabited TabT] {ts : Array TypeId} (x y : Operand) {a b : Bs} (hx : e.rd x = .str a) (hy : e.rd y = .str b) : CalmOk P cx c ⟨dst, .call { callee := .builtin .max, args := #[x, y], argTypes := ts }, ty, pos, af, gd⟩ e h (.str (maxS a b)) none := by
  refine .of_val fun R ρ ac w hs hr => ?_
  have g1 := hr x (by simp [Op.operands, Call.operands])
  have g2 := hr y (by simp [Op.operands, Call.operands])
  rw [hx] at g1
  rw [hy] at g2
  refine ⟨S (maxS a b), ?_, .str⟩
  simp only [execOp, resolve, invoke, builtin, Sem.run_bind, Sem.run_pure, Result.andThen_ok, List.map_toArray, List.map_cons, List.map_nil, g1.of_str, g2.of_str, Builtin.max_, List.foldlM_cons, List.foldlM_nil, Builtin.max2, Op.stringOp, str_list, asBool, maxS, blt]
  by_cases hh : Op.bytesLess a b = true <;> simp [hh]
end
end Go.Proofs.YthchmjdgepbjpaaDoor

-- tabvar