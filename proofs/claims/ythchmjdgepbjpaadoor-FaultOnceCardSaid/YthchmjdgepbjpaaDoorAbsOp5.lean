/-
  Each operation of AbsDef's walk does to the world what the walk says: lists that are made, lengths, appends, calls. No conditions.
-/
import Derived.Test.YthchmjdgepbjpaaDoorAbsOp4
namespace Go.Proofs.YthchmjdgepbjpaaDoor
open Go.RowKit
set_option linter.unusedSimpArgs false
set_option linter.unusedVariables false

/-- A CONTRACT: whatever the arguments stand for, the call hands back what stands for r, and has only made new memory -/
structure Fn [Inhabited TabT] (P : Program) (f : FuncId) (args : List V) (r : V) : Prop where
  run : ∀ (w : World) (R : Nat → Prop) (xs : List Value), (∀ n, R n → n < w.heap.size) → Glob w R → Reps w R rho0 args xs →
    Upon P (fun x w' => Below w.heap.size w w' ∧ ∃ R', (∀ n, R n → R' n) ∧ (∀ n, R' n → R n ∨ (w.heap.size ≤ n ∧ n < w'.heap.size)) ∧ Rep w' R' rho0 r x) ((callFunc f xs.toArray).run P w)

section
variable {P : Program} {cx : Cx} {h h' : Hp} {w w' : World} {R : Nat → Prop} {ρ : Rho} {c : Nat} {v : V} {x : Value} {e : Env} {T : Tab}
variable {dst : Option Tmp} {ty : TypeId} {pos : String} {af : Array Edge} {gd : Option (Nat × Bool)}

/-! ### lists that are made -/
theorem rowsK_one {E : Nat} : ∀ {n : Nat} {parts : List (Nat × Operand)} {k : List (List V) → Prop}, rowsK e E n parts k → ∃ xs, k xs ∧ (∀ p ∈ parts, (e.rd p.2).inner = true ∧ V.kl 40 (e.rd p.2) = true ∧ (e.rd p.2).cells.length = E) ∧ xs = parts.map (fun p => (e.rd p.2).cells) ∧ (parts.map (·.1)) = List.range' n parts.length
  | n, [], k, h => ⟨[], h, by simp, rfl, rfl⟩
  | n, (i, x) :: parts, k, h => by
    simp only [rowsK] at h
    split at h
    · rename_i hi
      obtain ⟨h1, h⟩ := innerK_spec h
      obtain ⟨h2, h⟩ := klK_spec h
      obtain ⟨h3, h⟩ := natK_spec h
      obtain ⟨xs, h4, h5, h6, h7⟩ := rowsK_one h
      refine ⟨_, h4, fun p hp => ?_, by simp [h6], ?_⟩
      · rcases List.mem_cons.1 hp with rfl | hp
        · exact ⟨h1, h2, h3⟩
        · exact h5 p hp
      · simp only [List.map_cons, List.length_cons, List.range'_succ, h7]
        rw [Nat.eq_of_beq_eq_true hi]
    · exact h.elim
theorem fill_rows {E : Nat} (hE : 0 < E) {ac : Act} : ∀ (parts : List (Nat × Operand)) (done cs : List Value) (n : Nat), done.length = n * E → cs.length = parts.length * E → (∀ p ∈ parts, (ac.eval p.2).cells.size = E) → (parts.map (·.1)) = List.range' n parts.length →
    Instr.fill (fun i => some (i * E, E)) (done ++ cs).toArray (parts.map fun p => (p.1, ac.eval p.2)) = some (done ++ parts.flatMap fun p => (ac.eval p.2).cells.toList).toArray
  | [], done, cs, n, hd, hc, _, _ => by
    have : cs = [] := List.eq_nil_of_length_eq_zero (by simpa using hc)
    subst this
    simp [Instr.fill]
  | (i, x) :: parts, done, cs, n, hd, hc, hp, hr => by
    simp only [List.map_cons, List.length_cons, List.range'_succ, List.cons.injEq] at hr
    obtain ⟨rfl, hr⟩ := hr
    have hx := hp (i, x) (by simp)
    simp only at hx
    simp only [List.length_cons, Nat.add_mul] at hc
    have hfold := fold_set (i * E) (ac.eval x).cells.toList 0 (done ++ cs) (by simp; omega)
    rw [List.map_cons]
    simp only [Instr.fill]
    rw [if_neg (by simp; omega)]
    have e1 : ((ac.eval x).cells.zipIdx.foldl (fun cs (p : Value × Nat) => cs.setIfInBounds (i * E + p.2) p.1) (done ++ cs).toArray) = ((done ++ (ac.eval x).cells.toList) ++ cs.drop E).toArray := by
      apply Array.ext'
      rw [← Array.foldl_toList]
      simp only [Array.toList_zipIdx]
      rw [hfold]
      simp only [Nat.add_zero]
      rw [List.take_append, List.drop_append, ← hd, List.take_of_length_le (Nat.le_refl _), List.drop_of_length_le (by omega)]
      simp [hx]
    have := fill_rows hE parts (done ++ (ac.eval x).cells.toList) (cs.drop E) (i + 1) (by simp [hd, hx, Nat.add_mul]) (by simp; omega) (fun p hp' => hp p (by simp [hp'])) hr
    rw [e1, this]
    simp
theorem flat_row {E : Nat} {f : (Nat × Operand) → List Value} : ∀ (parts : List (Nat × Operand)), (∀ p ∈ parts, (f p).length = E) → ∀ (i : Nat) (p : Nat × Operand), parts[i]? = some p → ((parts.flatMap f).drop (i * E)).take E = f p
  | [], _, i, p, h => by simp at h
  | q :: parts, hl, 0, p, h => by
    simp at h; subst h
    rw [List.flatMap_cons, Nat.zero_mul, List.drop_zero, List.take_left' (hl q (by simp))]
  | q :: parts, hl, i + 1, p, h => by
    rw [List.flatMap_cons, Nat.add_mul, Nat.one_mul, Nat.add_comm, ← List.drop_drop, List.drop_left' (hl q (by simp))]
    exact flat_row parts (fun p hp => hl p (by simp [hp])) i p (by simpa using h)
theorem flat_len {E : Nat} {f : (Nat × Operand) → List Value} : ∀ (parts : List (Nat × Operand)), (∀ p ∈ parts, (f p).length = E) → (parts.flatMap f).length = parts.length * E
  | [], _ => by simp
  | q :: parts, hl => by
    rw [List.flatMap_cons, List.length_append, hl q (by simp), flat_len parts (fun p hp => hl p (by simp [hp])), List.length_cons, Nat.add_mul]
    omega
theorem buildSlice_ok [Inhabited TabT] {t el : TypeId} {E n : Nat} (ht : tiOkB P t (.slice el E) = true) (parts : Array (Nat × Operand)) {xs : List (List V)} (hp : ∀ p ∈ parts.toList, (e.rd p.2).inner = true ∧ V.kl 40 (e.rd p.2) = true ∧ (e.rd p.2).cells.length = E)
    (hxs : xs = parts.toList.map (fun p => (e.rd p.2).cells)) (hix : parts.toList.map (·.1) = List.range' 0 parts.toList.length) (hn : parts.toList.length = n) (hsmall : n * E ≤ 4096) :
    CalmOk P cx c ⟨dst, .buildSlice t n parts, ty, pos, af, gd⟩ e h (.sl xs) none := by
  intro R ρ ac w hs hr _
  obtain ⟨hu, hE, ii, z, hinfo, hsz, hby, hz, hzs⟩ := tiOk_slice ht
  have hcl : ∀ p ∈ parts.toList, Reps w R rho0 (e.rd p.2).cells (ac.eval p.2).cells.toList ∧ (∀ y ∈ (ac.eval p.2).cells.toList, Value.oneCell' y = true) ∧ (ac.eval p.2).cells.size = E := fun p hpp => by
    obtain ⟨a1, a2, a3⟩ := hp p hpp
    have hrp : Rep w R ρ (e.rd p.2) (ac.eval p.2) := hr p.2 (by simp only [Op.operands, List.mem_toArray, List.mem_map]; exact ⟨p, hpp, rfl⟩)
    obtain ⟨b1, b2⟩ := (hrp.kl 40 a2).cells a1
    exact ⟨b1, b2, by have := b1.1; simp at this; omega⟩
  let fl := parts.toList.flatMap fun p => (ac.eval p.2).cells.toList
  have hfl : fl.length = n * E := by
    rw [← hn]; exact flat_len (f := fun p => (ac.eval p.2).cells.toList) parts.toList fun p hp' => by simpa using (hcl p hp').2.2
  have hone : ∀ y ∈ fl, Value.oneCell' y = true := fun y hy => by
    obtain ⟨p, hpp, hy⟩ := List.mem_flatMap.1 hy
    exact (hcl p hpp).2.1 y hy
  have hrun : (execOp ac.eval ⟨dst, .buildSlice t n parts, ty, pos, af, gd⟩).run P w = .ok (.value (.slice (some ⟨w.heap.size, 0, none⟩) n n)) (w.alloc (.cells fl.toArray el)) := by
    have hfill := fill_rows (ac := ac) hE parts.toList [] (((Array.range (n * E)).map fun k => (if n * E = 0 then #[] else z.cells)[k % (if n * E = 0 then #[] else z.cells).size]!).toList) 0 (by simp) (by simp [hn]) (fun p hpp => (hcl p hpp).2.2) hix
    have e0 : (parts.map fun p => (p.1, ac.eval p.2)).toList = parts.toList.map fun p => (p.1, ac.eval p.2) := by simp
    simp only [List.nil_append, Array.toArray_toList] at hfill
    simp only [execOp, Instr.buildSlice, Sem.run_bind, run_underlying hu, Result.andThen_ok, run_sizeOf hinfo, hsz]
    rw [Sem.run_ite, if_neg (by omega)]
    by_cases h0 : n * E = 0
    · simp only [h0, if_true, Sem.run_bind, Sem.run_pure, Result.andThen_ok] at hfill ⊢
      rw [show (parts.map fun (x : Nat × Operand) => (x.1, ac.eval x.2)).toList = parts.toList.map fun p => (p.1, ac.eval p.2) from e0, hfill]
      simp [newRow, fl]
    · simp only [h0, if_false, Sem.run_bind, Sem.run_pure, Result.andThen_ok, zeroValue, typeInfo, run_program, hinfo, hz] at hfill ⊢
      rw [show (parts.map fun (x : Nat × Operand) => (x.1, ac.eval x.2)).toList = parts.toList.map fun p => (p.1, ac.eval p.2) from e0, hfill]
      simp [newRow, fl]
  rw [hrun]
  refine ⟨fun m => R m ∨ m = w.heap.size, ρ, rfl, rfl, rfl, by simp, fun m hm => Below.heap_alloc w _ m hm, fun _ h => .inl h, fun m hm => hm.imp id fun h => by simp; omega, .inl ⟨rfl, rfl⟩, ?_⟩
  refine .sl (o := 0) (E := E) (fun j => fl.getD j undef) (by rw [hxs]; simp [hn]) (Nat.le_refl _) (by unfold maxLen; have : n ≤ n * E := Nat.le_mul_of_pos_right _ hE; omega) (.inr rfl) ?_ ?_ ?_ ?_
  · intro row hrow
    rw [hxs] at hrow
    obtain ⟨p, hpp, rfl⟩ := List.mem_map.1 hrow
    exact (hp p hpp).2.2
  · intro j hj
    have hj' : j < fl.length := by omega
    rw [cell_of_block (heap_alloc_new w _)]
    simp [List.getD, List.getElem?_eq_getElem hj']
  · intro j hj
    have hj' : j < fl.length := by omega
    simp [List.getD, List.getElem?_eq_getElem hj']
    exact hone _ (List.getElem_mem hj')
  · intro i row j v hi hj
    rw [hxs, List.getElem?_map] at hi
    cases hpi : parts.toList[i]? with
    | none => simp [hpi] at hi
    | some p =>
      simp [hpi] at hi
      subst hi
      have hpp : p ∈ parts.toList := List.mem_of_getElem? hpi
      obtain ⟨b1, b2, b3⟩ := hcl p hpp
      obtain ⟨y, hy, hry⟩ := b1.get hj
      have hfr := flat_row (E := E) (f := fun p => (ac.eval p.2).cells.toList) parts.toList (fun p hp' => by simpa using (hcl p hp').2.2) i p hpi
      have hjl : j < E := by have := (List.getElem?_eq_some_iff.1 hy).1; simp at this; omega
      have : fl[i * E + j]? = some y := by
        have h1 := congrArg (fun l => l[j]?) hfr
        simp only [List.getElem?_take, if_pos hjl, List.getElem?_drop] at h1
        exact h1.trans hy
      simp only [List.getD, this, Option.getD_some]
      exact hry.mono (fun _ h => .inl h) (fun b hb => Below.heap_alloc w _ b (hs.rlt b hb)) (fun k o h => by cases h)
/-- a list that is written down: one's own -/
theorem buildSlice_own_ok [Inhabited TabT] {t el : TypeId} {E n : Nat} (ht : tiOkB P t (.slice el E) = true) (parts : Array (Nat × Operand)) {xs : List (List V)} (hp : ∀ p ∈ parts.toList, (e.rd p.2).inner = true ∧ V.kl 40 (e.rd p.2) = true ∧ (e.rd p.2).cells.length = E)
    (hxs : xs = parts.toList.map (fun p => (e.rd p.2).cells)) (hix : parts.toList.map (·.1) = List.range' 0 parts.toList.length) (hn : parts.toList.length = n) (hsmall : n * E ≤ 4096) :
    CalmOk P cx c ⟨dst, .buildSlice t n parts, ty, pos, af, gd⟩ e h (.own c) (some (.rows el xs)) := by
  intro R ρ ac w hs hr hc0
  have hc := hc0 (by simp)
  obtain ⟨hu, hE, ii, z, hinfo, hsz, hby, hz, hzs⟩ := tiOk_slice ht
  have hcl : ∀ p ∈ parts.toList, Reps w R rho0 (e.rd p.2).cells (ac.eval p.2).cells.toList ∧ (∀ y ∈ (ac.eval p.2).cells.toList, Value.oneCell' y = true) ∧ (ac.eval p.2).cells.size = E := fun p hpp => by
    obtain ⟨a1, a2, a3⟩ := hp p hpp
    have hrp : Rep w R ρ (e.rd p.2) (ac.eval p.2) := hr p.2 (by simp only [Op.operands, List.mem_toArray, List.mem_map]; exact ⟨p, hpp, rfl⟩)
    obtain ⟨b1, b2⟩ := (hrp.kl 40 a2).cells a1
    exact ⟨b1, b2, by have := b1.1; simp at this; omega⟩
  let fl := parts.toList.flatMap fun p => (ac.eval p.2).cells.toList
  have hfl : fl.length = n * E := by
    rw [← hn]; exact flat_len (f := fun p => (ac.eval p.2).cells.toList) parts.toList fun p hp' => by simpa using (hcl p hp').2.2
  have hone : ∀ y ∈ fl, Value.oneCell' y = true := fun y hy => by
    obtain ⟨p, hpp, hy⟩ := List.mem_flatMap.1 hy
    exact (hcl p hpp).2.1 y hy
  have hrun : (execOp ac.eval ⟨dst, .buildSlice t n parts, ty, pos, af, gd⟩).run P w = .ok (.value (.slice (some ⟨w.heap.size, 0, none⟩) n n)) (w.alloc (.cells fl.toArray el)) := by
    have hfill := fill_rows (ac := ac) hE parts.toList [] (((Array.range (n * E)).map fun k => (if n * E = 0 then #[] else z.cells)[k % (if n * E = 0 then #[] else z.cells).size]!).toList) 0 (by simp) (by simp [hn]) (fun p hpp => (hcl p hpp).2.2) hix
    have e0 : (parts.map fun p => (p.1, ac.eval p.2)).toList = parts.toList.map fun p => (p.1, ac.eval p.2) := by simp
    simp only [List.nil_append, Array.toArray_toList] at hfill
    simp only [execOp, Instr.buildSlice, Sem.run_bind, run_underlying hu, Result.andThen_ok, run_sizeOf hinfo, hsz]
    rw [Sem.run_ite, if_neg (by omega)]
    by_cases h0 : n * E = 0
    · simp only [h0, if_true, Sem.run_bind, Sem.run_pure, Result.andThen_ok] at hfill ⊢
      rw [show (parts.map fun (x : Nat × Operand) => (x.1, ac.eval x.2)).toList = parts.toList.map fun p => (p.1, ac.eval p.2) from e0, hfill]
      simp [newRow, fl]
    · simp only [h0, if_false, Sem.run_bind, Sem.run_pure, Result.andThen_ok, zeroValue, typeInfo, run_program, hinfo, hz] at hfill ⊢
      rw [show (parts.map fun (x : Nat × Operand) => (x.1, ac.eval x.2)).toList = parts.toList.map fun p => (p.1, ac.eval p.2) from e0, hfill]
      simp [newRow, fl]
  rw [hrun]
  have hxl : xs.length = n := by rw [hxs]; simp [hn]
  have hown : Owns (w.alloc (.cells fl.toArray el)) el E (.slice (some ⟨w.heap.size, 0, none⟩) n n) n fl := by
    refine ⟨hfl, ?_⟩
    rcases n with _ | m
    · exact .inr (.inl ⟨_, rfl, rfl⟩)
    · exact .inr (.inr ⟨w.heap.size, m, _, _, rfl, heap_alloc_new w _, Nat.le_refl _, by unfold maxLen; have : m + 1 ≤ (m + 1) * E := Nat.le_mul_of_pos_right _ hE; omega, by simpa using hfl, by simpa using List.take_of_length_le (by rw [hfl]; exact Nat.le_refl _), .inl rfl⟩)
  refine ⟨R, ρ.set c (.hdr (.slice (some ⟨w.heap.size, 0, none⟩) n n)), rfl, rfl, rfl, by simp, fun m hm => Below.heap_alloc w _ m hm, fun _ h => h, fun _ h => .inl h, .inr ⟨_, .hdr _, rfl, by simp, hc, rfl, fun m hm => ?_, E, fl, ⟨by rw [hxl]; exact hown, ⟨hE, ii, z, hinfo, hsz, hby, hz, hzs⟩, fun row hrow => ?_, hone, fun i row hi => ?_⟩⟩, .own (by simp [Rho.set]) rfl⟩
  · have hm' : Value.ownBlock (.slice (some ⟨w.heap.size, 0, none⟩) n n) = some m := by
      simp only [RObj.own, roomOf] at hm
      split at hm
      · rename_i heq; cases heq; exact hm
      · cases hm
    simp [Value.ownBlock] at hm'
    subst hm'
    exact ⟨Nat.le_refl _, by simp, fun hr => by have := hs.rlt _ hr; omega⟩
  · rw [hxs] at hrow
    obtain ⟨p, hpp, rfl⟩ := List.mem_map.1 hrow
    exact (hp p hpp).2.2
  · rw [hxs, List.getElem?_map] at hi
    cases hpi : parts.toList[i]? with
    | none => simp [hpi] at hi
    | some p =>
      simp [hpi] at hi
      subst hi
      have hpp : p ∈ parts.toList := List.mem_of_getElem? hpi
      obtain ⟨b1, b2, b3⟩ := hcl p hpp
      have hfr := flat_row (E := E) (f := fun p => (ac.eval p.2).cells.toList) parts.toList (fun p hp' => by simpa using (hcl p hp').2.2) i p hpi
      show Reps _ R rho0 _ (List.take E (List.drop (i * E) fl))
      rw [show List.take E (List.drop (i * E) fl) = (ac.eval p.2).cells.toList from hfr]
      exact b1.ext ⟨fun _ h => h, fun b hb => Below.heap_alloc w _ b (hs.rlt b hb), fun _ _ h => h⟩
/-- an empty list that is not nil: one's own -/
theorem buildSlice_nil_ok [Inhabited TabT] {t el : TypeId} {E : Nat} (ht : tiOkB P t (.slice el E) = true) (parts : Array (Nat × Operand)) (hp : parts.toList = []) :
    CalmOk P cx c ⟨dst, .buildSlice t 0 parts, ty, pos, af, gd⟩ e h (.own c) (some (.rows el [])) := by
  intro R ρ ac w hs hr hc0
  have hc := hc0 (by simp)
  obtain ⟨hu, hinfo⟩ := tiOk_slice ht
  obtain ⟨hE, ii, z, hi, hsize, hby, hz, hzs⟩ := hinfo
  have hpe : parts = #[] := by cases parts; simp_all
  subst hpe
  have hrun : (execOp ac.eval ⟨dst, .buildSlice t 0 #[], ty, pos, af, gd⟩).run P w = .ok (.value (.slice (some ⟨w.heap.size, 0, none⟩) 0 0)) (w.alloc (.cells #[] el)) := by
    simp [execOp, Instr.buildSlice, Sem.run_bind, run_underlying hu, Result.andThen_ok, run_sizeOf hi, newRow, Instr.fill]
    have e0 : Array.range 0 = #[] := Array.eq_empty_of_size_eq_zero (by simp)
    rw [e0, Array.map_empty]
  rw [hrun]
  refine ⟨R, ρ.set c (.hdr (.slice (some ⟨w.heap.size, 0, none⟩) 0 0)), rfl, rfl, rfl, by simp, fun m hm => Below.heap_alloc w _ m hm, fun _ h => h, fun m hm => .inl hm, .inr ⟨_, .hdr (.slice (some ⟨w.heap.size, 0, none⟩) 0 0), rfl, by simp, hc, rfl, fun n hn => ?_, E, [], ⟨⟨by simp, .inr (.inl ⟨_, rfl, rfl⟩)⟩, ⟨hE, ii, z, hi, hsize, hby, hz, hzs⟩, by simp, by simp, by simp⟩⟩, .own (by simp [Rho.set]) rfl⟩
  simp [RObj.own, roomOf] at hn
end
end Go.Proofs.YthchmjdgepbjpaaDoor

-- tabvar