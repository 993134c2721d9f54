/-
  Each operation of AbsDef's walk does to the world what the walk says. No conditions.
-/
import Derived.Test.YthchmjdgepbjpaaDoorAbsK
namespace Go.Proofs.YthchmjdgepbjpaaDoor
open Go.RowKit
set_option linter.unusedSimpArgs false
set_option linter.unusedVariables false

section
variable {P : Program} {cx : Cx} {h h' : Hp} {w w' : World} {R : Nat → Prop} {ρ : Rho} {c : Nat} {v : V} {x : Value} {e : Env} {T : Tab}
variable {dst : Option Tmp} {ty : TypeId} {pos : String} {af : Array Edge} {gd : Option (Nat × Bool)}
theorem move_ok [Inhabited TabT] (x : Operand) : CalmOk P cx c ⟨dst, .move x, ty, pos, af, gd⟩ e h (e.rd x) none :=
  .of_val fun R ρ a w hs hr => ⟨a.eval x, rfl, hr x (by simp [Op.operands])⟩
theorem assign_ok [Inhabited TabT] (x : Operand) : CalmOk P cx c ⟨dst, .assign x, ty, pos, af, gd⟩ e h (e.rd x) none :=
  .of_val fun R ρ a w hs hr => ⟨a.eval x, rfl, hr x (by simp [Op.operands])⟩
theorem Rep.of_bool {b : Bool} (hr : Rep w R ρ (.bool b) x) : x = .bool b := by cases hr; rfl
theorem Rep.of_int {k : IntKind} {n : Int} (hr : Rep w R ρ (.int k n) x) : x = .int k n := by cases hr; rfl
theorem Rep.of_str {l : Bs} (hr : Rep w R ρ (.str l) x) : x = S l := by cases hr; rfl
theorem pick_ok [Inhabited TabT] (q a b : Operand) {t : Bool} (hq : e.rd q = .bool t) : CalmOk P cx c ⟨dst, .pick q a b, ty, pos, af, gd⟩ e h (if t then e.rd a else e.rd b) none := by
  refine .of_val fun R ρ ac w hs hr => ?_
  have h1 := hr q (by simp [Op.operands])
  rw [hq] at h1
  have h2 := hr a (by simp [Op.operands])
  have h3 := hr b (by simp [Op.operands])
  refine ⟨if t then ac.eval a else ac.eval b, ?_, ?_⟩
  · simp [execOp, h1.of_bool, asBool]
  · cases t
    · exact h3
    · exact h2

/-- part of a struct's cells -/
theorem partK_spec {agg : Bool} {size off : Nat} {cs : List V} {k : V → Prop} (hk : partK agg size cs off k) : ∃ v, k v ∧
    ((agg = false ∧ cs[off]? = some v) ∨ (agg = true ∧ off ≤ cs.length ∧ off + size ≤ cs.length ∧ v = .agg ((cs.drop off).take size))) := by
  unfold partK at hk
  cases agg
  · obtain ⟨v, h1, h2⟩ := nthK_spec _ _ hk
    exact ⟨v, h2, .inl ⟨rfl, h1⟩⟩
  · obtain ⟨h1, h2⟩ := dropK_spec _ _ _ hk
    obtain ⟨h3, h4⟩ := takeK_spec _ _ _ h2
    exact ⟨_, h4, .inr ⟨rfl, h1, by simp at h3; omega, rfl⟩⟩
theorem run_isAgg {t : TypeId} {d : TypeDesc} (hd : P.underlying t = some d) (w : World) : (isAgg t).run P w = .ok (isAggD d) w := by
  unfold isAgg isAggD
  rw [Sem.run_bind, run_underlying hd w]
  cases d <;> rfl
theorem run_sizeOf {t : TypeId} {i : TypeInfo} (hi : P.info? t = some i) (w : World) : (sizeOf t).run P w = .ok i.size w := by simp [sizeOf, typeInfo, hi]
theorem add_none (b o n : Nat) : Addr.add ⟨b, o, none⟩ n = ⟨b, o + n, none⟩ := by unfold Addr.add; split <;> simp_all
/-- a variable is loaded out of cells that stand for cs -/
theorem run_loadVar_at {t : TypeId} {ti : TI} (ht : tiOkB P t ti = true) {b o off : Nat} {cs : List V} {f : Nat → Value} (hf : ∀ j, j < cs.length → w.cell? ⟨b, o + j, none⟩ = some (f j)) (h1 : ∀ j, j < cs.length → Value.oneCell' (f j) = true)
    (hr : ∀ (j : Nat) (v : V), cs[j]? = some v → Rep w R ρ v (f j)) {v : V} (hv : (ti.isAgg = false ∧ cs[off]? = some v) ∨ (ti.isAgg = true ∧ off ≤ cs.length ∧ off + ti.cells ≤ cs.length ∧ v = .agg ((cs.drop off).take ti.cells))) :
    ∃ x, (Instr.loadAt t (.pointer (some ⟨b, o + off, none⟩))).run P w = .ok x w ∧ Rep w R ρ v x := by
  obtain ⟨d, i, z, hd, hi, hag, hsz, hz, hone, _⟩ := tiOk_any ht
  rcases hv with ⟨ha, hv⟩ | ⟨ha, ho1, ho, rfl⟩
  · have hlt : off < cs.length := (List.getElem?_eq_some_iff.1 hv).1
    refine ⟨f off, ?_, hr off v hv⟩
    simp only [Instr.loadAt, Instr.sureAddr, Sem.run_bind, Sem.run_pure, Result.andThen_ok, loadVar, run_isAgg hd, hag, ha]
    simp [hf off hlt]
  · refine ⟨.agg ((List.range ti.cells).map fun j => f (off + j)).toArray, ?_, .agg (by simp; omega) ?_ ?_⟩
    · simp only [Instr.loadAt, Instr.sureAddr, Sem.run_bind, Sem.run_pure, Result.andThen_ok, loadVar, run_isAgg hd, hag, ha, if_true, run_sizeOf hi, hsz]
      rw [run_loadCells w ⟨b, o + off, none⟩ ti.cells (fun j => f (off + j)) (fun j hj => by rw [add_none, Nat.add_assoc]; exact hf _ (by omega))]
      simp
    · intro x hx
      simp only [List.mem_map, List.mem_range] at hx
      obtain ⟨j, hj, rfl⟩ := hx
      exact h1 _ (by omega)
    · intro j u x hu hx
      rw [List.getElem?_take] at hu
      split at hu
      · rename_i hj
        rw [List.getElem?_drop] at hu
        simp [hj] at hx
        subst hx
        exact hr _ _ hu
      · cases hu
theorem cell_of_block {b j : Nat} {xs : List Value} {t : TypeId} {fr : Nat × Nat} (hb : w.heap[b]? = some (.cells xs.toArray t fr)) : w.cell? ⟨b, j, none⟩ = xs[j]? := by
  simp [World.cell?, hb]
theorem load_ptr_ok [Inhabited TabT] {t : TypeId} {ti : TI} (ht : tiOkB P t ti = true) (x : Operand) {k off : Nat} {cs : List V} (hx : e.rd x = .ptr k off) (hk : h k = some (.cells cs)) {v : V}
    (hv : (ti.isAgg = false ∧ cs[off]? = some v) ∨ (ti.isAgg = true ∧ off ≤ cs.length ∧ off + ti.cells ≤ cs.length ∧ v = .agg ((cs.drop off).take ti.cells))) : CalmOk P cx c ⟨dst, .load t x, ty, pos, af, gd⟩ e h v none := by
  refine .of_val fun R ρ ac w hs hr => ?_
  have h1 := hr x (by simp [Op.operands])
  rw [hx] at h1
  generalize he : ac.eval x = y at h1
  cases h1 with
  | ptr hp =>
    rename_i b
    obtain ⟨xs, t', hb, hreps, hone⟩ := hs.brep k _ _ hp hk
    have key := run_loadVar_at (P := P) (w := w) (R := R) (ρ := ρ) ht (b := b) (o := 0) (off := off) (cs := cs) (f := fun j => xs.getD j undef) (fun j hj => by
        rw [cell_of_block hb]; simp [List.getD, List.getElem?_eq_getElem (show j < xs.length by rw [← hreps.1]; exact hj)]) (fun j hj => by
        have hj' : j < xs.length := by rw [← hreps.1]; exact hj
        simp [List.getD, List.getElem?_eq_getElem hj']; exact hone _ (List.getElem_mem hj')) (fun j v hv => by
        obtain ⟨y, hy, hr⟩ := hreps.get hv
        simp [List.getD, hy]; exact hr) hv
    obtain ⟨y, hy, hry⟩ := key
    refine ⟨y, ?_, hry⟩
    simp only [Nat.zero_add] at hy
    simp [execOp, he, hy]
theorem load_rd_ok [Inhabited TabT] {t : TypeId} {ti : TI} (ht : tiOkB P t ti = true) (x : Operand) {k off : Nat} {cs : List V} (hx : e.rd x = .ptr k off) (hk : h k = some (.rd (.elt cs 0))) {v : V}
    (hv : (ti.isAgg = false ∧ cs[off]? = some v) ∨ (ti.isAgg = true ∧ off ≤ cs.length ∧ off + ti.cells ≤ cs.length ∧ v = .agg ((cs.drop off).take ti.cells))) : CalmOk P cx c ⟨dst, .load t x, ty, pos, af, gd⟩ e h v none := by
  refine .of_val fun R ρ ac w hs hr => ?_
  have h1 := hr x (by simp [Op.operands])
  rw [hx] at h1
  generalize he : ac.eval x = y at h1
  cases h1 with
  | ptr hp =>
    rename_i b
    obtain ⟨cs', hcs, hrd⟩ := hs.brep k _ _ hp hk
    cases hcs
    generalize hb : (Value.pointer (some ⟨b, 0, none⟩)) = z at hrd
    cases hrd with
    | elt f hR hf ho hrr =>
      cases hb
      obtain ⟨y, hy, hry⟩ := run_loadVar_at (P := P) (w := w) (R := R) (ρ := rho0) ht hf ho hrr hv
      simp only [Nat.zero_add] at hy
      exact ⟨y, by simp [execOp, he, hy], hry.mono (fun _ h => h) (fun _ _ => rfl) (fun k o h => by cases h)⟩
theorem load_elt_ok [Inhabited TabT] {t : TypeId} {ti : TI} (ht : tiOkB P t ti = true) (x : Operand) {off : Nat} {cs : List V} (hx : e.rd x = .elt cs off) {v : V}
    (hv : (ti.isAgg = false ∧ cs[off]? = some v) ∨ (ti.isAgg = true ∧ off ≤ cs.length ∧ off + ti.cells ≤ cs.length ∧ v = .agg ((cs.drop off).take ti.cells))) : CalmOk P cx c ⟨dst, .load t x, ty, pos, af, gd⟩ e h v none := by
  refine .of_val fun R ρ ac w hs hr => ?_
  have h1 := hr x (by simp [Op.operands])
  rw [hx] at h1
  generalize he : ac.eval x = y at h1
  cases h1 with
  | elt f hR hf ho hrr =>
    obtain ⟨y, hy, hry⟩ := run_loadVar_at (P := P) (w := w) (R := R) (ρ := rho0) ht hf ho hrr hv
    exact ⟨y, by simp [execOp, he, hy], hry.mono (fun _ h => h) (fun _ _ => rfl) (fun k o h => by cases h)⟩
theorem OwnRows.cell {P : Program} {g n cap : Nat} {el : TypeId} {xs : List (List V)} {E : Nat} {fl : List Value} (h : OwnRows P w R (.slice (some ⟨g, 0, none⟩) n cap) el xs E fl) :
    (n = 0 ∧ xs.length = 0) ∨ n = xs.length ∧ fl.length = n * E ∧ ∃ cur fz, w.heap[g]? = some (.cells cur el fz) ∧ n * E ≤ cur.size ∧ ∀ j, j < n * E → w.cell? ⟨g, j, none⟩ = fl[j]? := by
  obtain ⟨ha, hb⟩ := h.owns
  rcases hb with ⟨hb, h0⟩ | ⟨a, hv, h0⟩ | ⟨g', cap', cur, fz, hv, hg, hnc, hcm, hcs, htake, hfz⟩
  · simp at hb
  · simp at hv
    obtain ⟨rfl, rfl, rfl⟩ := hv
    exact .inl ⟨by omega, by omega⟩
  · simp at hv
    obtain ⟨rfl, rfl, rfl⟩ := hv
    refine .inr ⟨rfl, ha, cur, fz, hg, by rw [hcs]; exact Nat.mul_le_mul_right _ hnc, fun j hj => ?_⟩
    simp only [World.cell?, hg]
    rw [← htake, List.getElem?_take, if_pos hj]
    simp
theorem row_at {i E n : Nat} (hi : i < n) : i * E + E ≤ n * E := by
  have : (i + 1) * E ≤ n * E := Nat.mul_le_mul_right _ hi
  rw [Nat.add_mul] at this; simpa using this
theorem load_oelt_ok [Inhabited TabT] {t : TypeId} {ti : TI} (ht : tiOkB P t ti = true) (x : Operand) {k E i off : Nat} {el : TypeId} {xs : List (List V)} (hx : e.rd x = .oelt k E i off) (hk : h k = some (.rows el xs)) {row : List V} (hrow : xs[i]? = some row) (hE : row.length = E) {v : V}
    (hv : (ti.isAgg = false ∧ row[off]? = some v) ∨ (ti.isAgg = true ∧ off ≤ row.length ∧ off + ti.cells ≤ row.length ∧ v = .agg ((row.drop off).take ti.cells))) : CalmOk P cx c ⟨dst, .load t x, ty, pos, af, gd⟩ e h v none := by
  refine .of_val fun R ρ ac w hs hr => ?_
  have h1 := hr x (by simp [Op.operands])
  rw [hx] at h1
  generalize he : ac.eval x = y at h1
  cases h1 with
  | oelt hp =>
    rename_i g n cap
    obtain ⟨E', fl, ho⟩ := hs.brep k _ _ hp hk
    have hlt : i < xs.length := (List.getElem?_eq_some_iff.1 hrow).1
    rcases ho.cell with ⟨_, h0⟩ | ⟨rfl, hfl, cur, fz, hg, hsz, hcell⟩
    · omega
    have hmem : row ∈ xs := List.mem_of_getElem? hrow
    obtain rfl : E' = E := by rw [← ho.len row hmem, hE]
    have hrl := ho.len row hmem
    have hin := row_at (E := E') hlt
    have hrp := ho.rep i row hrow
    obtain ⟨y, hy, hry⟩ := run_loadVar_at (P := P) (w := w) (R := R) (ρ := rho0) ht (b := g) (o := i * E') (off := off) (cs := row) (f := fun j => fl.getD (i * E' + j) undef) (fun j hj => by
        rw [hcell _ (by omega)]; simp [List.getD, List.getElem?_eq_getElem (show i * E' + j < fl.length by omega)]) (fun j hj => by
        have hj' : i * E' + j < fl.length := by omega
        simp [List.getD, List.getElem?_eq_getElem hj']; exact ho.one _ (List.getElem_mem hj')) (fun j v hv => by
        obtain ⟨y, hy, hr⟩ := hrp.get hv
        rw [List.getElem?_take] at hy
        split at hy
        · rw [List.getElem?_drop] at hy; simp [List.getD, hy]; exact hr
        · cases hy) hv
    exact ⟨y, by simp [execOp, he, hy], hry.mono (fun _ h => h) (fun _ _ => rfl) (fun k o h => by cases h)⟩

/-! ### new blocks, stores -/
theorem alloc_ok [Inhabited TabT] {t : TypeId} {ti : TI} (ht : tiOkB P t ti = true) : CalmOk P cx c ⟨dst, .alloc t, ty, pos, af, gd⟩ e h (.ptr c 0) (some (.cells ti.zero.cells)) := by
  intro R ρ ac w hs hr hc
  obtain ⟨d, i, z, hd, hi, hag, hsz, hz, hone, hrep⟩ := tiOk_any ht
  obtain ⟨hz1, hz2⟩ := hrep w R ρ
  obtain ⟨k1, k2⟩ := hz1.cells hz2
  have hrun : (execOp ac.eval ⟨dst, .alloc t, ty, pos, af, gd⟩).run P w = .ok (.value (.pointer (some ⟨w.heap.size, 0, none⟩))) (w.alloc (.cells z.cells.toList.toArray t)) := by
    simp [execOp, Instr.alloc, zeroValue, typeInfo, hi, hz, newVar, newRow]
  rw [hrun]
  have hold : ∀ n, n < w.heap.size → (w.alloc (.cells z.cells.toList.toArray t)).heap[n]? = w.heap[n]? := fun n hn => Below.heap_alloc w _ n hn
  have hc := hc (by simp)
  refine ⟨R, ρ.set c (.blk w.heap.size), rfl, rfl, rfl, by simp, hold, fun _ h => h, fun _ h => .inl h, .inr ⟨_, .blk w.heap.size, rfl, by simp, hc, rfl, fun n hn => by simp [RObj.own] at hn; subst hn; exact ⟨Nat.le_refl _, by simp, fun hr => by have := hs.rlt _ hr; omega⟩, z.cells.toList, t, heap_alloc_new w _, k1.ext ⟨fun _ h => h, fun b hb => hold b (hs.rlt b hb), fun k o hk => ?_⟩, k2⟩, .ptr (by simp [Rho.set])⟩
  unfold Rho.set; rw [if_neg]; exact hk
  intro he; subst he; rw [hc] at hk; cases hk
theorem There.add {h : Hp} {ρ : Rho} (ht : There h ρ) (c : Nat) (b : Blk) (o : RObj) : There (h.set c (some b)) (ρ.set c o) := fun k o' hk => by
  by_cases e : k = c
  · subst e; rw [Hp.set_same]; simp
  · unfold Rho.set at hk; rw [if_neg e] at hk; exact Hp.mono_set h c b k (ht k o' hk)
theorem box_ok [Inhabited TabT] {t : TypeId} (x : Operand) (hc0 : h c = none) (hin : (e.rd x).inner = true) : OpOk P cx ⟨dst, .box t x, ty, pos, af, gd⟩ e h (.ptr c 0) [(c, .cells (e.rd x).cells)] := by
  intro R ρ ac w hs hr ht
  have hc := ht.free hc0
  have h1 := hr x (by simp [Op.operands])
  obtain ⟨k1, k2⟩ := h1.cells hin
  obtain ⟨s1, s2⟩ := hs.alloc (t := t) hc k1 k2
  have hrun : (execOp ac.eval ⟨dst, .box t x, ty, pos, af, gd⟩).run P w = .ok (.value (.pointer (some ⟨w.heap.size, 0, none⟩))) (w.alloc (.cells (ac.eval x).cells.toList.toArray t)) := by
    simp [execOp, Instr.box, newVar, newRow]
  rw [hrun]
  exact ⟨R, _, s1, ht.add c _ _, s2, .ptr (by simp [Rho.set])⟩

/-- cells are written into a block -/
theorem run_storeCells_fz (g o : Nat) (t : TypeId) (fz : Nat × Nat) : ∀ (vs : List Value) (i : Nat) (cur : Array Value) (w : World), w.heap[g]? = some (.cells cur t fz) → (fz = (0, 0) ∨ cur.size ≤ fz.1) → o + i + vs.length ≤ cur.size → (∀ v ∈ vs, v.oneCell' = true) →
    (storeCells ⟨g, o, none⟩ vs i).run P w = .ok () (w.setRow g (cur.toList.take (o + i) ++ vs ++ cur.toList.drop (o + i + vs.length)).toArray)
  | [], i, cur, w, hg, _, _, _ => by
    simp only [storeCells, List.append_nil, List.length_nil, Nat.add_zero, List.take_append_drop, Array.toArray_toList]
    rw [setRow_self w g cur t fz hg]
    rfl
  | v :: rest, i, cur, w, hg, hz, hl, h1 => by
    have hi : o + i < cur.size := by simp at hl; omega
    have hadd : (⟨g, o, none⟩ : Addr).add i = ⟨g, o + i, none⟩ := by unfold Addr.add; split <;> simp_all
    have hcell : w.cell? ⟨g, o + i, none⟩ = some cur[o + i] := by simp [World.cell?, hg, hi]
    have hfro : w.frozen? ⟨g, o + i, none⟩ = false := by
      rcases hz with hz | hz
      · subst hz; simp [World.frozen?, hg]
      · obtain ⟨lo, hi2⟩ := fz
        simp [World.frozen?, hg]; intro h; simp at hz; omega
    have hst : (store ((⟨g, o, none⟩ : Addr).add i) v).run P w = .ok () (w.setRow g (cur.setIfInBounds (o + i) v)) := by
      rw [hadd, run_store P w _ v _ (h1 v (by simp)), hcell]
      simp [hfro, setCell_eq_setRow w g (o + i) cur t fz v hg]
    have ih := run_storeCells_fz g o t fz rest (i + 1) (cur.setIfInBounds (o + i) v) (w.setRow g (cur.setIfInBounds (o + i) v)) (setRow_heap w g cur _ t _ hg) (by simpa using hz) (by simp at hl ⊢; omega) (fun x hx => h1 x (by simp [hx]))
    simp only [storeCells, Sem.run_bind, hst, Result.andThen_ok, ih, setRow_setRow]
    congr 3
    have e := list_seg_step cur.toList (o + i) v rest (by simp at hl ⊢; omega)
    simpa [Array.toList_setIfInBounds, Nat.add_assoc] using e
theorem run_storeAt {t : TypeId} {ti : TI} (ht : tiOkB P t ti = true) {g o : Nat} {cur : Array Value} {el : TypeId} {fz : Nat × Nat} (hg : w.heap[g]? = some (.cells cur el fz)) (hfz : fz = (0, 0) ∨ cur.size ≤ fz.1) {y : Value} (hy : y.cells.size = ti.cells) (ho : o + ti.cells ≤ cur.size) (h1 : ∀ x ∈ y.cells.toList, Value.oneCell' x = true) :
    (Instr.storeAt t (.pointer (some ⟨g, o, none⟩)) y).run P w = .ok () (w.setRow g (cur.toList.take o ++ y.cells.toList ++ cur.toList.drop (o + ti.cells)).toArray) := by
  obtain ⟨d, i, z, hd, hi, hag, hsz, hz, hone, hrep⟩ := tiOk_any ht
  have hst := run_storeCells_fz (P := P) g o el fz y.cells.toList 0 cur w hg hfz (by simp; omega) h1
  simp only [Nat.add_zero, Array.length_toList, hy] at hst
  simp [Instr.storeAt, Instr.sureAddr, storeVar, run_sizeOf hi, hsz, hy, hst]
theorem Reps.write {cs vs : List V} {xs ys : List Value} {o : Nat} (hr : Reps w R ρ cs xs) (hv : Reps w R ρ vs ys) : Reps w R ρ (cs.take o ++ vs ++ cs.drop (o + vs.length)) (xs.take o ++ ys ++ xs.drop (o + ys.length)) := by
  rw [← hv.1]
  exact ((hr.take o).append hv).append (hr.drop _)
theorem setRow_ext (w : World) (g : Nat) (c : Array Value) : (w.setRow g c).os = w.os ∧ (w.setRow g c).tape = w.tape ∧ (w.setRow g c).output = w.output ∧ (w.setRow g c).heap.size = w.heap.size :=
  ⟨rfl, rfl, rfl, by simp [World.setRow]⟩
theorem store_ptr_ok [Inhabited TabT] {t : TypeId} {ti : TI} (ht : tiOkB P t ti = true) (x y : Operand) {k off : Nat} {cs : List V} (hx : e.rd x = .ptr k off) (hk : h k = some (.cells cs)) (hin : (e.rd y).inner = true) (hl : (e.rd y).cells.length = ti.cells) (ho : off + (e.rd y).cells.length ≤ cs.length) :
    StoreOk P cx ⟨dst, .store t x y, ty, pos, af, gd⟩ e h k (.cells (cs.take off ++ (e.rd y).cells ++ cs.drop (off + (e.rd y).cells.length))) := by
  intro R ρ ac w hs hr
  have h1 := hr x (by simp [Op.operands])
  have h2 := hr y (by simp [Op.operands])
  rw [hx] at h1
  generalize he : ac.eval x = u at h1
  generalize hey : ac.eval y = z at h2
  generalize hvy : e.rd y = vy at *
  cases h1 with
  | ptr hp =>
    rename_i b
    obtain ⟨xs, t', hb, hreps, hone⟩ := hs.brep k _ _ hp hk
    obtain ⟨k1, k2⟩ := h2.cells hin
    have hzl : z.cells.size = ti.cells := by have := k1.1; simp at this; omega
    have hlen := hreps.1
    have hrun := run_storeAt (P := P) ht hb (.inl rfl) hzl (o := off) (by simp; omega) k2
    have hrun' : (execOp ac.eval ⟨dst, .store t x y, ty, pos, af, gd⟩).run P w = .ok .skip (w.setRow b ((xs.take off ++ z.cells.toList ++ xs.drop (off + z.cells.toList.length)).toArray)) := by
      simp only [execOp, he, hey, Sem.run_bind, hrun, Result.andThen_ok, Sem.run_pure]
      simp [hzl]
    rw [hrun']
    obtain ⟨a1, a2, a3, a4⟩ := setRow_ext w b ((xs.take off ++ z.cells.toList ++ xs.drop (off + z.cells.toList.length)).toArray)
    obtain ⟨s1, s2⟩ := hs.write (n := b) hp hk (by simp) rfl a1 a2 a3 a4.symm (fun j hj => setRow_other w b j _ hj) (b' := .cells (cs.take off ++ vy.cells ++ cs.drop (off + vy.cells.length))) (fun ex =>
      ⟨_, t', setRow_heap w b _ _ _ _ hb, (hreps.write k1).ext ex, fun x hx => by
        simp only [List.mem_append] at hx
        rcases hx with (hx | hx) | hx
        · exact hone x (List.mem_of_mem_take hx)
        · exact k2 x hx
        · exact hone x (List.mem_of_mem_drop hx)⟩)
    exact ⟨rfl, s1, s2⟩
end
end Go.Proofs.YthchmjdgepbjpaaDoor

-- tabvar