/-
  Whatever AbsDef's walk says of an operation, the operation does: conversions. No conditions.
-/
import Derived.Test.YthchmjdgepbjpaaDoorAbsOp8
import Derived.Laws.OwnMore
import Derived.Laws.BytesArg
import Derived.Laws.BytesString
import Derived.Lib.ConvBytes
namespace Go.Proofs.YthchmjdgepbjpaaDoor
open Go.RowKit
set_option linter.unusedSimpArgs false
set_option linter.unusedVariables false

section
variable {P : Program} {cx : Cx} {h h' : Hp} {w w' : World} {R : Nat → Prop} {ρ : Rho} {c : Nat} {v : V} {x : Value} {e : Env} {T : Tab}
variable {dst : Option Tmp} {ty : TypeId} {pos : String} {af : Array Edge} {gd : Option (Nat × Bool)}
theorem run_convert_bytes_zero (w : World) (src e : TypeId) (hs : P.underlying src = some (.slice e)) (he : P.underlying e = some (.int .u8)) (p : Option Addr) (c : Nat) :
    ∀ dst, P.underlying dst = some .string → (convert src dst (.slice p 0 c)).run P w = .ok (.string ByteArray.empty) w := by
  intro dst hd
  rw [run_convert_bytes_string w src dst e _ 0 c hs he hd]
  cases p <;> simp [Conv.bytesToString, loadCells]
  all_goals rfl
theorem kind_int {k : IntKind} {z : Int} {d : TypeDesc} (h : kindB (.int k z) d = true) : d = .int k := by
  cases d <;> simp_all [kindB]
theorem kind_str {z : Bs} {d : TypeDesc} (h : kindB (.str z) d = true) : d = .string := by
  cases d <;> simp_all [kindB]
theorem convert_int_ok [Inhabited TabT] {src t : TypeId} (x : Operand) {k ks k' : IntKind} {n z zs : Int} (hs : tiOkB P src (.word (.int ks zs)) = true) (hd : tiOkB P t (.word (.int k z)) = true) (hx : e.rd x = .int k' n) : CalmOk P cx c ⟨dst, .convert src t x, ty, pos, af, gd⟩ e h (.int k (k.wrap n)) none := by
  refine .of_val fun R ρ ac w hss hr => ?_
  have h1 := hr x (by simp [Op.operands])
  rw [hx] at h1
  obtain ⟨ds, hs1, hs2⟩ := tiOk_kind hs
  obtain ⟨dd, hd1, hd2⟩ := tiOk_kind hd
  cases kind_int hd2
  have hk : P.intKind t = k := by simp [Program.intKind, hd1]
  have := run_convert_int (P := P) w src t k' n (by simp [hs1]) (by rw [hd1, hk])
  rw [hk] at this
  refine ⟨_, ?_, .int⟩
  simp only [execOp, h1.of_int, Sem.run_bind, Sem.run_pure, this, Result.andThen_ok]
theorem ByteRows.nums {xs : List (List V)} {l : Bs} (h : ByteRows xs l) : ∃ ns : List Int, xs = ns.map (fun n => [.int .u8 n]) ∧ l = ns.map fun n => UInt8.ofNat n.toNat := by
  induction h with
  | nil => exact ⟨[], rfl, rfl⟩
  | @cons n r l h ih => obtain ⟨ns, rfl, rfl⟩ := ih; exact ⟨n :: ns, rfl, rfl⟩
theorem convert_bytes_ok [Inhabited TabT] {src t el : TypeId} (x : Operand) {E : Nat} {z : Int} {zs : Bs} {ns : List Int} (hs : tiOkB P src (.slice el E) = true) (he : tiOkB P el (.word (.int .u8 z)) = true) (hd : tiOkB P t (.word (.str zs)) = true) (hx : e.rd x = .sl (ns.map fun n => [.int .u8 n])) : CalmOk P cx c ⟨dst, .convert src t x, ty, pos, af, gd⟩ e h (.str (ns.map fun n => UInt8.ofNat n.toNat)) none := by
  refine .of_val fun R ρ ac w hss hr => ?_
  have h1 := hr x (by simp [Op.operands])
  rw [hx] at h1
  obtain ⟨hs1, _⟩ := tiOk_slice hs
  obtain ⟨de, he1, he2⟩ := tiOk_kind he
  cases kind_int he2
  obtain ⟨dd, hd1, hd2⟩ := tiOk_kind hd
  cases kind_str hd2
  generalize hv : ac.eval x = y at h1
  generalize hrows : ns.map (fun n => [V.int .u8 n]) = rows at h1
  have goal : ∀ s : ByteArray, s.data.toList = ns.map (fun n => UInt8.ofNat n.toNat) → (convert src t y).run P w = .ok (.string s) w → ∃ x', (execOp ac.eval ⟨dst, .convert src t x, ty, pos, af, gd⟩).run P w = .ok (.value x') w ∧ Rep w R ρ (.str (ns.map fun n => UInt8.ofNat n.toNat)) x' := fun s h1 h2 => by
    refine ⟨.string s, ?_, ?_⟩
    · simp only [execOp, hv, Sem.run_bind, Sem.run_pure, h2, Result.andThen_ok]
    · rw [← h1]
      have := @Rep.str w R ρ s.data.toList
      simpa [S] using this
  cases h1 with
  | slnil =>
    rename_i a cc
    have : ns = [] := by cases ns <;> simp_all
    subst this
    exact goal ByteArray.empty rfl (run_convert_bytes_zero w src el hs1 he1 a cc t hd1)
  | sl f hn hc hm hR hE hf h1 h =>
    rename_i b o n cc EE
    subst hrows
    have hl : ns.length = n := by simpa using hn
    rcases Nat.eq_zero_or_pos n with h0 | h0
    · subst h0
      have : ns = [] := List.eq_nil_of_length_eq_zero hl
      subst this
      exact goal ByteArray.empty rfl (run_convert_bytes_zero w src el hs1 he1 _ cc t hd1)
    have hEE : EE = 1 := by
      cases ns with
      | nil => simp at hl; omega
      | cons m r => have := hE [.int .u8 m] (by simp); simpa using this.symm
    subst hEE
    refine goal (strOfNums ns) (strOfNums_data ns) (run_convert_bytes_arg w src el hs1 he1 b o n cc ns hl (fun i hi => ?_) t hd1)
    have hi' : i < ns.length := by omega
    have h2 := h i [.int .u8 ns[i]] 0 (.int .u8 ns[i]) (by simp [hi']) rfl
    rw [hf i (by omega)]
    have h3 := h2.of_int
    simp only [Nat.mul_one, Nat.add_zero] at h3
    rw [h3]
    simp [List.getD, hi']
theorem convert_own_ok [Inhabited TabT] {src t el el' : TypeId} (x : Operand) {E : Nat} {z : Int} {zs : Bs} {ns : List Int} (hs : tiOkB P src (.slice el E) = true) (he : tiOkB P el (.word (.int .u8 z)) = true) (hd : tiOkB P t (.word (.str zs)) = true) {k0 : Nat} (hx : e.rd x = .own k0) (hk : h k0 = some (.rows el' (ns.map fun n => [.int .u8 n]))) : CalmOk P cx c ⟨dst, .convert src t x, ty, pos, af, gd⟩ e h (.str (ns.map fun n => UInt8.ofNat n.toNat)) none := by
  refine .of_val fun R ρ ac w hss hr => ?_
  have h1 := hr x (by simp [Op.operands])
  rw [hx] at h1
  obtain ⟨hs1, _⟩ := tiOk_slice hs
  obtain ⟨de, he1, he2⟩ := tiOk_kind he
  cases kind_int he2
  obtain ⟨dd, hd1, hd2⟩ := tiOk_kind hd
  cases kind_str hd2
  generalize hv : ac.eval x = y at h1
  have goal : ∀ s : ByteArray, s.data.toList = ns.map (fun n => UInt8.ofNat n.toNat) → (convert src t y).run P w = .ok (.string s) w → ∃ x', (execOp ac.eval ⟨dst, .convert src t x, ty, pos, af, gd⟩).run P w = .ok (.value x') w ∧ Rep w R ρ (.str (ns.map fun n => UInt8.ofNat n.toNat)) x' := fun s h1 h2 => by
    refine ⟨.string s, ?_, ?_⟩
    · simp only [execOp, hv, Sem.run_bind, Sem.run_pure, h2, Result.andThen_ok]
    · rw [← h1]
      have := @Rep.str w R ρ s.data.toList
      simpa [S] using this
  cases h1 with
  | own hp =>
    obtain ⟨E', fl, ho⟩ := hss.brep k0 _ _ hp hk
    obtain ⟨ad, cp, rfl, q2, q3, q4⟩ := ho.flat
    rw [List.length_map] at *
    rcases Nat.eq_zero_or_pos ns.length with h0 | h0
    · have : ns = [] := List.eq_nil_of_length_eq_zero h0
      subst this
      exact goal ByteArray.empty rfl (run_convert_bytes_zero w src el hs1 he1 _ cp t hd1)
    have hEE : E' = 1 := by
      cases ns with
      | nil => simp at h0
      | cons m r => have := ho.len [.int .u8 m] (by simp); simpa using this.symm
    subst hEE
    rcases ho.owns.2 with ⟨hb, hz⟩ | ⟨_, hb, hz⟩ | ⟨g, cap, cur, fz, hb, hg, hnc, hcm, hcs, htake, hfz⟩
    · rw [List.length_map] at hz; omega
    · rw [List.length_map] at hz; omega
    simp at hb
    obtain ⟨rfl, rfl⟩ := hb
    refine goal (strOfNums ns) (strOfNums_data ns) (run_convert_bytes_arg w src el hs1 he1 g 0 ns.length _ ns rfl (fun i hi => ?_) t hd1)
    obtain ⟨a, ha, hcell⟩ := q4 h0
    cases ha
    have hfl : i < fl.length := by omega
    have h2 := hcell i fl[i] (List.getElem?_eq_getElem hfl)
    rw [add_none] at h2
    rw [h2]
    have h3 := ho.rep i [.int .u8 ns[i]] (by simp [hi])
    have h4 := h3.2 0 (.int .u8 ns[i]) fl[i] rfl (by rw [List.getElem?_take, if_pos (by omega), List.getElem?_drop]; simp [hfl])
    rw [h4.of_int]
    simp [List.getD, hi]
/-- bytes of a string -/
theorem bytesOut_size (w : World) (e : TypeId) (s : ByteArray) (hl : s.size ≤ maxLen) : s.size ≤ grownCap w s.size 0 e ∧ grownCap w s.size 0 e ≤ maxLen := ⟨grownCap_ge w s.size 0 e, grownCap_le_maxLen w s.size 0 e hl⟩
theorem convert_str_ok [Inhabited TabT] {src t el : TypeId} (x : Operand) {E : Nat} {z : Int} {zs l : Bs} (hs : tiOkB P src (.word (.str zs)) = true) (he : tiOkB P el (.word (.int .u8 z)) = true) (hd : tiOkB P t (.slice el E) = true) (hx : e.rd x = .str l) (hl : l.length ≤ maxLen) :
    CalmOk P cx c ⟨dst, .convert src t x, ty, pos, af, gd⟩ e h (.own c) (some (.rows el (l.map encB))) := by
  intro R ρ ac w hss hr hc0
  have hc := hc0 (by simp)
  have h1 := hr x (by simp [Op.operands])
  rw [hx] at h1
  obtain ⟨ds, hs1, hs2⟩ := tiOk_kind hs
  cases kind_str hs2
  obtain ⟨hd1, hE, ii, zz, hi, hsize, hby, hz, hzs⟩ := tiOk_slice hd
  have hinfo' : RowInfo P el E := ⟨hE, ii, zz, hi, hsize, hby, hz, hzs⟩
  obtain ⟨de, he1, he2⟩ := tiOk_kind he
  cases kind_int he2
  obtain ⟨d, i', z', hdd, hi', hag, hsz', hz', hone, hrep⟩ := tiOk_any he
  have hE1 : E = 1 := by rw [hi] at hi'; cases hi'; rw [← hsize, hsz']; rfl
  subst hE1
  generalize hb : (⟨l.toArray⟩ : ByteArray) = s at *
  have hsl : s.size = l.length := by subst hb; rfl
  have hdat : s.data.toList = l := by subst hb; rfl
  have hrun' : (execOp ac.eval ⟨dst, .convert src t x, ty, pos, af, gd⟩).run P w = .ok (.value (.slice (some ⟨w.heap.size, 0, none⟩) s.size (grownCap w s.size 0 el))) (Lib.bytesWorld w el s) := by
    have := Lib.run_convert_string_bytes (P := P) w src t el s hs1 hd1 he1
    have h1' : ac.eval x = .string s := by have := h1.of_str; rw [this]; simp only [S, hb]
    simp only [execOp, h1', Sem.run_bind, Sem.run_pure, this, Result.andThen_ok]
  rw [hrun']
  obtain ⟨hcap1, hcap2⟩ := bytesOut_size w el s (by omega)
  have hcsz : (Lib.bytesCells w el s).size = grownCap w s.size 0 el := by
    simp [Lib.bytesCells]
    have : s.data.size = s.size := rfl
    omega
  have hnew := Lib.bytesWorld_at_new w el s
  have hown : Owns (Lib.bytesWorld w el s) el 1 (.slice (some ⟨w.heap.size, 0, none⟩) s.size (grownCap w s.size 0 el)) l.length (l.map fun b => .int .u8 (b.toNat : Int)) := by
    refine ⟨by simp, ?_⟩
    rcases hcc : grownCap w s.size 0 el with _ | cap
    · rw [hcc] at hcap1
      have h0 : s.size = 0 := by omega
      rw [h0]
      exact .inr (.inl ⟨_, rfl, by omega⟩)
    · refine .inr (.inr ⟨w.heap.size, cap, _, _, by rw [hsl], hnew, by omega, by omega, by rw [hcsz, hcc]; simp, ?_, .inr ⟨Nat.le_refl _, rfl⟩⟩)
      simp only [Lib.bytesCells, Array.toList_append, Array.toList_map, hdat, Nat.mul_one]
      rw [List.take_append_of_le_length (by simp)]
      exact List.take_of_length_le (by simp)
  refine ⟨R, ρ.set c (.hdr (.slice (some ⟨w.heap.size, 0, none⟩) s.size (grownCap w s.size 0 el))), rfl, rfl, rfl, by rw [Lib.bytesWorld_size]; omega, fun n hn => Lib.bytesWorld_at_old w el s n hn, fun _ h => h, fun _ h => .inl h, .inr ⟨_, .hdr _, rfl, by simp, hc, rfl, fun n hn => ?_, 1, l.map fun b => .int .u8 (b.toNat : Int), ⟨by simpa using hown, hinfo', fun row hrow => ?_, fun q hq => ?_, fun i row hir => ?_⟩⟩, .own (by simp [Rho.set]) rfl⟩
  · have := room_own hn
    simp [Value.ownBlock] at this
    subst this
    exact ⟨Nat.le_refl _, by rw [Lib.bytesWorld_size]; omega, fun hr => by have := hss.rlt _ hr; omega⟩
  · obtain ⟨b, _, rfl⟩ := List.mem_map.1 hrow; rfl
  · obtain ⟨b, _, rfl⟩ := List.mem_map.1 hq; rfl
  · rw [List.getElem?_map] at hir
    rcases hq : l[i]? with _ | b
    · rw [hq] at hir; cases hir
    rw [hq] at hir; cases hir
    have hlt := (List.getElem?_eq_some_iff.1 hq).1
    have e1 : (List.take 1 (List.drop (i * 1) (l.map fun b => (Value.int .u8 (b.toNat : Int))))) = [.int .u8 (b.toNat : Int)] := by
      rw [Nat.mul_one, List.drop_eq_getElem_cons (by simpa using hlt)]
      have := (List.getElem?_eq_some_iff.1 hq).2
      simp [this]
    rw [e1]
    exact Reps.cons .int .nil
/-! ### make -/
theorem made_row {z : Array Value} {E : Nat} (hz : z.size = E) (hE : 0 < E) (n i : Nat) (hi : i < n) : (((madeCells z (n * E)).toList.drop (i * E)).take E) = z.toList := by
  have hin := row_at (E := E) hi
  apply List.ext_getElem?
  intro j
  rw [List.getElem?_take]
  split
  · rename_i hj
    have hlt : i * E + j < n * E := by omega
    rw [List.getElem?_drop]
    simp only [madeCells, Array.toList_map, Array.toList_range, List.getElem?_map]
    rw [List.getElem?_range hlt]
    have : (i * E + j) % z.size = j := by rw [hz, Nat.add_comm, Nat.add_mul_mod_self_right, Nat.mod_eq_of_lt hj]
    simp only [Option.map_some, this]
    have hjz : j < z.size := by omega
    simp [hjz]
  · rw [List.getElem?_eq_none (by simp; omega)]
theorem makeSlice_ok [Inhabited TabT] {t el : TypeId} {E : Nat} {ti : TI} (ht : tiOkB P t (.slice el E) = true) (hti : tiOkB P el ti = true) (hE' : ti.cells = E) (x y : Operand) {k1 k2 : IntKind} {n : Int} (hx : e.rd x = .int k1 n) (hy : e.rd y = .int k2 n) (h0 : 0 ≤ n) (hsz : n * 1024 ≤ 140737488355328) :
    CalmOk P cx c ⟨dst, .makeSlice t x y, ty, pos, af, gd⟩ e h (.own c) (some (.rows el (List.replicate n.toNat ti.zero.cells))) := by
  intro R ρ ac w hs hr hc0
  have hc := hc0 (by simp)
  obtain ⟨hu, hinfo⟩ := tiOk_slice ht
  obtain ⟨hE, ii, z, hi, hsize, hby, hz, hzs⟩ := hinfo
  have hinfo' : RowInfo P el E := ⟨hE, ii, z, hi, hsize, hby, hz, hzs⟩
  obtain ⟨d, i', z', hd, hi', hag, hsz', hz', hone, hrep⟩ := tiOk_any hti
  rw [hi] at hi'; cases hi'
  rw [hz] at hz'; cases hz'
  obtain ⟨r1, r2⟩ := hrep w R rho0
  obtain ⟨c1, c2⟩ := r1.cells r2
  have g1 := (hr x (by simp [Op.operands])); rw [hx] at g1
  have g2 := (hr y (by simp [Op.operands])); rw [hy] at g2
  obtain ⟨m, rfl⟩ := Int.eq_ofNat_of_zero_le h0
  obtain ⟨w', hrun, hown, hgr⟩ := run_make_full (P := P) w 0 t el ii z E hu hi hz hsize k1 k2 m (by
    have : ii.bytes * m ≤ 1024 * m := Nat.mul_le_mul_right _ hby
    omega) (by unfold maxLen; omega) (Nat.zero_le _)
  have hrun' : (execOp ac.eval ⟨dst, .makeSlice t x y, ty, pos, af, gd⟩).run P w = .ok (.value (.slice (some ⟨w.heap.size, 0, none⟩) m m)) w' := by
    simp only [execOp, g1.of_int, g2.of_int, Sem.run_bind, Sem.run_pure]
    rw [hrun]
    rfl
  rw [hrun']
  have hold : ∀ n, n < w.heap.size → w'.heap[n]? = w.heap[n]? := fun n hn => hgr.block n hn (by simp)
  have hnew : m ≠ 0 → w.heap.size < w'.heap.size := fun hm => by
    rcases hown.2 with ⟨hb, _⟩ | ⟨g, cap, cur, hb, _, hg, _⟩
    · cases hb
    · simp at hb
      obtain ⟨rfl, _⟩ := hb
      exact (Array.getElem?_eq_some_iff.1 hg).1
  refine ⟨R, ρ.set c (.hdr (.slice (some ⟨w.heap.size, 0, none⟩) m m)), hgr.os, hgr.tape, hgr.output, hgr.size, hold, fun _ h => h, fun _ h => .inl h, .inr ⟨_, .hdr (.slice (some ⟨w.heap.size, 0, none⟩) m m), rfl, by simp, hc, rfl, fun n hn => ?_, E, (madeCells z.cells (m * E)).toList, ⟨by simpa using Owns.of hown, hinfo', fun row hrow => ?_, fun q hq => ?_, fun i row hir => ?_⟩⟩, .own (by simp [Rho.set]) rfl⟩
  · have hm : m ≠ 0 := fun e0 => by subst e0; simp [RObj.own, roomOf] at hn
    have := room_own hn
    simp [Value.ownBlock] at this
    subst this
    exact ⟨Nat.le_refl _, hnew hm, fun hr => by have := hs.rlt _ hr; omega⟩
  · rw [List.eq_of_mem_replicate hrow, c1.1]
    simp [hzs]
  · simp only [madeCells, Array.toList_map, Array.toList_range, List.mem_map, List.mem_range] at hq
    obtain ⟨j, hj, rfl⟩ := hq
    have hjl : j % z.cells.size < z.cells.size := Nat.mod_lt _ (by omega)
    simp only [Array.getElem!_eq_getD, Array.getD, hjl, dif_pos]
    exact c2 _ (by simp)
  · rw [List.getElem?_replicate] at hir
    split at hir
    · rename_i h3
      cases hir
      rw [made_row hzs hE m i (by simpa using h3)]
      exact c1.ext ⟨fun _ h => h, fun b hb => hold b (hs.rlt b hb), fun _ _ h => h⟩
    · cases hir
end
end Go.Proofs.YthchmjdgepbjpaaDoor

-- tabvar