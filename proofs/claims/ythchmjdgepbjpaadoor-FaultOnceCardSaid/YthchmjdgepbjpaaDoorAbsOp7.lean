/-
  Each operation of AbsDef's walk does to the world what the walk says: parts of lists and texts, lengths, least and greatest, a store into a row. No conditions.
-/
import Derived.Test.YthchmjdgepbjpaaDoorAbsOp6
import Derived.Laws.PanicsMore
namespace Go.Proofs.YthchmjdgepbjpaaDoor
open Go.RowKit
set_option linter.unusedSimpArgs false
set_option linter.unusedVariables false

section
variable {P : Program} {cx : Cx} {h h' : Hp} {w w' : World} {R : Nat → Prop} {ρ : Rho} {c : Nat} {v : V} {x : Value} {e : Env} {T : Tab}
variable {dst : Option Tmp} {ty : TypeId} {pos : String} {af : Array Edge} {gd : Option (Nat × Bool)}

theorem len_ok [Inhabited TabT] (hT : TabOk P T) {t : TypeId} (x : Operand) {K : V → List Nat → Prop} (hk : lenK (T t) (e.rd x) h K) :
    ∃ (n : Nat) (ks : List Nat), K (.int .i64 n) ks ∧ ∀ h1 : Hp, (∀ k ∈ ks, h1 k = h k) → OpOk P cx ⟨dst, .call { callee := .builtin .len, args := #[x], argTypes := #[t] }, ty, pos, af, gd⟩ e h1 (.int .i64 n) [] := by
  have fin : ∀ (h1 : Hp) (n : Nat), (∀ R ρ w y, St P cx h1 w R ρ → Rep w R ρ (e.rd x) y → (Builtin.len_ #[t] ty #[y]).run P w = .ok (.int .i64 n) w) → OpOk P cx ⟨dst, .call { callee := .builtin .len, args := #[x], argTypes := #[t] }, ty, pos, af, gd⟩ e h1 (.int .i64 n) [] := fun h1 n hn =>
    CalmOk.ok0 (c := 0) (.of_val fun R ρ ac w hs hr => ⟨_, by simp [execOp, resolve, invoke, builtin, hn R ρ w _ hs (hr x (by simp [Op.operands, Call.operands]))], .int⟩)
  unfold lenK at hk
  generalize hx : e.rd x = v at hk fin
  split at hk
  · rename_i z hti
    have hu := tiOk_str (hT t _ hti)
    split at hk
    · rename_i l
      refine ⟨l.length, [], hk, fun h1 _ => fin _ _ fun R ρ w y hs hr => ?_⟩
      rw [hr.of_str]
      simp [Builtin.len_, run_underlying hu, goInt]
      rfl
    · exact hk.elim
  · rename_i el E hti
    have hu := (tiOk_slice (hT t _ hti)).1
    have run : ∀ (w : World) (a : Option Addr) (n cap : Nat), (Builtin.len_ #[t] ty #[.slice a n cap]).run P w = .ok (.int .i64 n) w := fun w a n cap => by simp [Builtin.len_, run_underlying hu, goInt]
    split at hk
    · rename_i xs
      refine ⟨xs.length, [], hk, fun h1 _ => fin _ _ fun R ρ w y hs hr => ?_⟩
      cases hr with
      | slnil => exact run _ _ _ _
      | sl f hn hc hm hR hE hf h1 hrep => subst hn; exact run _ _ _ _
    · exact ⟨0, [], hk, fun h1 _ => fin _ _ fun R ρ w y hs hr => by rw [hr.of_nils]; exact run _ _ _ _⟩
    · rename_i a
      split at hk
      · rename_i el' xs hb
        refine ⟨xs.length, [a], hk, fun h1 hag => fin _ _ fun R ρ w y hs hr => ?_⟩
        have hb' := (hag a (by simp)).trans hb
        cases hr with
        | own hp =>
          obtain ⟨E', fl, ho⟩ := hs.brep a _ _ hp hb'
          rcases ho.owns.2 with ⟨rfl, h0⟩ | ⟨_, rfl, h0⟩ | ⟨g, cap, cur, fz, rfl, _, hnc, hcm, _⟩
          · rw [h0]; exact run _ _ _ _
          · rw [h0]; exact run _ _ _ _
          · exact run _ _ _ _
      · exact hk.elim
    · exact hk.elim
  · exact hk.elim
theorem boundsK_spec {lo hi : Option Operand} {n : Nat} {k : Nat → Nat → Prop} (hk : boundsK e lo hi n k) : ∃ a b : Nat, a ≤ b ∧ b ≤ n ∧ k a b ∧ ∀ (ac : Act) (w : World) R ρ (isS : Bool) (cap : Nat), n ≤ cap → (∀ x, lo = some x ∨ hi = some x → Rep w R ρ (e.rd x) (ac.eval x)) →
    (Instr.sliceBounds isS n cap (lo.map ac.eval) (hi.map ac.eval) none).run P w = .ok (a, b, cap) w := by
  cases lo with
  | none =>
    cases hi with
    | none => exact ⟨0, n, Nat.zero_le _, Nat.le_refl _, hk, fun ac w R ρ isS cap hc hr => by simp [Instr.sliceBounds]⟩
    | some y =>
      simp only [boundsK] at hk
      generalize hy : e.rd y = vy at hk
      cases vy with
      | int kk b =>
        obtain ⟨⟨h0, h1⟩, hk⟩ := hk
        refine ⟨0, b.toNat, Nat.zero_le _, by omega, hk, fun ac w R ρ isS cap hc hr => ?_⟩
        have := hr y (.inr rfl)
        rw [hy] at this
        simp [Instr.sliceBounds, this.of_int, run_sliceBound, h0, show b ≤ (cap : Int) by omega]
      | _ => exact hk.elim
  | some x =>
    cases hi with
    | none =>
      simp only [boundsK] at hk
      generalize hx : e.rd x = vx at hk
      cases vx with
      | int kk a =>
        obtain ⟨⟨h0, h1⟩, hk⟩ := hk
        refine ⟨a.toNat, n, by omega, Nat.le_refl _, hk, fun ac w R ρ isS cap hc hr => ?_⟩
        have := hr x (.inl rfl)
        rw [hx] at this
        simp [Instr.sliceBounds, this.of_int, run_sliceBound, h0, h1]
      | _ => exact hk.elim
    | some y =>
      simp only [boundsK] at hk
      generalize hx : e.rd x = vx at hk
      generalize hy : e.rd y = vy at hk
      cases vx with
      | int kk a =>
        cases vy with
        | int kk' b =>
          obtain ⟨⟨h0, h1, h2⟩, hk⟩ := hk
          refine ⟨a.toNat, b.toNat, by omega, by omega, hk, fun ac w R ρ isS cap hc hr => ?_⟩
          have g1 := hr x (.inl rfl)
          have g2 := hr y (.inr rfl)
          rw [hx] at g1
          rw [hy] at g2
          simp [Instr.sliceBounds, g1.of_int, g2.of_int, run_sliceBound, h0, show b ≤ (cap : Int) by omega, show 0 ≤ b by omega, show a ≤ b by omega, show (b.toNat : Int) = b by omega]
        | _ => exact hk.elim
      | _ => exact hk.elim
theorem slice_str_ok [Inhabited TabT] {t : TypeId} {z : Bs} (ht : tiOkB P t (.word (.str z)) = true) (x : Operand) (lo hi : Option Operand) {l : Bs} (hx : e.rd x = .str l) {k : Nat → Nat → Prop} (hk : boundsK e lo hi l.length k) :
    ∃ a b, k a b ∧ ∀ h, CalmOk P cx c ⟨dst, .slice t x lo hi none, ty, pos, af, gd⟩ e h (.str ((l.take b).drop a)) none := by
  obtain ⟨a, b, h1, h2, hk, hrun⟩ := boundsK_spec (P := P) hk
  refine ⟨a, b, hk, fun h => .of_val fun R ρ ac w hs hr => ?_⟩
  have hu := tiOk_str ht
  have g1 := hr x (by simp [Op.operands])
  rw [hx] at g1
  have hb := hrun ac w R ρ false l.length (Nat.le_refl _) (fun y hy => hr y (by rcases hy with rfl | rfl <;> simp [Op.operands]))
  have hsz : (⟨l.toArray⟩ : ByteArray).size = l.length := by simp [ByteArray.size]
  refine ⟨S ((l.take b).drop a), ?_, .str⟩
  have he : (⟨l.toArray⟩ : ByteArray).extract a b = ⟨((l.take b).drop a).toArray⟩ := by
    apply ByteArray.ext
    apply Array.ext'
    simp [ByteArray.data_extract, List.extract_eq_take_drop, List.drop_take]
  simp only [execOp, Instr.sliceAt, Sem.run_bind, run_underlying hu, Result.andThen_ok, g1.of_str, Instr.slice, Option.map_none, Option.isSome_none, Bool.false_eq_true, if_false, hsz, hb, Sem.run_pure]
  rw [he]
theorem Rep.part {xs : List (List V)} {y : Value} (hr : Rep w R ρ (.sl xs) y) {E : Nat} (hE : ∀ r ∈ xs, r.length = E) : True := trivial
theorem slice_sl_ok [Inhabited TabT] {t el : TypeId} {E : Nat} (ht : tiOkB P t (.slice el E) = true) (x : Operand) (lo hi : Option Operand) {xs : List (List V)} (hx : e.rd x = .sl xs) {k : Nat → Nat → Prop} (hl : ∀ r ∈ xs, r.length = E) (hk : boundsK e lo hi xs.length k) :
    ∃ a b, k a b ∧ ∀ h, CalmOk P cx c ⟨dst, .slice t x lo hi none, ty, pos, af, gd⟩ e h (.sl ((xs.take b).drop a)) none := by
  obtain ⟨a, b, h1, h2, hk, hrun⟩ := boundsK_spec (P := P) hk
  refine ⟨a, b, hk, fun h => .of_val fun R ρ ac w hs hr => ?_⟩
  obtain ⟨hu, hpos, ii, z, hinfo, rfl, _⟩ := tiOk_slice ht
  have g1 := hr x (by simp [Op.operands])
  rw [hx] at g1
  have hlen : ((xs.take b).drop a).length = b - a := by simp; omega
  generalize hy : ac.eval x = y at g1
  have run : ∀ (ad : Option Addr) (cap : Nat), y = .slice ad xs.length cap → xs.length ≤ cap → (execOp ac.eval ⟨dst, .slice t x lo hi none, ty, pos, af, gd⟩).run P w = .ok (.value (.slice (if cap = a then ad else ad.map (·.add (a * ii.size))) (b - a) (cap - a))) w := fun ad cap hyy hc => by
    have hb := hrun ac w R ρ true cap hc (fun y hy => hr y (by rcases hy with rfl | rfl <;> simp [Op.operands]))
    simp only [execOp, Instr.sliceAt, Sem.run_bind, run_underlying hu, Result.andThen_ok, hy, hyy, Instr.slice, Option.map_none, hb, run_sizeOf hinfo, Sem.run_pure]
  cases g1 with
  | slnil =>
    simp at h2
    subst h2
    have ha : a = 0 := by omega
    subst ha
    refine ⟨_, run _ _ rfl (Nat.zero_le _), ?_⟩
    simpa using Rep.slnil
  | sl f hn hc hm hR hEE hf h1' hrep =>
    rename_i bb o n cap E'
    subst hn
    refine ⟨_, run _ _ rfl hc, ?_⟩
    by_cases hab : a = b
    · subst hab
      have : (xs.take a).drop a = [] := List.eq_nil_of_length_eq_zero (by omega)
      rw [this, Nat.sub_self]
      exact .slnil
    · have hne : xs ≠ [] := fun hh => by subst hh; simp at h2; omega
      obtain rfl : E' = ii.size := by
        obtain ⟨r, hr⟩ := List.exists_mem_of_ne_nil xs hne
        rw [← hEE r hr, hl r hr]
      rw [if_neg (by omega)]
      simp only [Option.map_some, add_none]
      have hmul : ∀ j, j < (b - a) * ii.size → a * ii.size + j < xs.length * ii.size := fun j hj => by
        have : (a + (b - a)) * ii.size ≤ xs.length * ii.size := Nat.mul_le_mul_right _ (by omega)
        rw [Nat.add_mul] at this
        omega
      refine .sl (E := ii.size) (fun j => f (a * ii.size + j)) hlen (by omega) (by omega) hR ?_ ?_ ?_ ?_
      · intro row hrow; exact hEE row (List.mem_of_mem_take (List.mem_of_mem_drop hrow))
      · intro j hj; rw [Nat.add_assoc]; exact hf _ (hmul j hj)
      · intro j hj; exact h1' _ (hmul j hj)
      · intro i row j v hi hj
        rw [List.getElem?_drop, List.getElem?_take] at hi
        split at hi
        · have := hrep _ row j v hi hj
          rw [Nat.add_mul, Nat.add_assoc] at this
          exact this
        · cases hi
theorem chunkK_spec : ∀ {n : Nat} {l : List V} {k : List (List V) → Prop}, chunkK n l k → l.length = n ∧ k (l.map fun v => [v])
  | 0, [], _, h => ⟨rfl, h⟩
  | n + 1, x :: r, k, h => by
    obtain ⟨h1, h2⟩ := chunkK_spec (n := n) (l := r) (k := fun s => k ([x] :: s)) h
    exact ⟨by simp [h1], h2⟩
  | n + 1, [], _, h => h.elim
  | 0, _ :: _, _, h => h.elim
theorem rowsOfK_spec {m off : Nat} {row : List V} {k : List (List V) → Prop} (h : rowsOfK m off row k) : off + m ≤ row.length ∧ k (((row.drop off).take m).map fun v => [v]) := by
  unfold rowsOfK at h
  obtain ⟨h1, h⟩ := dropK_spec _ _ _ h
  obtain ⟨h2, h⟩ := takeK_spec _ _ _ h
  obtain ⟨h3, h⟩ := chunkK_spec h
  rw [List.length_drop] at h2
  exact ⟨by omega, h⟩
theorem hiK_spec {hi : Option Operand} {m : Nat} {k : Nat → Prop} (hk : hiK e hi m k) : ∃ b : Nat, b ≤ m ∧ k b ∧ ∀ (ac : Act) (w : World) R ρ (isS : Bool) (cap : Nat), m ≤ cap → (∀ x, none = some x ∨ hi = some x → Rep w R ρ (e.rd x) (ac.eval x)) →
    (Instr.sliceBounds isS m cap none (hi.map ac.eval) none).run P w = .ok (0, b, cap) w := by
  have hb : boundsK e none hi m fun a b => a = 0 ∧ k b := by
    cases hi with
    | none => exact ⟨rfl, hk⟩
    | some y =>
      simp only [hiK] at hk
      simp only [boundsK]
      generalize e.rd y = vy at hk ⊢
      cases vy with
      | int kk b => exact ⟨hk.1, trivial, hk.2⟩
      | _ => exact hk.elim
  obtain ⟨a, b, h1, h2, ⟨rfl, hk⟩, h4⟩ := boundsK_spec (P := P) hb
  exact ⟨b, h2, hk, h4⟩
theorem Rep.elt_sl {row : List V} {b o : Nat} {n m : Nat} (hn : row.length = n) (hnm : n ≤ m) (hm : m ≤ 4096) (f : Nat → Value) (hR : R b) (hf : ∀ j, j < row.length → w.cell? ⟨b, o + j, none⟩ = some (f j)) (h1 : ∀ j, j < row.length → Value.oneCell' (f j) = true)
    (h : ∀ (j : Nat) (v : V), row[j]? = some v → Rep w R rho0 v (f j)) : Rep w R ρ (.sl (row.map fun v => [v])) (.slice (some ⟨b, o, none⟩) n m) := by
  refine .sl (E := 1) f (by simp [hn]) hnm (by simp only [maxLen]; omega) hR ?_ ?_ ?_ ?_
  · intro r hr; obtain ⟨v, _, rfl⟩ := List.mem_map.1 hr; rfl
  · intro j hj; exact hf j (by omega)
  · intro j hj; exact h1 j (by omega)
  · intro i r j v hi hj
    rw [List.getElem?_map] at hi
    cases hv : row[i]? with
    | none => rw [hv] at hi; cases hi
    | some u =>
      rw [hv] at hi
      cases hi
      cases j with
      | zero => cases hj; simpa using h i _ hv
      | succ j => simp at hj
/-- part of an array's cells as a list -/
theorem Rep.elt_part {row : List V} {b o off n c : Nat} (hl : off + n ≤ row.length) (hc : c ≤ n) (hm : n ≤ 4096) (f : Nat → Value) (hR : R b) (hf : ∀ j, j < row.length → w.cell? ⟨b, o + j, none⟩ = some (f j)) (h1 : ∀ j, j < row.length → Value.oneCell' (f j) = true)
    (h : ∀ (j : Nat) (v : V), row[j]? = some v → Rep w R rho0 v (f j)) : Rep w R ρ (.sl ((((row.drop off).take n).map fun v => [v]).take c)) (.slice (some ⟨b, o + off, none⟩) c n) := by
  rw [← List.map_take]
  have hlen : ((((row.drop off).take n).take c)).length = c := by simp; omega
  refine Rep.elt_sl hlen hc hm (fun j => f (off + j)) hR (fun j hj => ?_) (fun j hj => h1 _ (by omega)) (fun j v hj => h _ v ?_)
  · rw [Nat.add_assoc]; exact hf (off + j) (by omega)
  · rw [List.getElem?_take] at hj
    split at hj
    · rw [List.getElem?_take] at hj
      split at hj
      · rw [List.getElem?_drop] at hj; exact hj
      · cases hj
    · cases hj
theorem slice_arr_ok [Inhabited TabT] {t el : TypeId} {n E : Nat} {zs : List V} (ht : tiOkB P t (.array n el E zs) = true) (hn : n ≤ 4096) (x : Operand) (hi : Option Operand) {row : List V} {off b : Nat} (hl : off + n ≤ row.length) (hb : b ≤ n)
    (hrun : ∀ (ac : Act) (w : World) R ρ (isS : Bool) (cap : Nat), n ≤ cap → (∀ x, none = some x ∨ hi = some x → Rep w R ρ (e.rd x) (ac.eval x)) → (Instr.sliceBounds isS n cap none (hi.map ac.eval) none).run P w = .ok (0, b, cap) w)
    (hx : e.rd x = .elt row off ∨ ∃ a, e.rd x = .ptr a off ∧ h a = some (.rd (.elt row 0))) :
    CalmOk P cx c ⟨dst, .slice t x none hi none, ty, pos, af, gd⟩ e h (.sl ((((row.drop off).take n).map fun v => [v]).take b)) none := by
  refine .of_val fun R ρ ac w hs hr => ?_
  obtain ⟨rfl, hz, hu, ie, d, hinfo, hsz, _⟩ := tiOk_array ht
  have h1 := hr x (by simp [Op.operands])
  have hb2 := hrun ac w R ρ false n (Nat.le_refl _) (fun y hy => hr y (by rcases hy with hy | rfl <;> first | (cases hy; done) | simp [Op.operands]))
  have run : ∀ (g o : Nat), ac.eval x = .pointer (some ⟨g, o, none⟩) → (execOp ac.eval ⟨dst, .slice t x none hi none, ty, pos, af, gd⟩).run P w = .ok (.value (.slice (some ⟨g, o, none⟩) b n)) w := fun g o he => by
    simp only [execOp, Instr.sliceAt, Sem.run_bind, run_underlying hu, Result.andThen_ok, Instr.sureAddr, he, Sem.run_pure, Option.map_none, hb2, run_sizeOf hinfo]
    simp [add_none]
  generalize he : ac.eval x = u at h1
  rcases hx with hx | ⟨a, hx, hk⟩
  · rw [hx] at h1
    cases h1 with
    | elt f hR hf ho hrr => exact ⟨_, run _ _ he, Rep.elt_part hl hb hn f hR hf ho hrr⟩
  · rw [hx] at h1
    cases h1 with
    | ptr hp =>
      rename_i g
      obtain ⟨cs', hcs, hrd⟩ := hs.brep a _ _ hp hk
      cases hcs
      generalize hgb : (Value.pointer (some ⟨g, 0, none⟩)) = z at hrd
      cases hrd with
      | elt f hR hf ho hrr =>
        rename_i b' o'
        simp at hgb
        obtain ⟨rfl, rfl⟩ := hgb
        have := Rep.elt_part (w := w) (R := R) (ρ := ρ) (o := 0) hl hb hn f hR hf ho hrr
        simp only [Nat.zero_add] at this
        exact ⟨_, run _ _ he, this⟩
theorem slice_nils_ok [Inhabited TabT] {t el : TypeId} {E : Nat} (ht : tiOkB P t (.slice el E) = true) (x : Operand) (lo hi : Option Operand) (hx : e.rd x = .nils) {k : Nat → Nat → Prop} (hk : boundsK e lo hi 0 k) :
    ∃ a b, k a b ∧ ∀ h, CalmOk P cx c ⟨dst, .slice t x lo hi none, ty, pos, af, gd⟩ e h .nils none := by
  obtain ⟨a, b, h1, h2, hk, hrun⟩ := boundsK_spec (P := P) hk
  refine ⟨a, b, hk, fun h => .of_val fun R ρ ac w hs hr => ?_⟩
  obtain ⟨hu, hpos, ii, z, hinfo, rfl, _⟩ := tiOk_slice ht
  have g1 := hr x (by simp [Op.operands])
  rw [hx] at g1
  have hb := hrun ac w R ρ true 0 (Nat.le_refl _) (fun y hy => hr y (by rcases hy with rfl | rfl <;> simp [Op.operands]))
  obtain rfl : b = 0 := by omega
  obtain rfl : a = 0 := by omega
  refine ⟨.slice none 0 0, ?_, .nils⟩
  simp only [execOp, Instr.sliceAt, Sem.run_bind, run_underlying hu, Result.andThen_ok, g1.of_nils, Instr.slice, Option.map_none, hb, run_sizeOf hinfo, Sem.run_pure]
  rfl
/-- s[:0:0]: an empty list of one's own -/
theorem run_slice0 {t el : TypeId} {ii : TypeInfo} (hu : P.underlying t = some (.slice el)) (hinfo : P.info? el = some ii) (ac : Act) (x y z : Operand) {ad : Option Addr} {n cap : Nat} {k1 k2 : IntKind} (hx : ac.eval x = .slice ad n cap) (hy : ac.eval y = .int k1 0) (hz : ac.eval z = .int k2 0) (w : World) :
    (execOp ac.eval ⟨dst, .slice t x none (some y) (some z), ty, pos, af, gd⟩).run P w = .ok (.value (.slice ad 0 0)) w := by
  simp [execOp, Instr.sliceAt, Instr.slice, Instr.sliceBounds, run_underlying hu, hx, hy, hz, run_sliceBound, run_sizeOf hinfo]
theorem slice0_ok [Inhabited TabT] {t el : TypeId} {E : Nat} (ht : tiOkB P t (.slice el E) = true) (x y z : Operand) {xs : List (List V)} {k1 k2 : IntKind} (hx : e.rd x = .sl xs) (hy : e.rd y = .int k1 0) (hz : e.rd z = .int k2 0) :
    CalmOk P cx c ⟨dst, .slice t x none (some y) (some z), ty, pos, af, gd⟩ e h (.own c) (some (.rows el [])) := by
  intro R ρ ac w hs hr hc0
  have hc := hc0 (by simp)
  obtain ⟨hu, hinfo0⟩ := tiOk_slice ht
  obtain ⟨hE, ii, zz, hi, hsize, hby, hzz, hzs⟩ := hinfo0
  have g1 := hr x (by simp [Op.operands])
  rw [hx] at g1
  have g2 := hr y (by simp [Op.operands])
  rw [hy] at g2
  have g3 := hr z (by simp [Op.operands])
  rw [hz] at g3
  obtain ⟨ad, n, cap, hv⟩ : ∃ ad n cap, ac.eval x = .slice ad n cap := by
    generalize ac.eval x = u at g1
    cases g1 with
    | slnil => exact ⟨_, _, _, rfl⟩
    | sl => exact ⟨_, _, _, rfl⟩
  rw [run_slice0 hu hi ac x y z hv g2.of_int g3.of_int w]
  refine ⟨R, ρ.set c (.hdr (.slice ad 0 0)), rfl, rfl, rfl, Nat.le_refl _, fun _ _ => rfl, fun _ h => h, fun _ h => .inl h, .inr ⟨_, .hdr (.slice ad 0 0), rfl, by simp, hc, rfl, fun n hn => ?_, E, [], ⟨⟨by simp, ?_⟩, ⟨hE, ii, zz, hi, hsize, hby, hzz, hzs⟩, by simp, by simp, by simp⟩⟩, .own (by simp [Rho.set]) rfl⟩
  · cases ad <;> simp [RObj.own, roomOf] at hn
  · cases ad with
    | none => exact .inl ⟨rfl, rfl⟩
    | some a => exact .inr (.inl ⟨_, rfl, rfl⟩)
theorem slice0_nils_ok [Inhabited TabT] {t el : TypeId} {E : Nat} (ht : tiOkB P t (.slice el E) = true) (x y z : Operand) {k1 k2 : IntKind} (hx : e.rd x = .nils) (hy : e.rd y = .int k1 0) (hz : e.rd z = .int k2 0) :
    CalmOk P cx c ⟨dst, .slice t x none (some y) (some z), ty, pos, af, gd⟩ e h .nils none := by
  refine .of_val fun R ρ ac w hs hr => ?_
  obtain ⟨hu, hinfo0⟩ := tiOk_slice ht
  obtain ⟨hE, ii, zz, hi, hsize, hby, hzz, hzs⟩ := hinfo0
  have g1 := hr x (by simp [Op.operands])
  rw [hx] at g1
  have g2 := hr y (by simp [Op.operands])
  rw [hy] at g2
  have g3 := hr z (by simp [Op.operands])
  rw [hz] at g3
  exact ⟨_, run_slice0 hu hi ac x y z g1.of_nils g2.of_int g3.of_int w, .nils⟩

end
end Go.Proofs.YthchmjdgepbjpaaDoor

-- tabvar