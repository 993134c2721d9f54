/-
  Errors: what errors.As, errors.Is and the functions of fault do to numbers and faults; the functions of reflectlite that they call. No conditions.
-/
import Derived.Test.YthchmjdgepbjpaaDoorAbsSeat
namespace Go.Proofs.YthchmjdgepbjpaaDoor
open Go.RowKit
set_option linter.unusedSimpArgs false
set_option linter.unusedVariables false

open Go.Extern.Stop Go.Stop Go.Extern
abbrev H (t : Nat) : Value := .pointer (some ⟨4, t, none⟩)
/-- a number as an error; wrapped -/
def errV : List Bs → Int → V
  | [], c => .ifc 24 (.int .i64 c)
  | w :: ws, c => .ifc 39 (.elt [.str w, errV ws c] 0)
abbrev noErr : V := .val .nilIface
theorem extern_fn [Inhabited TabT] {P : Program} {f : FuncId} {fn : Func} {e : Array Value → Sem Value} (hf : P.funcs[f]? = some fn) (hname : (fn.name == "runtime.NumGoroutine") = false) (hb : fn.body.isNone = true) (hn : Extern.findNext fn = none) (he : Extern.find fn = some e) {args : List V} {r : V}
    (h : ∀ w R xs, Reps w R rho0 args xs → ∃ x, (e xs.toArray).run P w = .ok x w ∧ Rep w R rho0 r x) : Fn P f args r :=
  ⟨fun w R xs hR hg hr => by
    obtain ⟨x, h1, h2⟩ := h w R xs hr
    rw [run_callFunc_extern hf hname hb hn he, h1]
    exact ⟨Below.refl _ _, R, fun _ h => h, fun _ h => .inl h, h2⟩⟩
theorem extern_fnm [Inhabited TabT] {P : Program} {f : FuncId} {fn : Func} {e : Array Value → Sem Value} (hf : P.funcs[f]? = some fn) (hname : (fn.name == "runtime.NumGoroutine") = false) (hb : fn.body.isNone = true) (hn : Extern.findNext fn = none) (he : Extern.find fn = some e) {args : List V} {r : V} {pre post : List Blk}
    (h : ∀ cx w R ρ xs, St P cx (hpL pre) w R ρ → There (hpL pre) ρ → Reps w R ρ args xs → ∃ x w', (e xs.toArray).run P w = .ok x w' ∧ ∃ R' ρ', St P cx (hpL post) w' R' ρ' ∧ There (hpL post) ρ' ∧ Ext w R ρ w' R' ρ' ∧ Rep w' R' ρ' r x) : FnM P f args pre r post :=
  ⟨fun cx w R ρ xs hs ht hr => by
    obtain ⟨x, w', h1, h2⟩ := h cx w R ρ xs hs ht hr
    rw [run_callFunc_extern hf hname hb hn he, h1]
    exact h2⟩
theorem reps1 {w : World} {R : Nat → Prop} {ρ : Rho} {v : V} {xs : List Value} (h : Reps w R ρ [v] xs) : ∃ x, xs = [x] ∧ Rep w R ρ v x := by
  obtain ⟨x, r, rfl, h1, h2⟩ := h.uncons
  have : r = [] := List.eq_nil_of_length_eq_zero (by have := h2.1; simpa using this.symm)
  subst this; exact ⟨x, rfl, h1⟩
theorem reps2 {w : World} {R : Nat → Prop} {ρ : Rho} {v v' : V} {xs : List Value} (h : Reps w R ρ [v, v'] xs) : ∃ x x', xs = [x, x'] ∧ Rep w R ρ v x ∧ Rep w R ρ v' x' := by
  obtain ⟨x, r, rfl, h1, h2⟩ := h.uncons
  obtain ⟨x', rfl, h3⟩ := reps1 h2
  exact ⟨x, x', rfl, h1, h3⟩
theorem reps3 {w : World} {R : Nat → Prop} {ρ : Rho} {v v' v'' : V} {xs : List Value} (h : Reps w R ρ [v, v', v''] xs) : ∃ x x' x'', xs = [x, x', x''] ∧ Rep w R ρ v x ∧ Rep w R ρ v' x' ∧ Rep w R ρ v'' x'' := by
  obtain ⟨x, r, rfl, h1, h2⟩ := h.uncons
  obtain ⟨x', x'', rfl, h3, h4⟩ := reps2 h2
  exact ⟨x, x', x'', rfl, h1, h3, h4⟩
theorem Rep.of_agg {w : World} {R : Nat → Prop} {ρ : Rho} {cs : List V} {x : Value} (h : Rep w R ρ (.agg cs) x) : ∃ xs : List Value, x = .agg xs.toArray ∧ Reps w R ρ cs xs := by
  cases h with | agg hl h1 hh => exact ⟨_, rfl, hl, hh⟩
/-- a handle of a type -/
theorem of_handle {w : World} {R : Nat → Prop} {ρ : Rho} {t : Nat} {x : Value} (h : Rep w R ρ (.agg [.val (H t)]) x) : x = .agg #[H t] := by
  obtain ⟨xs, rfl, h1⟩ := h.of_agg
  obtain ⟨y, rfl, h2⟩ := reps1 h1
  rw [h2.of_val]
theorem handle {w : World} {R : Nat → Prop} {ρ : Rho} (t : Nat) : Rep w R ρ (.agg [.val (H t)]) (.agg #[H t]) := by
  have := Reps.cons (Rep.val (w := w) (R := R) (ρ := ρ) (v := H t) rfl) .nil
  exact .agg this.1 (by simp [Value.oneCell']) this.2
theorem rtyp {w : World} {R : Nat → Prop} {ρ : Rho} (t : Nat) : Rep w R ρ (.ifc 59 (.agg [.val (H t)])) (.iface 59 (.agg #[H t])) := .ifc (handle t)
theorem of_rtyp {w : World} {R : Nat → Prop} {ρ : Rho} {t : Nat} {x : Value} (h : Rep w R ρ (.ifc 59 (.agg [.val (H t)])) x) : x = .iface 59 (.agg #[H t]) := by
  obtain ⟨y, rfl, h1⟩ := h.of_ifc
  rw [of_handle h1]
/-- a Value: of type t, at what p points to -/
abbrev valV (t : Nat) (p : V) (fl : Int) : V := .agg [.val (H t), p, .int .u64 fl]
theorem of_valV {w : World} {R : Nat → Prop} {ρ : Rho} {t : Nat} {p : V} {fl : Int} {x : Value} (h : Rep w R ρ (valV t p fl) x) : ∃ y, x = .agg #[H t, y, .int .u64 fl] ∧ Rep w R ρ p y := by
  obtain ⟨xs, rfl, h1⟩ := h.of_agg
  obtain ⟨a, b, c, rfl, h2, h3, h4⟩ := reps3 h1
  rw [h2.of_val, h4.of_int]
  exact ⟨b, rfl, h3⟩
theorem to_valV {w : World} {R : Nat → Prop} {ρ : Rho} {t : Nat} {p : V} {fl : Int} {y : Value} (h : Rep w R ρ p y) (h1 : Value.oneCell' y = true) : Rep w R ρ (valV t p fl) (.agg #[H t, y, .int .u64 fl]) := by
  have := Reps.cons (Rep.val (w := w) (R := R) (ρ := ρ) (v := H t) rfl) (.cons h (.cons (Rep.int (k := .u64) (n := fl)) .nil))
  exact .agg this.1 (by intro x hx; simp only [List.mem_cons, List.not_mem_nil, or_false] at hx; rcases hx with rfl | rfl | rfl; rfl; exact h1; rfl) this.2
theorem Rep.of_ptr {w : World} {R : Nat → Prop} {ρ : Rho} {k o : Nat} {x : Value} (h : Rep w R ρ (.ptr k o) x) : ∃ b, x = .pointer (some ⟨b, o, none⟩) ∧ ρ k = some (.blk b) := by
  cases h with | ptr hp => exact ⟨_, rfl, hp⟩
theorem Rep.of_elt {w : World} {R : Nat → Prop} {ρ : Rho} {row : List V} {off : Nat} {x : Value} (h : Rep w R ρ (.elt row off) x) : ∃ b o, x = .pointer (some ⟨b, o + off, none⟩) ∧ ∀ (j : Nat) (v : V), row[j]? = some v → ∃ y, w.cell? ⟨b, o + j, none⟩ = some y ∧ Rep w R rho0 v y := by
  cases h with
  | elt f hR hf h1 hh => exact ⟨_, _, rfl, fun j v hv => ⟨_, hf j (List.getElem?_eq_some_iff.1 hv).1, hh j v hv⟩⟩
theorem Rep.of_fault {w : World} {R : Nat → Prop} {ρ : Rho} {row : List V} {x : Value} (h : Rep w R ρ (.ifc 39 (.elt row 0)) x) : ∃ a, x = .iface 39 (.pointer (some a)) := by
  obtain ⟨y, rfl, h1⟩ := h.of_ifc
  obtain ⟨b, o, rfl, _⟩ := h1.of_elt
  exact ⟨_, rfl⟩
/-- one block more -/
theorem St.one [Inhabited TabT] {P : Program} {cx : Cx} {w : World} {R : Nat → Prop} {ρ : Rho} {pre : List Blk} {n : Nat} {cs : List V} {xs : List Value} {t : TypeId} (hs : St P cx (hpL pre) w R ρ) (ht : There (hpL pre) ρ) (hn : pre.length = n) (hr : Reps w R ρ cs xs) (h1 : ∀ x ∈ xs, Value.oneCell' x = true) :
    ∃ ρ', St P cx (hpL (pre ++ [.cells cs])) (w.alloc (.cells xs.toArray t)) R ρ' ∧ There (hpL (pre ++ [.cells cs])) ρ' ∧ Ext w R ρ (w.alloc (.cells xs.toArray t)) R ρ' ∧ ρ' n = some (.blk w.heap.size) := by
  have hf : hpL pre n = none := by rw [hpL_get]; simp [hn]
  have e : (hpL pre).set n (some (.cells cs)) = hpL (pre ++ [.cells cs]) := by
    funext k
    by_cases hk : k = n
    · subst hk; rw [Hp.set_same, hpL_get, ← hn]; simp
    · rw [Hp.set_other _ _ hk, hpL_get, hpL_get]
      rcases Nat.lt_or_ge k n with h | h
      · rw [List.getElem?_append_left (by omega)]
      · rw [List.getElem?_eq_none (by omega), List.getElem?_eq_none (by simp; omega)]
  obtain ⟨s1, s2⟩ := hs.alloc (t := t) (ht.free hf) hr h1
  rw [e] at s1
  refine ⟨_, s1, ?_, s2, by simp [Rho.set]⟩
  have := ht.add n (.cells cs) (.blk w.heap.size)
  rwa [e] at this

theorem rlm (z : Sem Value) (f : TypeId → Addr → Nat → Nat → Sem Value) (v : Value) :
    ReflectliteValue.method z f #[v] = (do match ← ReflectliteValue.parts v with | none => z | some (t, a, fl) => f t a fl (fl % 32)) := rfl
theorem rls (v x : Value) : ReflectliteValue.set #[v, x] = (do
    let (some (dst, a, fl), some (src, b, _)) := (← ReflectliteValue.parts v, ← ReflectliteValue.parts x)
      | unsupported (.noEntry "extern/(internal/reflectlite.Value).Set.zeroValue")
    if fl / ReflectliteValue.flagAddr % 2 == 0 then unsupported (.noEntry "extern/(internal/reflectlite.Value).Set.unaddressable")
    let val ← loadVar src b
    if ← Rtype.directlyAssignable dst src then storeVar dst a val
    else if ← Rtype.implements dst src then
      if (← Rtype.kind src) == 20 then
        match val with
        | .nilIface => unsupported (.noEntry "extern/reflectlite: a nil value of one interface type handed on as a value of another")
        | _ => storeVar dst a val
      else storeVar dst a (.iface src val)
    else panicString ("reflectlite.Set: value of type " ++ (← Rtype.spelt src) ++ " is not assignable to type " ++ (← Rtype.spelt dst))
    pure (.tuple #[])) := rfl
theorem k_reflectliteValueOf : Tryd.f16.body.isNone = true ∧ Extern.findNext Tryd.f16 = none ∧ Extern.find Tryd.f16 = some (fun args => ReflectliteValue.unpack (args.getD 0 (.tuple #[]))) := ⟨by kernel_rfl, by kernel_rfl, by kernel_rfl⟩

/-! ### a target of type 24 -/
theorem valueOf_PE' [Inhabited TabT] (cs : List V) : FnM Tryd.prog 16 [.ifc 31 (.ptr 0 0)] [.cells cs] (valV 31 (.ptr 1 0) 150) [.cells cs, .cells [.ptr 0 0]] :=
  extern_fnm (e := fun args => ReflectliteValue.unpack (args.getD 0 (.tuple #[]))) Tryd.func16 rfl k_reflectliteValueOf.1 k_reflectliteValueOf.2.1 k_reflectliteValueOf.2.2 fun cx w R ρ xs hs ht hr => by
    obtain ⟨x, rfl, h1⟩ := reps1 hr
    obtain ⟨y, rfl, h2⟩ := h1.of_ifc
    obtain ⟨b, rfl, h3⟩ := h2.of_ptr
    have hrun : (ReflectliteValue.unpack (.iface 31 (.pointer (some ⟨b, 0, none⟩)))).run Tryd.prog w = .ok (.agg #[H 31, .pointer (some ⟨w.heap.size, 0, none⟩), .int .u64 150]) (w.alloc (.cells #[.pointer (some ⟨b, 0, none⟩)] 31)) := by kernel_rfl
    obtain ⟨ρ', s1, s2, s3, s4⟩ := hs.one (t := 31) ht (n := 1) rfl (Reps.cons h2 .nil) (by simp [Value.oneCell'])
    exact ⟨_, _, hrun, R, ρ', s1, s2, s3, to_valV (.ptr s4) rfl⟩
theorem k_reflectliteValueType : Tryd.f17.body.isNone = true ∧ Extern.findNext Tryd.f17 = none ∧ Extern.find Tryd.f17 = some (ReflectliteValue.methodAny (ReflectliteValue.valueError "reflectlite.Value.Type" 0) (fun t _ _ _ => ReflectliteType.toType t)) := ⟨by kernel_rfl, by kernel_rfl, by kernel_rfl⟩

theorem type_PE [Inhabited TabT] (row : List V) : Fn Tryd.prog 17 [valV 31 (.elt row 0) 150] (.ifc 59 (.agg [.val (H 31)])) :=
  extern_fn (e := ReflectliteValue.methodAny (ReflectliteValue.valueError "reflectlite.Value.Type" 0) (fun t _ _ _ => ReflectliteType.toType t)) Tryd.func17 rfl k_reflectliteValueType.1 k_reflectliteValueType.2.1 k_reflectliteValueType.2.2 fun w R xs hr => by
    obtain ⟨x, rfl, h1⟩ := reps1 hr
    obtain ⟨y, rfl, h2⟩ := of_valV h1
    obtain ⟨b, o, rfl, _⟩ := h2.of_elt
    exact ⟨_, (show (ReflectliteValue.methodAny (ReflectliteValue.valueError "reflectlite.Value.Type" 0) (fun t _ _ _ => ReflectliteType.toType t) #[.agg #[H 31, .pointer (some ⟨b, o + 0, none⟩), .int .u64 150]]).run Tryd.prog w = .ok (.iface 59 (.agg #[H 31])) w by kernel_rfl), rtyp _⟩

theorem und_PE : Tryd.prog.underlying 31 = some (.pointer 24) := by kernel_rfl
theorem parts_PE (a : Addr) (w : World) : (ReflectliteValue.parts (.agg #[H 31, .pointer (some a), .int .u64 150])).run Tryd.prog w = .ok (some (31, a, 150)) w := by kernel_rfl
theorem parts_E (a : Addr) (w : World) : (ReflectliteValue.parts (.agg #[H 24, .pointer (some a), .int .u64 130])).run Tryd.prog w = .ok (some (24, a, 130)) w := by kernel_rfl
theorem partsA_E (a : Addr) (w : World) : (ReflectliteValue.parts (.agg #[H 24, .pointer (some a), .int .u64 386])).run Tryd.prog w = .ok (some (24, a, 386)) w := by kernel_rfl
theorem elemOf_PE (w : World) : (Rtype.elem? 31).run Tryd.prog w = .ok (some 24) w := by kernel_rfl
theorem mk_E (p : Addr) (w : World) : (ReflectliteValue.mk 24 p ReflectliteValue.flagAddr).run Tryd.prog w = .ok (.agg #[H 24, .pointer (some p), .int .u64 386]) w := by kernel_rfl
theorem direct_E (w : World) : (Rtype.directlyAssignable 24 24).run Tryd.prog w = .ok true w := by kernel_rfl
theorem size_E (w : World) : (sizeOf 24).run Tryd.prog w = .ok 1 w := by kernel_rfl
theorem und_E : Tryd.prog.underlying 24 = some (.int .i64) := by kernel_rfl
theorem k_reflectliteValueIsNil : Tryd.f18.body.isNone = true ∧ Extern.findNext Tryd.f18 = none ∧ Extern.find Tryd.f18 = some (ReflectliteValue.method (ReflectliteValue.valueError "reflectlite.Value.IsNil" 0) ReflectliteValue.isNil) := ⟨by kernel_rfl, by kernel_rfl, by kernel_rfl⟩

theorem isNil_PE [Inhabited TabT] (row : List V) : Fn Tryd.prog 18 [valV 31 (.elt [.elt row 0] 0) 150] (.bool false) :=
  extern_fn (e := ReflectliteValue.method (ReflectliteValue.valueError "reflectlite.Value.IsNil" 0) ReflectliteValue.isNil) Tryd.func18 rfl k_reflectliteValueIsNil.1 k_reflectliteValueIsNil.2.1 k_reflectliteValueIsNil.2.2 fun w R xs hr => by
    obtain ⟨x, rfl, h1⟩ := reps1 hr
    obtain ⟨y, rfl, h2⟩ := of_valV h1
    obtain ⟨b, o, rfl, h3⟩ := h2.of_elt
    obtain ⟨z, hz, h4⟩ := h3 0 _ rfl
    obtain ⟨b', o', rfl, _⟩ := h4.of_elt
    refine ⟨_, ?_, .bool⟩
    rw [rlm]
    simp only [Sem.run_bind, parts_PE, Result.andThen]
    simp [ReflectliteValue.isNil, loadVar, isAgg, underlying, und_PE, Result.andThen]
    simp at hz
    simp [hz]
theorem k_abiTypeKind : Tryd.f51.body.isNone = true ∧ Extern.findNext Tryd.f51 = none ∧ Extern.find Tryd.f51 = some (ReflectliteType.abiMethod fun t => do pure (.int .u8 (← Rtype.kind t))) := ⟨by kernel_rfl, by kernel_rfl, by kernel_rfl⟩

theorem kind_PE [Inhabited TabT]  : Fn Tryd.prog 51 [.val (H 31)] (.int .u8 22) :=
  extern_fn (e := ReflectliteType.abiMethod fun t => do pure (.int .u8 (← Rtype.kind t))) Tryd.func51 rfl k_abiTypeKind.1 k_abiTypeKind.2.1 k_abiTypeKind.2.2 fun w R xs hr => by
    obtain ⟨x, rfl, h1⟩ := reps1 hr
    rw [h1.of_val]
    exact ⟨_, (show ((ReflectliteType.abiMethod fun t => Functor.map (fun a : Nat => Value.int IntKind.u8 (a : Int)) (Rtype.kind t)) #[H 31]).run Tryd.prog w = .ok (.int .u8 22) w by kernel_rfl), .int⟩

theorem kind_E [Inhabited TabT]  : Fn Tryd.prog 51 [.val (H 24)] (.int .u8 2) :=
  extern_fn (e := ReflectliteType.abiMethod fun t => do pure (.int .u8 (← Rtype.kind t))) Tryd.func51 rfl k_abiTypeKind.1 k_abiTypeKind.2.1 k_abiTypeKind.2.2 fun w R xs hr => by
    obtain ⟨x, rfl, h1⟩ := reps1 hr
    rw [h1.of_val]
    exact ⟨_, (show ((ReflectliteType.abiMethod fun t => Functor.map (fun a : Nat => Value.int IntKind.u8 (a : Int)) (Rtype.kind t)) #[H 24]).run Tryd.prog w = .ok (.int .u8 2) w by kernel_rfl), .int⟩
theorem k_reflectlitertypeElem : Tryd.f62.body.isNone = true ∧ Extern.findNext Tryd.f62 = none ∧ Extern.find Tryd.f62 = some (ReflectliteType.method ReflectliteType.elem) := ⟨by kernel_rfl, by kernel_rfl, by kernel_rfl⟩

theorem elem_PE [Inhabited TabT]  : Fn Tryd.prog 62 [.agg [.val (H 31)]] (.ifc 59 (.agg [.val (H 24)])) :=
  extern_fn (e := ReflectliteType.method ReflectliteType.elem) Tryd.func62 rfl k_reflectlitertypeElem.1 k_reflectlitertypeElem.2.1 k_reflectlitertypeElem.2.2 fun w R xs hr => by
    obtain ⟨x, rfl, h1⟩ := reps1 hr
    rw [of_handle h1]
    exact ⟨_, (show (ReflectliteType.method ReflectliteType.elem #[.agg #[H 31]]).run Tryd.prog w = .ok (.iface 59 (.agg #[H 24])) w by kernel_rfl), rtyp _⟩
theorem k_reflectlitertypeImplements : Tryd.f63.body.isNone = true ∧ Extern.findNext Tryd.f63 = none ∧ Extern.find Tryd.f63 = some (ReflectliteType.relation "Implements" ReflectliteType.implements_) := ⟨by kernel_rfl, by kernel_rfl, by kernel_rfl⟩

theorem implements_E [Inhabited TabT]  : Fn Tryd.prog 63 [.agg [.val (H 24)], .ifc 59 (.agg [.val (H 26)])] (.bool true) :=
  extern_fn (e := ReflectliteType.relation "Implements" ReflectliteType.implements_) Tryd.func63 rfl k_reflectlitertypeImplements.1 k_reflectlitertypeImplements.2.1 k_reflectlitertypeImplements.2.2 fun w R xs hr => by
    obtain ⟨x, y, rfl, h1, h2⟩ := reps2 hr
    rw [of_handle h1, of_rtyp h2]
    exact ⟨_, (show (ReflectliteType.relation "Implements" ReflectliteType.implements_ #[.agg #[H 24], .iface 59 (.agg #[H 26])]).run Tryd.prog w = .ok (.bool true) w by kernel_rfl), .bool⟩
theorem k_reflectliteValueElem : Tryd.f23.body.isNone = true ∧ Extern.findNext Tryd.f23 = none ∧ Extern.find Tryd.f23 = some (ReflectliteValue.method (ReflectliteValue.valueError "reflectlite.Value.Elem" 0) ReflectliteValue.elem) := ⟨by kernel_rfl, by kernel_rfl, by kernel_rfl⟩

theorem elemV_PE' [Inhabited TabT] (cs : List V) : FnM Tryd.prog 23 [valV 31 (.ptr 0 0) 150] [.cells [.ptr 1 0], .cells cs] (valV 24 (.ptr 1 0) 386) [.cells [.ptr 1 0], .cells cs] :=
  extern_fnm (e := ReflectliteValue.method (ReflectliteValue.valueError "reflectlite.Value.Elem" 0) ReflectliteValue.elem) Tryd.func23 rfl k_reflectliteValueElem.1 k_reflectliteValueElem.2.1 k_reflectliteValueElem.2.2 fun cx w R ρ xs hs ht hr => by
    obtain ⟨x, rfl, h1⟩ := reps1 hr
    obtain ⟨y, rfl, h2⟩ := of_valV h1
    obtain ⟨b, rfl, h3⟩ := h2.of_ptr
    obtain ⟨ys, t, q1, q2, q3⟩ := hs.brep 0 _ (.cells [.ptr 1 0]) h3 rfl
    obtain ⟨z, rfl, h4⟩ := reps1 q2
    obtain ⟨b0, rfl, h5⟩ := h4.of_ptr
    have ha : w.cell? ⟨b, 0, none⟩ = some (.pointer (some ⟨b0, 0, none⟩)) := by rw [cell_of_block q1]; rfl
    refine ⟨_, w, ?_, R, ρ, hs, ht, Ext.refl _ _ _, to_valV (.ptr h5) rfl⟩
    rw [rlm]
    simp only [Sem.run_bind, parts_PE, Result.andThen]
    simp [ReflectliteValue.elem, loadVar, isAgg, underlying, und_PE, ha, Result.andThen, elemOf_PE, mk_E]
theorem k_reflectliteValueSet : Tryd.f24.body.isNone = true ∧ Extern.findNext Tryd.f24 = none ∧ Extern.find Tryd.f24 = some (ReflectliteValue.set) := ⟨by kernel_rfl, by kernel_rfl, by kernel_rfl⟩

theorem valueOf_E [Inhabited TabT] (c : Int) : FnM Tryd.prog 16 [.ifc 24 (.int .i64 c)] [] (valV 24 (.ptr 0 0) 130) [.cells [.int .i64 c]] :=
  extern_fnm (e := fun args => ReflectliteValue.unpack (args.getD 0 (.tuple #[]))) Tryd.func16 rfl k_reflectliteValueOf.1 k_reflectliteValueOf.2.1 k_reflectliteValueOf.2.2 fun cx w R ρ xs hs ht hr => by
    obtain ⟨x, rfl, h1⟩ := reps1 hr
    obtain ⟨y, rfl, h2⟩ := h1.of_ifc
    obtain rfl := h2.of_int
    have hrun : (ReflectliteValue.unpack (.iface 24 (.int .i64 c))).run Tryd.prog w = .ok (.agg #[H 24, .pointer (some ⟨w.heap.size, 0, none⟩), .int .u64 130]) (w.alloc (.cells #[.int .i64 c] 24)) := by kernel_rfl
    obtain ⟨ρ', s1, s2, s3, s4⟩ := hs.one (t := 24) ht (n := 0) rfl (Reps.cons h2 .nil) (by simp [Value.oneCell'])
    exact ⟨_, _, hrun, R, ρ', s1, s2, s3, to_valV (.ptr s4) rfl⟩
theorem set_E' [Inhabited TabT] (old : V) (c : Int) : FnM Tryd.prog 24 [valV 24 (.ptr 0 0) 386, valV 24 (.ptr 1 0) 130] [.cells [old], .cells [.int .i64 c]] (.tup []) [.cells [.int .i64 c], .cells [.int .i64 c]] :=
  extern_fnm (e := ReflectliteValue.set) Tryd.func24 rfl k_reflectliteValueSet.1 k_reflectliteValueSet.2.1 k_reflectliteValueSet.2.2 fun cx w R ρ xs hs ht hr => by
    obtain ⟨x, x', rfl, h1, h1'⟩ := reps2 hr
    obtain ⟨y, rfl, h2⟩ := of_valV h1
    obtain ⟨y', rfl, h2'⟩ := of_valV h1'
    obtain ⟨b, rfl, h3⟩ := h2.of_ptr
    obtain ⟨b', rfl, h3'⟩ := h2'.of_ptr
    obtain ⟨ys, t, q1, q2, q3⟩ := hs.brep 0 _ (.cells [old]) h3 rfl
    obtain ⟨ys', t', q1', q2', q3'⟩ := hs.brep 1 _ (.cells [.int .i64 c]) h3' rfl
    obtain ⟨z, rfl, h4⟩ := reps1 q2
    obtain ⟨z', rfl, h4'⟩ := reps1 q2'
    obtain rfl := h4'.of_int
    have hb : w.cell? ⟨b', 0, none⟩ = some (.int .i64 c) := by rw [cell_of_block q1']; rfl
    have hst := run_storeCells_at Tryd.prog b 0 t [.int .i64 c] 0 #[z] w q1 (by simp) (by simp [Value.oneCell'])
    obtain ⟨a1, a2, a3, a4⟩ := setRow_ext w b #[.int .i64 c]
    obtain ⟨s1, s2⟩ := hs.write (n := b) h3 rfl (by simp) rfl a1 a2 a3 a4.symm (fun j hj => setRow_other w b j _ hj) (b' := .cells [.int .i64 c]) (fun ex =>
      ⟨[.int .i64 c], t, setRow_heap w b _ _ _ _ q1, (Reps.cons h4' .nil).ext ex, by simp [Value.oneCell']⟩)
    have e : (hpL [.cells [old], .cells [.int .i64 c]]).set 0 (some (.cells [.int .i64 c])) = hpL [.cells [.int .i64 c], .cells [.int .i64 c]] := by
      funext k
      cases k with
      | zero => rfl
      | succ k => rfl
    rw [e] at s1
    refine ⟨.tuple #[], w.setRow b #[.int .i64 c], ?_, R, ρ, s1, fun k o hk => ?_, s2, .tup rfl (by simp)⟩
    · rw [rls]
      simp only [Sem.run_bind, partsA_E, parts_E, Result.andThen]
      simp [ReflectliteValue.flagAddr, loadVar, isAgg, underlying, und_E, hb, Result.andThen, direct_E, storeVar, size_E, Value.cells]
      simp at hst
      simp [hst, Result.andThen]
    · have := ht k o hk
      cases k with
      | zero => simp [hpL]
      | succ k => cases k with
        | zero => simp [hpL]
        | succ k => simp [hpL] at this

abbrev valueOf_PE [Inhabited TabT] (d : Int) := valueOf_PE' [.int .i64 d]
abbrev elemV_PE [Inhabited TabT] (d : Int) := elemV_PE' [.int .i64 d]
abbrev set_E [Inhabited TabT] (d c : Int) := set_E' (.int .i64 d) c

/-! ### a target of type 39 -/
theorem valueOf_PX' [Inhabited TabT] (cs : List V) : FnM Tryd.prog 16 [.ifc 57 (.ptr 0 0)] [.cells cs] (valV 57 (.ptr 1 0) 150) [.cells cs, .cells [.ptr 0 0]] :=
  extern_fnm (e := fun args => ReflectliteValue.unpack (args.getD 0 (.tuple #[]))) Tryd.func16 rfl k_reflectliteValueOf.1 k_reflectliteValueOf.2.1 k_reflectliteValueOf.2.2 fun cx w R ρ xs hs ht hr => by
    obtain ⟨x, rfl, h1⟩ := reps1 hr
    obtain ⟨y, rfl, h2⟩ := h1.of_ifc
    obtain ⟨b, rfl, h3⟩ := h2.of_ptr
    have hrun : (ReflectliteValue.unpack (.iface 57 (.pointer (some ⟨b, 0, none⟩)))).run Tryd.prog w = .ok (.agg #[H 57, .pointer (some ⟨w.heap.size, 0, none⟩), .int .u64 150]) (w.alloc (.cells #[.pointer (some ⟨b, 0, none⟩)] 57)) := by kernel_rfl
    obtain ⟨ρ', s1, s2, s3, s4⟩ := hs.one (t := 57) ht (n := 1) rfl (Reps.cons h2 .nil) (by simp [Value.oneCell'])
    exact ⟨_, _, hrun, R, ρ', s1, s2, s3, to_valV (.ptr s4) rfl⟩

theorem type_PX [Inhabited TabT] (row : List V) : Fn Tryd.prog 17 [valV 57 (.elt row 0) 150] (.ifc 59 (.agg [.val (H 57)])) :=
  extern_fn (e := ReflectliteValue.methodAny (ReflectliteValue.valueError "reflectlite.Value.Type" 0) (fun t _ _ _ => ReflectliteType.toType t)) Tryd.func17 rfl k_reflectliteValueType.1 k_reflectliteValueType.2.1 k_reflectliteValueType.2.2 fun w R xs hr => by
    obtain ⟨x, rfl, h1⟩ := reps1 hr
    obtain ⟨y, rfl, h2⟩ := of_valV h1
    obtain ⟨b, o, rfl, _⟩ := h2.of_elt
    exact ⟨_, (show (ReflectliteValue.methodAny (ReflectliteValue.valueError "reflectlite.Value.Type" 0) (fun t _ _ _ => ReflectliteType.toType t) #[.agg #[H 57, .pointer (some ⟨b, o + 0, none⟩), .int .u64 150]]).run Tryd.prog w = .ok (.iface 59 (.agg #[H 57])) w by kernel_rfl), rtyp _⟩

theorem und_PX : Tryd.prog.underlying 57 = some (.pointer 39) := by kernel_rfl
theorem parts_PX (a : Addr) (w : World) : (ReflectliteValue.parts (.agg #[H 57, .pointer (some a), .int .u64 150])).run Tryd.prog w = .ok (some (57, a, 150)) w := by kernel_rfl
theorem parts_X (a : Addr) (w : World) : (ReflectliteValue.parts (.agg #[H 39, .pointer (some a), .int .u64 150])).run Tryd.prog w = .ok (some (39, a, 150)) w := by kernel_rfl
theorem partsA_X (a : Addr) (w : World) : (ReflectliteValue.parts (.agg #[H 39, .pointer (some a), .int .u64 406])).run Tryd.prog w = .ok (some (39, a, 406)) w := by kernel_rfl
theorem elemOf_PX (w : World) : (Rtype.elem? 57).run Tryd.prog w = .ok (some 39) w := by kernel_rfl
theorem mk_X (p : Addr) (w : World) : (ReflectliteValue.mk 39 p ReflectliteValue.flagAddr).run Tryd.prog w = .ok (.agg #[H 39, .pointer (some p), .int .u64 406]) w := by kernel_rfl
theorem direct_X (w : World) : (Rtype.directlyAssignable 39 39).run Tryd.prog w = .ok true w := by kernel_rfl
theorem size_X (w : World) : (sizeOf 39).run Tryd.prog w = .ok 1 w := by kernel_rfl
theorem und_X : Tryd.prog.underlying 39 = some (.pointer 41) := by kernel_rfl

theorem isNil_PX [Inhabited TabT] (row : List V) : Fn Tryd.prog 18 [valV 57 (.elt [.elt row 0] 0) 150] (.bool false) :=
  extern_fn (e := ReflectliteValue.method (ReflectliteValue.valueError "reflectlite.Value.IsNil" 0) ReflectliteValue.isNil) Tryd.func18 rfl k_reflectliteValueIsNil.1 k_reflectliteValueIsNil.2.1 k_reflectliteValueIsNil.2.2 fun w R xs hr => by
    obtain ⟨x, rfl, h1⟩ := reps1 hr
    obtain ⟨y, rfl, h2⟩ := of_valV h1
    obtain ⟨b, o, rfl, h3⟩ := h2.of_elt
    obtain ⟨z, hz, h4⟩ := h3 0 _ rfl
    obtain ⟨b', o', rfl, _⟩ := h4.of_elt
    refine ⟨_, ?_, .bool⟩
    rw [rlm]
    simp only [Sem.run_bind, parts_PX, Result.andThen]
    simp [ReflectliteValue.isNil, loadVar, isAgg, underlying, und_PX, Result.andThen]
    simp at hz
    simp [hz]

theorem kind_PX [Inhabited TabT]  : Fn Tryd.prog 51 [.val (H 57)] (.int .u8 22) :=
  extern_fn (e := ReflectliteType.abiMethod fun t => do pure (.int .u8 (← Rtype.kind t))) Tryd.func51 rfl k_abiTypeKind.1 k_abiTypeKind.2.1 k_abiTypeKind.2.2 fun w R xs hr => by
    obtain ⟨x, rfl, h1⟩ := reps1 hr
    rw [h1.of_val]
    exact ⟨_, (show ((ReflectliteType.abiMethod fun t => Functor.map (fun a : Nat => Value.int IntKind.u8 (a : Int)) (Rtype.kind t)) #[H 57]).run Tryd.prog w = .ok (.int .u8 22) w by kernel_rfl), .int⟩

theorem kind_X [Inhabited TabT]  : Fn Tryd.prog 51 [.val (H 39)] (.int .u8 22) :=
  extern_fn (e := ReflectliteType.abiMethod fun t => do pure (.int .u8 (← Rtype.kind t))) Tryd.func51 rfl k_abiTypeKind.1 k_abiTypeKind.2.1 k_abiTypeKind.2.2 fun w R xs hr => by
    obtain ⟨x, rfl, h1⟩ := reps1 hr
    rw [h1.of_val]
    exact ⟨_, (show ((ReflectliteType.abiMethod fun t => Functor.map (fun a : Nat => Value.int IntKind.u8 (a : Int)) (Rtype.kind t)) #[H 39]).run Tryd.prog w = .ok (.int .u8 22) w by kernel_rfl), .int⟩

theorem elem_PX [Inhabited TabT]  : Fn Tryd.prog 62 [.agg [.val (H 57)]] (.ifc 59 (.agg [.val (H 39)])) :=
  extern_fn (e := ReflectliteType.method ReflectliteType.elem) Tryd.func62 rfl k_reflectlitertypeElem.1 k_reflectlitertypeElem.2.1 k_reflectlitertypeElem.2.2 fun w R xs hr => by
    obtain ⟨x, rfl, h1⟩ := reps1 hr
    rw [of_handle h1]
    exact ⟨_, (show (ReflectliteType.method ReflectliteType.elem #[.agg #[H 57]]).run Tryd.prog w = .ok (.iface 59 (.agg #[H 39])) w by kernel_rfl), rtyp _⟩

theorem implements_X [Inhabited TabT]  : Fn Tryd.prog 63 [.agg [.val (H 39)], .ifc 59 (.agg [.val (H 26)])] (.bool true) :=
  extern_fn (e := ReflectliteType.relation "Implements" ReflectliteType.implements_) Tryd.func63 rfl k_reflectlitertypeImplements.1 k_reflectlitertypeImplements.2.1 k_reflectlitertypeImplements.2.2 fun w R xs hr => by
    obtain ⟨x, y, rfl, h1, h2⟩ := reps2 hr
    rw [of_handle h1, of_rtyp h2]
    exact ⟨_, (show (ReflectliteType.relation "Implements" ReflectliteType.implements_ #[.agg #[H 39], .iface 59 (.agg #[H 26])]).run Tryd.prog w = .ok (.bool true) w by kernel_rfl), .bool⟩

theorem elemV_PX' [Inhabited TabT] (cs : List V) : FnM Tryd.prog 23 [valV 57 (.ptr 0 0) 150] [.cells [.ptr 1 0], .cells cs] (valV 39 (.ptr 1 0) 406) [.cells [.ptr 1 0], .cells cs] :=
  extern_fnm (e := ReflectliteValue.method (ReflectliteValue.valueError "reflectlite.Value.Elem" 0) ReflectliteValue.elem) Tryd.func23 rfl k_reflectliteValueElem.1 k_reflectliteValueElem.2.1 k_reflectliteValueElem.2.2 fun cx w R ρ xs hs ht hr => by
    obtain ⟨x, rfl, h1⟩ := reps1 hr
    obtain ⟨y, rfl, h2⟩ := of_valV h1
    obtain ⟨b, rfl, h3⟩ := h2.of_ptr
    obtain ⟨ys, t, q1, q2, q3⟩ := hs.brep 0 _ (.cells [.ptr 1 0]) h3 rfl
    obtain ⟨z, rfl, h4⟩ := reps1 q2
    obtain ⟨b0, rfl, h5⟩ := h4.of_ptr
    have ha : w.cell? ⟨b, 0, none⟩ = some (.pointer (some ⟨b0, 0, none⟩)) := by rw [cell_of_block q1]; rfl
    refine ⟨_, w, ?_, R, ρ, hs, ht, Ext.refl _ _ _, to_valV (.ptr h5) rfl⟩
    rw [rlm]
    simp only [Sem.run_bind, parts_PX, Result.andThen]
    simp [ReflectliteValue.elem, loadVar, isAgg, underlying, und_PX, ha, Result.andThen, elemOf_PX, mk_X]

theorem valueOf_X [Inhabited TabT] (row : List V) : FnM Tryd.prog 16 [.ifc 39 (.elt row 0)] [] (valV 39 (.ptr 0 0) 150) [.cells [.elt row 0]] :=
  extern_fnm (e := fun args => ReflectliteValue.unpack (args.getD 0 (.tuple #[]))) Tryd.func16 rfl k_reflectliteValueOf.1 k_reflectliteValueOf.2.1 k_reflectliteValueOf.2.2 fun cx w R ρ xs hs ht hr => by
    obtain ⟨x, rfl, h1⟩ := reps1 hr
    obtain ⟨y, rfl, h2⟩ := h1.of_ifc
    obtain ⟨bb, oo, rfl, _⟩ := h2.of_elt
    have hrun : (ReflectliteValue.unpack (.iface 39 (.pointer (some ⟨bb, oo + 0, none⟩)))).run Tryd.prog w = .ok (.agg #[H 39, .pointer (some ⟨w.heap.size, 0, none⟩), .int .u64 150]) (w.alloc (.cells #[.pointer (some ⟨bb, oo + 0, none⟩)] 39)) := by kernel_rfl
    obtain ⟨ρ', s1, s2, s3, s4⟩ := hs.one (t := 39) ht (n := 0) rfl (Reps.cons h2 .nil) (by simp [Value.oneCell'])
    exact ⟨_, _, hrun, R, ρ', s1, s2, s3, to_valV (.ptr s4) rfl⟩
theorem set_X' [Inhabited TabT] (old : V) (row : List V) : FnM Tryd.prog 24 [valV 39 (.ptr 0 0) 406, valV 39 (.ptr 1 0) 150] [.cells [old], .cells [.elt row 0]] (.tup []) [.cells [.elt row 0], .cells [.elt row 0]] :=
  extern_fnm (e := ReflectliteValue.set) Tryd.func24 rfl k_reflectliteValueSet.1 k_reflectliteValueSet.2.1 k_reflectliteValueSet.2.2 fun cx w R ρ xs hs ht hr => by
    obtain ⟨x, x', rfl, h1, h1'⟩ := reps2 hr
    obtain ⟨y, rfl, h2⟩ := of_valV h1
    obtain ⟨y', rfl, h2'⟩ := of_valV h1'
    obtain ⟨b, rfl, h3⟩ := h2.of_ptr
    obtain ⟨b', rfl, h3'⟩ := h2'.of_ptr
    obtain ⟨ys, t, q1, q2, q3⟩ := hs.brep 0 _ (.cells [old]) h3 rfl
    obtain ⟨ys', t', q1', q2', q3'⟩ := hs.brep 1 _ (.cells [.elt row 0]) h3' rfl
    obtain ⟨z, rfl, h4⟩ := reps1 q2
    obtain ⟨z', rfl, h4'⟩ := reps1 q2'
    obtain ⟨bb, oo, rfl, _⟩ := h4'.of_elt
    have hb : w.cell? ⟨b', 0, none⟩ = some (.pointer (some ⟨bb, oo + 0, none⟩)) := by rw [cell_of_block q1']; rfl
    have hst := run_storeCells_at Tryd.prog b 0 t [.pointer (some ⟨bb, oo + 0, none⟩)] 0 #[z] w q1 (by simp) (by simp [Value.oneCell'])
    obtain ⟨a1, a2, a3, a4⟩ := setRow_ext w b #[.pointer (some ⟨bb, oo + 0, none⟩)]
    obtain ⟨s1, s2⟩ := hs.write (n := b) h3 rfl (by simp) rfl a1 a2 a3 a4.symm (fun j hj => setRow_other w b j _ hj) (b' := .cells [.elt row 0]) (fun ex =>
      ⟨[.pointer (some ⟨bb, oo + 0, none⟩)], t, setRow_heap w b _ _ _ _ q1, (Reps.cons h4' .nil).ext ex, by simp [Value.oneCell']⟩)
    have e : (hpL [.cells [old], .cells [.elt row 0]]).set 0 (some (.cells [.elt row 0])) = hpL [.cells [.elt row 0], .cells [.elt row 0]] := by
      funext k
      cases k with
      | zero => rfl
      | succ k => rfl
    rw [e] at s1
    refine ⟨.tuple #[], w.setRow b #[.pointer (some ⟨bb, oo + 0, none⟩)], ?_, R, ρ, s1, fun k o hk => ?_, s2, .tup rfl (by simp)⟩
    · rw [rls]
      simp only [Sem.run_bind, partsA_X, parts_X, Result.andThen]
      simp [ReflectliteValue.flagAddr, loadVar, isAgg, underlying, und_X, hb, Result.andThen, direct_X, storeVar, size_X, Value.cells]
      simp at hst
      simp [hst, Result.andThen]
    · have := ht k o hk
      cases k with
      | zero => simp [hpL]
      | succ k => cases k with
        | zero => simp [hpL]
        | succ k => simp [hpL] at this

abbrev valueOf_PX0 [Inhabited TabT] := valueOf_PX' [.val (.pointer none)]
abbrev elemV_PX0 [Inhabited TabT] := elemV_PX' [.val (.pointer none)]
abbrev set_X0 [Inhabited TabT] (row : List V) := set_X' (.val (.pointer none)) row
abbrev valueOf_PX1 [Inhabited TabT] (r0 : List V) := valueOf_PX' [.elt r0 0]
abbrev elemV_PX1 [Inhabited TabT] (r0 : List V) := elemV_PX' [.elt r0 0]
abbrev set_X1 [Inhabited TabT] (r0 row : List V) := set_X' (.elt r0 0) row
theorem k_reflectliteTypeOf : Tryd.f20.body.isNone = true ∧ Extern.findNext Tryd.f20 = none ∧ Extern.find Tryd.f20 = some (ReflectliteType.typeOf) := ⟨by kernel_rfl, by kernel_rfl, by kernel_rfl⟩

theorem typeOf_E [Inhabited TabT] (c : Int) : Fn Tryd.prog 20 [.ifc 24 (.int .i64 c)] (.ifc 59 (.agg [.val (H 24)])) :=
  extern_fn (e := ReflectliteType.typeOf) Tryd.func20 rfl k_reflectliteTypeOf.1 k_reflectliteTypeOf.2.1 k_reflectliteTypeOf.2.2 fun w R xs hr => by
    obtain ⟨x, rfl, h1⟩ := reps1 hr
    obtain ⟨y, rfl, h2⟩ := h1.of_ifc
    exact ⟨_, (show (ReflectliteType.typeOf #[.iface 24 y]).run Tryd.prog w = .ok (.iface 59 (.agg #[H 24])) w by kernel_rfl), rtyp _⟩

theorem typeOf_X [Inhabited TabT] (row : List V) : Fn Tryd.prog 20 [.ifc 39 (.elt row 0)] (.ifc 59 (.agg [.val (H 39)])) :=
  extern_fn (e := ReflectliteType.typeOf) Tryd.func20 rfl k_reflectliteTypeOf.1 k_reflectliteTypeOf.2.1 k_reflectliteTypeOf.2.2 fun w R xs hr => by
    obtain ⟨x, rfl, h1⟩ := reps1 hr
    obtain ⟨y, rfl, h2⟩ := h1.of_ifc
    exact ⟨_, (show (ReflectliteType.typeOf #[.iface 39 y]).run Tryd.prog w = .ok (.iface 59 (.agg #[H 39])) w by kernel_rfl), rtyp _⟩
theorem k_reflectlitertypeAssignableTo : Tryd.f60.body.isNone = true ∧ Extern.findNext Tryd.f60 = none ∧ Extern.find Tryd.f60 = some (ReflectliteType.relation "AssignableTo" ReflectliteType.assignableTo) := ⟨by kernel_rfl, by kernel_rfl, by kernel_rfl⟩

theorem assignable_E_E [Inhabited TabT]  : Fn Tryd.prog 60 [.agg [.val (H 24)], .ifc 59 (.agg [.val (H 24)])] (.bool true) :=
  extern_fn (e := ReflectliteType.relation "AssignableTo" ReflectliteType.assignableTo) Tryd.func60 rfl k_reflectlitertypeAssignableTo.1 k_reflectlitertypeAssignableTo.2.1 k_reflectlitertypeAssignableTo.2.2 fun w R xs hr => by
    obtain ⟨x, y, rfl, h1, h2⟩ := reps2 hr
    rw [of_handle h1, of_rtyp h2]
    exact ⟨_, (show (ReflectliteType.relation "AssignableTo" ReflectliteType.assignableTo #[.agg #[H 24], .iface 59 (.agg #[H 24])]).run Tryd.prog w = .ok (.bool true) w by kernel_rfl), .bool⟩

theorem assignable_X_E [Inhabited TabT]  : Fn Tryd.prog 60 [.agg [.val (H 39)], .ifc 59 (.agg [.val (H 24)])] (.bool false) :=
  extern_fn (e := ReflectliteType.relation "AssignableTo" ReflectliteType.assignableTo) Tryd.func60 rfl k_reflectlitertypeAssignableTo.1 k_reflectlitertypeAssignableTo.2.1 k_reflectlitertypeAssignableTo.2.2 fun w R xs hr => by
    obtain ⟨x, y, rfl, h1, h2⟩ := reps2 hr
    rw [of_handle h1, of_rtyp h2]
    exact ⟨_, (show (ReflectliteType.relation "AssignableTo" ReflectliteType.assignableTo #[.agg #[H 39], .iface 59 (.agg #[H 24])]).run Tryd.prog w = .ok (.bool false) w by kernel_rfl), .bool⟩

theorem assignable_X_X [Inhabited TabT]  : Fn Tryd.prog 60 [.agg [.val (H 39)], .ifc 59 (.agg [.val (H 39)])] (.bool true) :=
  extern_fn (e := ReflectliteType.relation "AssignableTo" ReflectliteType.assignableTo) Tryd.func60 rfl k_reflectlitertypeAssignableTo.1 k_reflectlitertypeAssignableTo.2.1 k_reflectlitertypeAssignableTo.2.2 fun w R xs hr => by
    obtain ⟨x, y, rfl, h1, h2⟩ := reps2 hr
    rw [of_handle h1, of_rtyp h2]
    exact ⟨_, (show (ReflectliteType.relation "AssignableTo" ReflectliteType.assignableTo #[.agg #[H 39], .iface 59 (.agg #[H 39])]).run Tryd.prog w = .ok (.bool true) w by kernel_rfl), .bool⟩

theorem assignable_E_X [Inhabited TabT]  : Fn Tryd.prog 60 [.agg [.val (H 24)], .ifc 59 (.agg [.val (H 39)])] (.bool false) :=
  extern_fn (e := ReflectliteType.relation "AssignableTo" ReflectliteType.assignableTo) Tryd.func60 rfl k_reflectlitertypeAssignableTo.1 k_reflectlitertypeAssignableTo.2.1 k_reflectlitertypeAssignableTo.2.2 fun w R xs hr => by
    obtain ⟨x, y, rfl, h1, h2⟩ := reps2 hr
    rw [of_handle h1, of_rtyp h2]
    exact ⟨_, (show (ReflectliteType.relation "AssignableTo" ReflectliteType.assignableTo #[.agg #[H 24], .iface 59 (.agg #[H 39])]).run Tryd.prog w = .ok (.bool false) w by kernel_rfl), .bool⟩
theorem k_reflectlitertypeComparable : Tryd.f61.body.isNone = true ∧ Extern.findNext Tryd.f61 = none ∧ Extern.find Tryd.f61 = some (ReflectliteType.method fun t => do Rtype.noPackHeld "Comparable" t; pure (.bool (← typeInfo t).comparable)) := ⟨by kernel_rfl, by kernel_rfl, by kernel_rfl⟩

theorem comparable_E [Inhabited TabT]  : Fn Tryd.prog 61 [.agg [.val (H 24)]] (.bool true) :=
  extern_fn (e := ReflectliteType.method fun t => do Rtype.noPackHeld "Comparable" t; pure (.bool (← typeInfo t).comparable)) Tryd.func61 rfl k_reflectlitertypeComparable.1 k_reflectlitertypeComparable.2.1 k_reflectlitertypeComparable.2.2 fun w R xs hr => by
    obtain ⟨x, rfl, h1⟩ := reps1 hr
    rw [of_handle h1]
    exact ⟨_, (show (ReflectliteType.method (fun t => do Rtype.noPackHeld "Comparable" t; pure (.bool (← typeInfo t).comparable)) #[.agg #[H 24]]).run Tryd.prog w = .ok (.bool true) w by kernel_rfl), .bool⟩

theorem comparable_X [Inhabited TabT]  : Fn Tryd.prog 61 [.agg [.val (H 39)]] (.bool true) :=
  extern_fn (e := ReflectliteType.method fun t => do Rtype.noPackHeld "Comparable" t; pure (.bool (← typeInfo t).comparable)) Tryd.func61 rfl k_reflectlitertypeComparable.1 k_reflectlitertypeComparable.2.1 k_reflectlitertypeComparable.2.2 fun w R xs hr => by
    obtain ⟨x, rfl, h1⟩ := reps1 hr
    rw [of_handle h1]
    exact ⟨_, (show (ReflectliteType.method (fun t => do Rtype.noPackHeld "Comparable" t; pure (.bool (← typeInfo t).comparable)) #[.agg #[H 39]]).run Tryd.prog w = .ok (.bool true) w by kernel_rfl), .bool⟩
end Go.Proofs.YthchmjdgepbjpaaDoor

-- tabvar