/-
  What every law of this seat needs behind its walk: the arguments read as they did, because the call has only made new memory. Condition: none beyond the walk's own.
-/
import Derived.Test.YthchmjdgepbjpaaDoorRows
import Derived.ProofKit
import Derived.OpenShut
import Derived.Lib.SmallJoins
import Derived.ShutString
import Derived.Test.YthchmjdgepbjpaaDoorAbsSeat
import Derived.Test.YthchmjdgepbjpaaDoorAbsIn
namespace Go.Proofs.YthchmjdgepbjpaaDoor
open Go.ChangeShapes Go.WideShapes Go.ChangeAt Go.RowKit Go.Joins
open Go.ChangeMaps (open_string shut_string)
set_option linter.unusedSimpArgs false
set_option linter.unusedVariables false

theorem Tryd.own : ownKnob Tryd.prog.godebug = none := by kernel_rfl
theorem Tryd.laidOut : laidOutB Tryd.prog = true := by kernel_rfl

section
variable {H : Type} {enc : TypeId × Value → H}
theorem trodAll_stays {W W' : World} (hb : Below W.heap.size W W') {sp : Nat → Bool} : ∀ (ts : List TypeId) (vs : List Value) (ds : List (DataW H)) (ps : List MemPlace),
    (∀ t, t ∈ ts → Tryd.prog.readableRec t = true ∧ t < Tryd.prog.types.size) → DataW.TrodAll enc Tryd.prog W 0 (fun _ => true) true ts vs ds ps → (∀ x ∈ ps, x.block < W.heap.size) → (∀ p ∈ ps, sp p.block = true) →
    DataW.TrodAll enc Tryd.prog W' 0 sp true ts vs ds ps
  | [], [], [], _, _, h, _, _ => h
  | t :: ts, v :: vs, d :: ds, ps, ht, h, hlt, hs => by
    obtain ⟨p, q, h1, h2, rfl⟩ := h
    have ht0 := ht t (by simp)
    refine ⟨p, q, WideElems.Trod_stays Tryd.laidOut ht0.1 ht0.2 h1 (fun x hx => hb.same (hlt x (by simp [hx]))) (fun x hx => hs x (by simp [hx])), ?_, rfl⟩
    exact trodAll_stays hb ts vs ds q (fun t h => ht t (by simp [h])) h2 (fun x hx => hlt x (by simp [hx])) (fun x hx => hs x (by simp [hx]))
  | [], _ :: _, _, _, _, h, _, _ => h.elim
  | [], [], _ :: _, _, _, h, _, _ => h.elim
  | _ :: _, [], _, _, _, h, _, _ => h.elim
  | _ :: _, _ :: _, [], _, _, h, _, _ => h.elim

theorem post_of_below {P : Program} {f : Func} {s : ChangeSpec} {apart fresh handsOn again : Bool} {W W' : World} {args : Array Value} {v : Value} {ds gs : List (DataW H)} {before pa pv : List MemPlace}
    (hW : DataW.Whole enc P f.params.toList s.vars apart W args.toList ds gs before)
    (hres : ∀ (b : Nat) (sp : Nat → Bool) (hd : Bool), DataW.TrodAll enc P W' b sp hd f.resultTypes.toList (v.resultList f.resultTypes.size) (s.fn H (ds ++ gs)).results [])
    (hargs : ∀ sp : Nat → Bool, (∀ p ∈ before, sp p.block = true) → DataW.TrodAll enc P W' 0 sp true f.params.toList args.toList (s.fn H (ds ++ gs)).args pa)
    (hvars : ∀ sp : Nat → Bool, (∀ p ∈ before, sp p.block = true) → DataW.TrodVars enc P W' sp s.vars (s.fn H (ds ++ gs)).vars pv)
    (hps : before = pa ++ pv) (hb : Below W.heap.size W W')
    (hok : ∀ (j : Nat) (t : TypeId) (r : Value), f.resultTypes[j]? = some t → (v.resultList f.resultTypes.size)[j]? = some r → Value.okWide P W' .any 0 t r) :
    s.post enc P f apart fresh handsOn again W args v W' := by
  have hlt : ∀ p ∈ before, p.block < W.heap.size := fun p hp => hW.lt p hp
  have hold : ∀ p ∈ before, (fun b => decide (b < W.heap.size)) p.block = true := fun p hp => by simpa using hlt p hp
  refine ⟨ds, gs, before, [], pa, pv, hW, hres _ _ _, hargs _ hold, hvars _ hold, World.keptBut_mono (fun p hp => ⟨hp, ?_⟩) (hb.frame (· ∈ before)), fun _ => ?_⟩
  · rw [hps, List.mem_append] at hp
    exact Or.inr hp
  · obtain ⟨_, _, _, _, _, hz, hn⟩ := hW
    refine ⟨hok, _, _, ([] ++ pa) ++ pv, ⟨[] ++ pa, pv, trodAll_append (hargs _ (fun _ _ => rfl)) (hres _ _ _), hvars _ (fun _ _ => rfl), rfl, ?_, ?_⟩, ?_⟩
    · intro b off hp
      have hin : MemPlace.cell b off ∈ before := by rw [hps]; simpa using hp
      rw [hb.frozen (hlt _ hin)]
      exact hz b off hin
    · intro ha
      have := hn ha
      rw [hps] at this
      simpa using this
    · intro p hp _
      rw [hps]
      simpa using hp

set_option maxRecDepth 100000 in
/-- BEHIND A LAW's WALK: it answered true and made memory alone: what the statement asks. -/
theorem law_post {f : Func} {s : ChangeSpec} {apart fresh handsOn again : Bool} {W W' : World} {args : Array Value} {ds gs : List (DataW H)} {before : List MemPlace} {T : TypeId}
    (hW : DataW.Whole enc Tryd.prog f.params.toList s.vars apart W args.toList ds gs before) (hg : Below W.heap.size W W') (hT : Tryd.prog.underlying T = some .bool) (hr : f.resultTypes = #[T]) (hv : s.vars = [])
    (hfn : ∀ gs', gs = gs' → gs' = [] → s.fn H (ds ++ gs') = { results := [.lit (.bool true)], args := ds }) (ht : ∀ t, t ∈ f.params.toList → Tryd.prog.readableRec t = true ∧ t < Tryd.prog.types.size) :
    s.post enc Tryd.prog f apart fresh handsOn again W args (.bool true) W' := by
  have hW0 := hW
  obtain ⟨p, q, hA, hV, hpq, hfz, hnd⟩ := hW0
  have hgs : gs = [] ∧ q = [] := by
    rw [hv] at hV
    cases gs with
    | nil => exact ⟨rfl, hV⟩
    | cons d ds => exact hV.elim
  obtain ⟨rfl, rfl⟩ := hgs
  have e := hfn [] rfl rfl
  refine post_of_below (pa := p) (pv := []) hW ?_ ?_ ?_ (by simpa using hpq) hg ?_
  · intro b sp hd
    rw [e, hr]
    exact trodAll_mk1 (shut_bool hT true)
  · intro sp hs
    rw [e]
    exact trodAll_stays hg _ _ _ _ ht hA (fun x hx => hW.lt x (by rw [hpq]; simpa using hx)) (fun x hx => hs x (by rw [hpq]; simpa using hx))
  · intro sp _
    rw [e, hv]
    rfl
  · exact ok_one hr rfl (okWide_bool_mk hT true)
end
/-- A LAW BY ITS CONTRACT -/
theorem law_calls [Inhabited TabT] {P : Program} {f : FuncId} {fn : Func} {c : Code} {args : List V} {W : World} {xs : List Value} {b : Bool} (hf : P.funcs[f]? = some fn) (hname : (fn.name == "runtime.NumGoroutine") = false) (hb : fn.body = some c) (h : Fn P f args (.bool b)) (hg : Glob W (allR W)) (hr : Reps W (allR W) rho0 args xs) {post : Ending → World → Prop}
    (k : ∀ W', Below W.heap.size W W' → post (.returned (.bool b)) W') : Calls P f xs.toArray W post := by
  have := h.run W (allR W) xs (fun _ h => h) hg hr
  rw [run_enter hf hname hb] at this
  exact (show Calls P f xs.toArray W _ from this).mono fun e W' ⟨x, he, hb, R', _, _, hx⟩ => by
    cases hx with
    | bool => subst he; exact k W' hb
end Go.Proofs.YthchmjdgepbjpaaDoor

-- tabvar