/-
  What every law of this seat needs behind its walk: the arguments read as they did, because the call has only made new memory. Condition: none beyond the walk's own.
-/
import Derived.Test.YtjjdblfnffcdlaaRows
import Derived.WalkKit
import Derived.ProofKit
import Derived.OpenShut
import Derived.Lib.SmallJoins
import Derived.ShutString
import Derived.Test.YtjjdblfnffcdlaaBase
namespace Go.Proofs.Ytjjdblfnffcdlaa
open Go.ChangeShapes Go.WideShapes Go.ChangeAt Go.RowKit Go.Joins
open Go.ChangeMaps (open_string shut_string)
set_option linter.unusedSimpArgs false
set_option linter.unusedVariables false

theorem Try.own : ownKnob Try.prog.godebug = none := by kernel_rfl
theorem Try.laidOut : laidOutB Try.prog = true := by kernel_rfl

section
variable {H : Type} {enc : TypeId × Value → H}
theorem trodAll_stays {W W' : World} (hb : Below W.heap.size W W') {sp : Nat → Bool} : ∀ (ts : List TypeId) (vs : List Value) (ds : List (DataW H)) (ps : List MemPlace),
    (∀ t, t ∈ ts → Try.prog.readableRec t = true ∧ t < Try.prog.types.size) → DataW.TrodAll enc Try.prog W 0 (fun _ => true) true ts vs ds ps → (∀ x ∈ ps, x.block < W.heap.size) → (∀ p ∈ ps, sp p.block = true) →
    DataW.TrodAll enc Try.prog W' 0 sp true ts vs ds ps
  | [], [], [], _, _, h, _, _ => h
  | t :: ts, v :: vs, d :: ds, ps, ht, h, hlt, hs => by
    obtain ⟨p, q, h1, h2, rfl⟩ := h
    have ht0 := ht t (by simp)
    refine ⟨p, q, WideElems.Trod_stays Try.laidOut ht0.1 ht0.2 h1 (fun x hx => hb.same (hlt x (by simp [hx]))) (fun x hx => hs x (by simp [hx])), ?_, rfl⟩
    exact trodAll_stays hb ts vs ds q (fun t h => ht t (by simp [h])) h2 (fun x hx => hlt x (by simp [hx])) (fun x hx => hs x (by simp [hx]))
  | [], _ :: _, _, _, _, h, _, _ => h.elim
  | [], [], _ :: _, _, _, h, _, _ => h.elim
  | _ :: _, [], _, _, _, h, _, _ => h.elim
  | _ :: _, _ :: _, [], _, _, h, _, _ => h.elim

theorem post_of_below {P : Program} {f : Func} {s : ChangeSpec} {apart fresh handsOn again : Bool} {W W' : World} {args : Array Value} {v : Value} {ds gs : List (DataW H)} {before pa pv : List MemPlace}
    (hW : DataW.Whole enc P f.params.toList s.vars apart W args.toList ds gs before)
    (hres : ∀ (b : Nat) (sp : Nat → Bool) (hd : Bool), DataW.TrodAll enc P W' b sp hd f.resultTypes.toList (v.resultList f.resultTypes.size) (s.fn H (ds ++ gs)).results [])
    (hargs : ∀ sp : Nat → Bool, (∀ p ∈ before, sp p.block = true) → DataW.TrodAll enc P W' 0 sp true f.params.toList args.toList (s.fn H (ds ++ gs)).args pa)
    (hvars : ∀ sp : Nat → Bool, (∀ p ∈ before, sp p.block = true) → DataW.TrodVars enc P W' sp s.vars (s.fn H (ds ++ gs)).vars pv)
    (hps : before = pa ++ pv) (hb : Below W.heap.size W W')
    (hok : ∀ (j : Nat) (t : TypeId) (r : Value), f.resultTypes[j]? = some t → (v.resultList f.resultTypes.size)[j]? = some r → Value.okWide P W' .any 0 t r) :
    s.post enc P f apart fresh handsOn again W args v W' := by
  have hlt : ∀ p ∈ before, p.block < W.heap.size := fun p hp => hW.lt p hp
  have hold : ∀ p ∈ before, (fun b => decide (b < W.heap.size)) p.block = true := fun p hp => by simpa using hlt p hp
  refine ⟨ds, gs, before, [], pa, pv, hW, hres _ _ _, hargs _ hold, hvars _ hold, World.keptBut_mono (fun p hp => ⟨hp, ?_⟩) (hb.frame (· ∈ before)), fun _ => ?_⟩
  · rw [hps, List.mem_append] at hp
    exact Or.inr hp
  · obtain ⟨_, _, _, _, _, hz, hn⟩ := hW
    refine ⟨hok, _, _, ([] ++ pa) ++ pv, ⟨[] ++ pa, pv, trodAll_append (hargs _ (fun _ _ => rfl)) (hres _ _ _), hvars _ (fun _ _ => rfl), rfl, ?_, ?_⟩, ?_⟩
    · intro b off hp
      have hin : MemPlace.cell b off ∈ before := by rw [hps]; simpa using hp
      rw [hb.frozen (hlt _ hin)]
      exact hz b off hin
    · intro ha
      have := hn ha
      rw [hps] at this
      simpa using this
    · intro p hp _
      rw [hps]
      simpa using hp

/-- BEHIND A LAW's WALK: it answered true and made memory alone: what the statement asks. -/
theorem law_post {f : Func} {s : ChangeSpec} {apart fresh handsOn again : Bool} {W W' : World} {args : Array Value} {ds gs : List (DataW H)} {before : List MemPlace} {T : TypeId}
    (hW : DataW.Whole enc Try.prog f.params.toList s.vars apart W args.toList ds gs before) (hg : Grew W W') (hT : Try.prog.underlying T = some .bool) (hr : f.resultTypes = #[T]) (hv : s.vars = [])
    (hfn : ∀ gs', gs = gs' → gs' = [] → s.fn H (ds ++ gs') = { results := [.lit (.bool true)], args := ds }) (ht : ∀ t, t ∈ f.params.toList → Try.prog.readableRec t = true ∧ t < Try.prog.types.size) :
    s.post enc Try.prog f apart fresh handsOn again W args (.bool true) W' := by
  have hW0 := hW
  obtain ⟨p, q, hA, hV, hpq, hfz, hnd⟩ := hW0
  have hgs : gs = [] ∧ q = [] := by
    rw [hv] at hV
    cases gs with
    | nil => exact ⟨rfl, hV⟩
    | cons d ds => exact hV.elim
  obtain ⟨rfl, rfl⟩ := hgs
  have e := hfn [] rfl rfl
  refine post_of_below (pa := p) (pv := []) hW ?_ ?_ ?_ (by simpa using hpq) hg ?_
  · intro b sp hd
    rw [e, hr]
    exact trodAll_mk1 (shut_bool hT true)
  · intro sp hs
    rw [e]
    exact trodAll_stays hg _ _ _ _ ht hA (fun x hx => hW.lt x (by rw [hpq]; simpa using hx)) (fun x hx => hs x (by rw [hpq]; simpa using hx))
  · intro sp _
    rw [e, hv]
    rfl
  · exact ok_one hr rfl (okWide_bool_mk hT true)
end

/-- a text that came in, as a list of bytes -/
theorem open_text {H : Type} {enc : TypeId × Value → H} {W : World} {base : Nat} {sp : Nat → Bool} {hd : Bool} {n : Nat} {T : TypeId} {v : Value} {y : DataW H × List MemPlace} (hT : Try.prog.underlying T = some .string)
    (h : DataW.trod enc Try.prog W base sp hd n T [v] = some y) : ∃ l : Bs, v = S l ∧ l.length ≤ maxLen ∧ y = (.lit (.string l), []) := by
  obtain ⟨s, hs, hy, hm⟩ := DataW.trod_string hT h
  have e : s.data.toList.length = s.size := by rw [Array.length_toList]; rfl
  refine ⟨s.data.toList, by simpa using hs, ?_, hy⟩
  rw [e]; exact hm
theorem open_text' {H : Type} {enc : TypeId × Value → H} {W : World} {base : Nat} {sp : Nat → Bool} {hd : Bool} {T : TypeId} {r : Reach} {b0 : Nat} {v : Value} {d : DataW H} {ps : List MemPlace} (hT : Try.prog.underlying T = some .string)
    (hv : Value.okWide Try.prog W r b0 T v) (h : DataW.Trod enc Try.prog W base sp hd T v d ps) : ∃ l : Bs, v = S l ∧ l.length ≤ maxLen ∧ d = .lit (.string l) ∧ ps = [] := by
  obtain ⟨s, rfl⟩ := okWide_string hT hv
  obtain ⟨n, hn⟩ := h
  obtain ⟨l, h1, h2, h3⟩ := open_text hT (by simpa [Value.cells] using hn)
  simp only [Prod.mk.injEq] at h3
  exact ⟨l, h1, h2, h3.1, h3.2⟩
theorem cells_Span : Try.prog.cellsOf 23 = 2 := by kernel_rfl
theorem open_span {H : Type} {enc : TypeId × Value → H} {W : World} {base : Nat} {sp : Nat → Bool} {hd : Bool} {r : Reach} {b0 : Nat} {v : Value} {d : DataW H} {ps : List MemPlace}
    (hv : Value.okWide Try.prog W r b0 23 v) (h : DataW.Trod enc Try.prog W base sp hd 23 v d ps) : ∃ f t : Bs, v = .agg #[S f, S t] ∧ f.length ≤ maxLen ∧ t.length ≤ maxLen := by
  obtain ⟨v0, v1, y0, y1, n, rfl, _, _, h0, h1⟩ := open_agg2 Try.underlying23 (by kernel_rfl) cells_Span hv h
  obtain ⟨f, rfl, hf, _⟩ := open_text Try.underlying9 h0
  obtain ⟨t, rfl, ht, _⟩ := open_text Try.underlying9 h1
  exact ⟨f, t, rfl, hf, ht⟩
end Go.Proofs.Ytjjdblfnffcdlaa
