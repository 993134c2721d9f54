/-
  The arguments of FaultWraps as words; the first text is no longer than memory reaches. No conditions.
-/
import Derived.Test.YtciiiceloghkmaaDoorAbsLaw
import Derived.Test.YtciiiceloghkmaaDoorLaw3
import Derived.SizedLaws
namespace Go.Proofs.YtciiiceloghkmaaDoor
open Go.ChangeShapes Go.WideShapes Go.ChangeAt Go.RowKit Go.Joins
set_option linter.unusedSimpArgs false
set_option linter.unusedVariables false
section
variable {H : Type} {enc : TypeId × Value → H} {w : World} {base : Nat} {sp : Nat → Bool} {hd : Bool} {r : Go.Reach} {b0 : Nat} {v : Value} {d : DataW H} {ps : List MemPlace}
set_option maxRecDepth 100000 in
theorem in_int (hv : Value.okWide Tryd.prog w r b0 3 v) (h : DataW.Trod enc Tryd.prog w base sp hd 3 v d ps) : ∃ n : Int, in64 n ∧ Rep w (allR w) rho0 (.int .i64 n) v := by
  obtain ⟨s, rfl⟩ := okWide_int Tryd.underlying3 hv
  obtain ⟨u, ⟨n, us, e, hl, rfl⟩, hr⟩ := open_one (n := 1) (sh := (.i .i64 .nil)) (by kernel_rfl) rfl h
  cases e
  exact ⟨n, by simpa [Lit.wf, IntKind.min, IntKind.max, IntKind.signed, IntKind.bits, in64] using hl, hr⟩
set_option maxRecDepth 100000 in
theorem in_textsW (hv : Value.okWide Tryd.prog w r b0 23 v) (h : DataW.Trod enc Tryd.prog w base sp hd 23 v d ps) : ∃ l : List Bs, True ∧ Rep w (allR w) rho0 (.sl (l.map encW)) v := by
  obtain ⟨a, n, c, rfl⟩ := okWide_slice Tryd.underlying23 hv
  obtain ⟨u, ⟨rows, us, e, hrows, rfl⟩, hr⟩ := open_one (n := 2) (sh := (.sl (.s .nil) .nil)) (by kernel_rfl) rfl h
  cases e
  obtain ⟨l, rfl⟩ := rows_map (f := encW) (rows := rows) fun row hrow => by
    obtain ⟨f, u4, rfl, _, rfl⟩ := hrows row hrow
    exact ⟨f, rfl⟩
  exact ⟨l, trivial, hr⟩
theorem weightsAll_mem {P : Program} {e : TypeId} : ∀ (ds : List (DataW H)) (d : DataW H), d ∈ ds → ∀ n ∈ d.weights P e, n ∈ DataW.weightsAll P e ds
  | [], d, h, _, _ => by simp at h
  | x :: ds, d, h, n, hn => by
    rw [DataW.weightsAll]
    rcases List.mem_cons.1 h with rfl | h
    · exact List.mem_append_left _ hn
    · exact List.mem_append_right _ (weightsAll_mem ds d h n hn)
set_option maxRecDepth 100000 in
theorem first_text (h : DataW.Trod enc Tryd.prog w base sp hd 23 v d ps) (l : List Bs) (hr : Rep w (allR w) rho0 (.sl (l.map encW)) v) (hw : ∀ n ∈ d.weights Tryd.prog 23, n ≤ reachBytes) : ∀ q, l[0]? = some q → q.length ≤ 140737488351232 := by
  intro q hq
  obtain ⟨fuel, h⟩ := h
  generalize hrows : l.map encW = rows at hr
  have hlen : 0 < l.length := (List.getElem?_eq_some_iff.1 hq).1
  have hrow : rows[0]? = some (encW q) := by rw [← hrows, List.getElem?_map, hq]; rfl
  cases hr with
  | slnil => simp at hrow
  | sl f hn hc hm hR hE hf h1 hrep =>
    subst hn
    rcases Go.Deep.open_slice Tryd.underlying23 h with ⟨hcs, _⟩ | ⟨ad, len, cap, m, fu, D, Pl, hcs, hb, hl, hm2, hmm, hx, hall⟩
    · simp [Value.cells] at hcs
    simp [Value.cells] at hcs
    obtain ⟨rfl, rfl, rfl⟩ := hcs
    obtain ⟨rfl, rfl⟩ := Prod.mk.inj hx
    have hn0 : 0 < rows.length := (List.getElem?_eq_some_iff.1 hrow).1
    obtain ⟨cs', hc1, hc2⟩ := hall 0 (by split at hmm <;> omega)
    obtain ⟨s, rfl, hds, _⟩ := DataW.trod_string Tryd.underlying9 hc2
    obtain ⟨_, q2, q3⟩ := World.cells?_some hc1
    have hE0 := hE (encW q) (List.mem_of_getElem? hrow)
    have hcell := q3 0 (by rw [← q2]; simp)
    have hf0 := hf 0 (by rw [← hE0]; simp; omega)
    have hr0 := hrep 0 (encW q) 0 (.str q) hrow rfl
    simp at hcell hf0 hr0
    have hs := hr0.of_str
    have : q = s.data.toList := by
      simp [Addr.add] at hcell
      rw [hf0] at hcell
      rw [Option.some.inj hcell] at hs
      simp only [S, Value.string.injEq] at hs
      have := congrArg (fun z : ByteArray => z.data.toList) hs
      simpa using this.symm
    have hin : q.length ∈ DataW.weights Tryd.prog 23 (.slice ((List.range rows.length).map D) ((List.range (m - rows.length)).map fun j => D (rows.length + j))) := by
      have hds' : D 0 = .lit (.string s.data.toList) := (Prod.mk.inj hds).1
      rw [DataW.weights, Tryd.underlying23]
      refine List.mem_cons_of_mem _ (List.mem_append_left _ (weightsAll_mem _ (D 0) (List.mem_map.2 ⟨0, List.mem_range.2 hn0, rfl⟩) _ ?_))
      rw [hds', DataW.weights, this]
      exact List.mem_singleton.2 rfl
    exact hw _ hin
end
end Go.Proofs.YtciiiceloghkmaaDoor
