/-
  The state that a walk by abstract values goes through: what is known of a world, and what one operation may do to it. No conditions.
-/
import Derived.Test.YthchmjdgepbjpaaDoorAbsRep
import Derived.Laws.AppendOwn
import Derived.Laws.Rows
import Derived.Laws.Tables
import Derived.Laws.IdiomCopy
import Derived.KernelRfl
namespace Go.Proofs.YthchmjdgepbjpaaDoor
open Go.RowKit
set_option linter.unusedSimpArgs false
set_option linter.unusedVariables false

/-- the storage of a list: one that has no room has none -/
def roomOf : Value → Option Nat
  | .slice (some a) _ (_ + 1) => some a.block
  | _ => none
def RObj.own : RObj → Option Nat
  | .blk n => some n
  | .hdr v => roomOf v
/-- a list of one's own: what it holds, flat -/
def Owns (w : World) (e : TypeId) (E : Nat) (v : Value) (n : Nat) (fl : List Value) : Prop :=
  fl.length = n * E ∧ ((v = .slice none 0 0 ∧ n = 0) ∨ (∃ a, v = .slice (some a) 0 0 ∧ n = 0) ∨
    ∃ g cap cur fz, v = .slice (some ⟨g, 0, none⟩) n (cap + 1) ∧ w.heap[g]? = some (.cells cur e fz) ∧ n ≤ cap + 1 ∧ cap + 1 ≤ maxLen ∧ cur.size = (cap + 1) * E ∧ cur.toList.take (n * E) = fl ∧ (fz = (0, 0) ∨ (cur.size ≤ fz.1 ∧ E = 1)))
theorem Owns.of {w : World} {b : Nat} {e : TypeId} {E : Nat} {v : Value} {n : Nat} {fl : List Value} (h : w.ownsRow b e E v n fl) : Owns w e E v n fl := by
  obtain ⟨h1, h2⟩ := h
  refine ⟨h1, ?_⟩
  rcases h2 with h2 | ⟨g, cap, cur, rfl, h3, h4, h5, h6, h7⟩
  · exact .inl h2
  · cases cap with
    | zero => obtain rfl : n = 0 := by omega
              exact .inr (.inl ⟨_, rfl, rfl⟩)
    | succ cap => exact .inr (.inr ⟨g, cap, cur, _, rfl, h4, h5, h6, h7.1, h7.2, .inl rfl⟩)
theorem Owns.one {w : World} {e : TypeId} {E : Nat} {v : Value} {n : Nat} {fl : List Value} (h : Owns w e E v n fl) : Value.oneCell' v = true := by
  rcases h.2 with ⟨rfl, _⟩ | ⟨a, rfl, _⟩ | ⟨g, cap, cur, fz, rfl, _⟩ <;> rfl
def Live (h : Hp) (k : Nat) : Prop := ∃ b, h k = some b ∧ ¬ (b = .dead ∨ ∃ v, b = .rd v)
structure RowInfo (P : Program) (e : TypeId) (E : Nat) : Prop where
  pos : 0 < E
  info : ∃ i z, P.info? e = some i ∧ i.size = E ∧ i.bytes ≤ 1024 ∧ i.zero = some z ∧ z.cells.size = E
/-- the rows of a list of one's own -/
structure OwnRows (P : Program) (w : World) (R : Nat → Prop) (v : Value) (e : TypeId) (xs : List (List V)) (E : Nat) (fl : List Value) : Prop where
  owns : Owns w e E v xs.length fl
  info : RowInfo P e E
  len : ∀ row ∈ xs, row.length = E
  one : ∀ x ∈ fl, Value.oneCell' x = true
  rep : ∀ (i : Nat) (row : List V), xs[i]? = some row → Reps w R rho0 row ((fl.drop (i * E)).take E)
def BRep (P : Program) (w : World) (R : Nat → Prop) (ρ : Rho) : RObj → Blk → Prop
  | .blk b, .cells cs => ∃ xs t, w.heap[b]? = some (.cells (List.toArray xs) t (0, 0)) ∧ Reps w R ρ cs xs ∧ ∀ x ∈ xs, Value.oneCell' x = true
  | .hdr v, .rows e xs => ∃ E fl, OwnRows P w R v e xs E fl
  | _, .dead => True
  | .hdr x, .rd v => Rep w R rho0 v x
  | .blk b, .rd v => ∃ cs, v = .elt cs 0 ∧ Rep w R rho0 v (.pointer (some ⟨b, 0, none⟩))
  | _, _ => False
/-- what a call begins with: the world, what may be read, what may be written -/
structure Cx where
  w0 : World
  R0 : Nat → Prop
  M : Nat → Prop
structure Keeps (cx : Cx) (w : World) : Prop where
  os : w.os = cx.w0.os
  tape : w.tape = cx.w0.tape
  output : w.output = cx.w0.output
  size : cx.w0.heap.size ≤ w.heap.size
  block : ∀ k, k < cx.w0.heap.size → ¬ cx.M k → w.heap[k]? = cx.w0.heap[k]?
/-- package-level variables hold what is known of them -/
def Glob [Inhabited TabT] (w : World) (R : Nat → Prop) : Prop := (∀ g cs, globK g = some cs → Rep w R rho0 (.elt cs 0) (.pointer (some ⟨g, 0, none⟩))) ∧ ∀ g a, tabK g = some a → R g ∧ ∃ t fz, w.heap[g]? = some (.cells a t fz)
structure St [Inhabited TabT] (P : Program) (cx : Cx) (h : Hp) (w : World) (R : Nat → Prop) (ρ : Rho) : Prop where
  keeps : Keeps cx w
  brep : ∀ k o b, ρ k = some o → h k = some b → BRep P w R ρ o b
  apart : ∀ k k' o o' n, k ≠ k' → Live h k → Live h k' → ρ k = some o → ρ k' = some o' → o.own = some n → o'.own ≠ some n
  mine : ∀ k o n, Live h k → ρ k = some o → o.own = some n → ¬ R n ∧ n < w.heap.size ∧ (cx.w0.heap.size ≤ n ∨ cx.M n)
  rlt : ∀ n, R n → n < w.heap.size
  rold : ∀ n, R n → cx.R0 n ∨ cx.w0.heap.size ≤ n ∨ cx.M n
  glob : Glob w R

def Upon (P : Program) (K : Value → World → Prop) : Result Next → Prop
  | .ok (.value x) w' => K x w'
  | .ok .skip w' => K undef w'
  | .ok (.enter f args) w' => Calls P f args w' (fun e w'' => ∃ x, e = .returned x ∧ K x w'')
  | _ => False
/-- whatever block of its own the call has made is known of -/
def There (h : Hp) (ρ : Rho) : Prop := ∀ k o, ρ k = some o → h k ≠ none
theorem There.free {h : Hp} {ρ : Rho} (ht : There h ρ) {c : Nat} (hc : h c = none) : ρ c = none := by
  cases hq : ρ c with
  | none => rfl
  | some o => exact absurd hc (ht c o hq)
/-- what an operation yields: v; the blocks that it writes: ws -/
def OpOk [Inhabited TabT] (P : Program) (cx : Cx) (o : Oper) (e : Env) (h : Hp) (v : V) (ws : List (Nat × Blk)) : Prop :=
  ∀ R ρ a w, St P cx h w R ρ → (∀ x ∈ o.op.operands, Rep w R ρ (e.rd x) (Act.eval a x)) → There h ρ →
    Upon P (fun x w' => ∃ R' ρ', St P cx (h.sets ws) w' R' ρ' ∧ There (h.sets ws) ρ' ∧ Ext w R ρ w' R' ρ' ∧ Rep w' R' ρ' v x) ((execOp a.eval o).run P w)

/-- a store into one of the call's own blocks, number k -/
def StoreOk [Inhabited TabT] (P : Program) (cx : Cx) (o : Oper) (e : Env) (h : Hp) (k : Nat) (b : Blk) : Prop :=
  ∀ R ρ a w, St P cx h w R ρ → (∀ x ∈ o.op.operands, Rep w R ρ (e.rd x) (Act.eval a x)) → Upon P (fun x w' => x = undef ∧ St P cx (h.set k (some b)) w' R ρ ∧ Ext w R ρ w' R ρ) ((execOp a.eval o).run P w)
section
variable {P : Program} {cx : Cx} {h : Hp} {w w' : World} {R : Nat → Prop} {ρ : Rho} {c : Nat} {v : V} {x : Value}
theorem Glob.ext [Inhabited TabT] {R' : Nat → Prop} {ρ' : Rho} (h : Glob w R) (e : Ext w R ρ w' R' ρ') : Glob w' R' := ⟨fun g cs hg => (h.1 g cs hg).mono e.r e.heap (fun _ _ h => h), fun g a hg => by obtain ⟨h1, t, fz, h2⟩ := h.2 g a hg; exact ⟨e.r g h1, t, fz, by rw [e.heap g h1]; exact h2⟩⟩
theorem BRep.keep {o : RObj} {b : Blk} (hb : BRep P w R ρ o b) {w' R' ρ'} (e : Ext w R ρ w' R' ρ') (hk : ∀ n, o.own = some n → ¬ (b = .dead ∨ ∃ v, b = .rd v) → w'.heap[n]? = w.heap[n]?) : BRep P w' R' ρ' o b := by
  cases b with
  | dead => cases o <;> trivial
  | rd v =>
    cases o with
    | blk n => obtain ⟨cs, h1, h2⟩ := hb; exact ⟨cs, h1, h2.mono e.r e.heap (fun _ _ h => h)⟩
    | hdr x => exact Rep.mono hb e.r e.heap (fun _ _ h => h)
  | cells cs =>
    cases o with
    | hdr v => exact hb
    | blk n =>
      obtain ⟨xs, t, h1, h2, h3⟩ := hb
      exact ⟨xs, t, by rw [hk n rfl (by simp)]; exact h1, h2.ext e, h3⟩
  | rows el xs =>
    cases o with
    | blk n => exact hb
    | hdr v =>
      obtain ⟨E, fl, h1⟩ := hb
      refine ⟨E, fl, ⟨?_, h1.info, h1.len, h1.one, fun i row hi => (h1.rep i row hi).ext ⟨e.r, e.heap, fun _ _ h => h⟩⟩⟩
      obtain ⟨ha, hb⟩ := h1.owns
      refine ⟨ha, ?_⟩
      rcases hb with hb | hb | ⟨g, cap, cur, fz, rfl, hg, hr⟩
      · exact .inl hb
      · exact .inr (.inl hb)
      · exact .inr (.inr ⟨g, cap, cur, fz, rfl, by rw [hk g rfl (by simp)]; exact hg, hr⟩)

/-- memory has only grown: what is read may be more -/
theorem St.grow [Inhabited TabT] (hs : St P cx h w R ρ) {R' : Nat → Prop} (hz : w.heap.size ≤ w'.heap.size) (hb : ∀ n, n < w.heap.size → w'.heap[n]? = w.heap[n]?) (h1 : w'.os = w.os) (h2 : w'.tape = w.tape) (h3 : w'.output = w.output)
    (hR : ∀ n, R n → R' n) (hR' : ∀ n, R' n → R n ∨ (w.heap.size ≤ n ∧ n < w'.heap.size)) : St P cx h w' R' ρ ∧ Ext w R ρ w' R' ρ := by
  have e : Ext w R ρ w' R' ρ := ⟨hR, fun b hr => hb b (hs.rlt b hr), fun _ _ h => h⟩
  have hz0 := hs.keeps.size
  refine ⟨⟨⟨h1.trans hs.keeps.os, h2.trans hs.keeps.tape, h3.trans hs.keeps.output, by omega, fun k hk hm => (hb k (by omega)).trans (hs.keeps.block k hk hm)⟩, fun k o b hk ho => ?_, hs.apart, fun k o n hl hk hn => ?_, fun n hn => ?_, fun n hn => ?_, hs.glob.ext e⟩, e⟩
  · exact (hs.brep k o b hk ho).keep e fun n hn hd => hb n (hs.mine k o n ⟨b, ho, hd⟩ hk hn).2.1
  · obtain ⟨a1, a2, a3⟩ := hs.mine k o n hl hk hn
    exact ⟨fun hr => (hR' n hr).elim a1 fun ⟨h, _⟩ => by omega, by omega, a3⟩
  · rcases hR' n hn with h | h
    · have := hs.rlt n h; omega
    · exact h.2
  · rcases hR' n hn with h | h
    · exact hs.rold n h
    · exact .inr (.inl (by omega))
theorem St.drew [Inhabited TabT] (hs : St P cx h w R ρ) : St P cx h w.drew R ρ ∧ Ext w R ρ w.drew R ρ :=
  hs.grow (Nat.le_refl _) (fun _ _ => rfl) rfl rfl rfl (fun _ h => h) fun _ h => .inl h

theorem Hp.set_same (h : Hp) (k : Nat) (b : Option Blk) : h.set k b k = b := by simp [Hp.set]
theorem Hp.set_other (h : Hp) {k j : Nat} (b : Option Blk) (hj : j ≠ k) : h.set k b j = h j := by
  have : Nat.beq j k = false := by rw [← Bool.not_eq_true]; intro e; exact hj (Nat.eq_of_beq_eq_true e)
  simp [Hp.set, this]
theorem Env.set_same (e : Env) (k : Nat) (v : V) : e.set k v k = v := by simp [Env.set]
theorem Env.set_other (e : Env) {k j : Nat} (v : V) (hj : j ≠ k) : e.set k v j = e j := by
  have : Nat.beq j k = false := by rw [← Bool.not_eq_true]; intro e; exact hj (Nat.eq_of_beq_eq_true e)
  simp [Env.set, this]
def Rho.set (ρ : Rho) (k : Nat) (o : RObj) : Rho := fun j => if j = k then some o else ρ j

/-- a new block of one's own -/
theorem St.alloc [Inhabited TabT] (hs : St P cx h w R ρ) (hc : ρ c = none) {cs : List V} {xs : List Value} {t : TypeId} (hr : Reps w R ρ cs xs) (h1 : ∀ x ∈ xs, Value.oneCell' x = true) :
    St P cx (h.set c (some (.cells cs))) (w.alloc (.cells xs.toArray t)) R (ρ.set c (.blk w.heap.size)) ∧ Ext w R ρ (w.alloc (.cells xs.toArray t)) R (ρ.set c (.blk w.heap.size)) := by
  have hold : ∀ n, n < w.heap.size → (w.alloc (.cells xs.toArray t)).heap[n]? = w.heap[n]? := fun n hn => Below.heap_alloc w _ n hn
  have e : Ext w R ρ (w.alloc (.cells xs.toArray t)) R (ρ.set c (.blk w.heap.size)) := ⟨fun _ h => h, fun b hb => hold b (hs.rlt b hb), fun k o hk => by
    unfold Rho.set; rw [if_neg]; exact hk
    intro he; subst he; rw [hc] at hk; cases hk⟩
  have hz0 := hs.keeps.size
  have hlive : ∀ k, k ≠ c → Live (h.set c (some (.cells cs))) k → Live h k := fun k hk ⟨b, hb, hd⟩ => ⟨b, by rw [Hp.set_other h _ hk] at hb; exact hb, hd⟩
  have hrho : ∀ k o, (ρ.set c (.blk w.heap.size)) k = some o → (k = c ∧ o = .blk w.heap.size) ∨ (k ≠ c ∧ ρ k = some o) := fun k o hk => by
    unfold Rho.set at hk
    split at hk
    · rename_i he; simp at hk; exact .inl ⟨he, hk.symm⟩
    · rename_i he; exact .inr ⟨he, hk⟩
  refine ⟨⟨⟨hs.keeps.os, hs.keeps.tape, hs.keeps.output, by simp; omega, fun k hk hm => (hold k (by omega)).trans (hs.keeps.block k hk hm)⟩, fun k o b hk hb => ?_, fun k k' o o' n hne hl hl' hk hk' hn => ?_, fun k o n hl hk hn => ?_, fun n hn => ?_, hs.rold, hs.glob.ext e⟩, e⟩
  · rcases hrho k o hk with ⟨rfl, rfl⟩ | ⟨hk1, hk2⟩
    · rw [Hp.set_same] at hb
      cases hb
      exact ⟨xs, t, heap_alloc_new w _, hr.ext e, h1⟩
    · rw [Hp.set_other h _ hk1] at hb
      exact (hs.brep k o b hk2 hb).keep e fun n hn hd => hold n (hs.mine k o n ⟨b, hb, hd⟩ hk2 hn).2.1
  · rcases hrho k o hk with ⟨rfl, rfl⟩ | ⟨hk1, hk2⟩ <;> rcases hrho k' o' hk' with ⟨rfl, rfl⟩ | ⟨hk1', hk2'⟩
    · exact absurd rfl hne
    · intro hn'
      have := (hs.mine k' o' n (hlive _ hk1' hl') hk2' hn').2.1
      simp [RObj.own] at hn; omega
    · intro hn'
      have := (hs.mine k o n (hlive _ hk1 hl) hk2 hn).2.1
      simp [RObj.own] at hn'; omega
    · exact hs.apart k k' o o' n hne (hlive _ hk1 hl) (hlive _ hk1' hl') hk2 hk2' hn
  · rcases hrho k o hk with ⟨rfl, rfl⟩ | ⟨hk1, hk2⟩
    · simp [RObj.own] at hn; subst hn
      exact ⟨fun hr => by have := hs.rlt _ hr; omega, by simp, .inl (by omega)⟩
    · obtain ⟨a1, a2, a3⟩ := hs.mine k o n (hlive _ hk1 hl) hk2 hn
      exact ⟨a1, by simp; omega, a3⟩
  · have := hs.rlt n hn; simp; omega

/-- a write into one of the call's own blocks: the block is n, it holds now b' -/
theorem St.write [Inhabited TabT] (hs : St P cx h w R ρ) {k : Nat} {o : RObj} {n : Nat} {b b' : Blk} (hk : ρ k = some o) (hb : h k = some b) (hd : ¬ (b = .dead ∨ ∃ v, b = .rd v)) (hn : o.own = some n)
    (h1 : w'.os = w.os) (h2 : w'.tape = w.tape) (h3 : w'.output = w.output) (hz : w.heap.size = w'.heap.size) (hoth : ∀ j, j ≠ n → w'.heap[j]? = w.heap[j]?)
    (hnew : Ext w R ρ w' R ρ → BRep P w' R ρ o b') : St P cx (h.set k (some b')) w' R ρ ∧ Ext w R ρ w' R ρ := by
  obtain ⟨m1, m2, m3⟩ := hs.mine k o n ⟨b, hb, fun e => hd e⟩ hk hn
  have e : Ext w R ρ w' R ρ := ⟨fun _ h => h, fun j hj => hoth j (fun ej => m1 (ej ▸ hj)), fun _ _ h => h⟩
  have hl : ∀ j, Live (h.set k (some b')) j → Live h j := fun j ⟨bb, hbb, hdd⟩ => by
    by_cases ej : j = k
    · subst ej; exact ⟨b, hb, fun e => hd e⟩
    · exact ⟨bb, by rw [Hp.set_other h _ ej] at hbb; exact hbb, hdd⟩
  refine ⟨⟨⟨h1.trans hs.keeps.os, h2.trans hs.keeps.tape, h3.trans hs.keeps.output, by have := hs.keeps.size; omega, fun j hj hm => ?_⟩, fun j o' bb hj hbb => ?_, fun j j' o1 o2 m hne l1 l2 => hs.apart j j' o1 o2 m hne (hl j l1) (hl j' l2), fun j o' m l hj hm => ?_, fun m hm => hz ▸ hs.rlt m hm, hs.rold, hs.glob.ext e⟩, e⟩
  · rw [hoth j (fun ej => by subst ej; rcases m3 with m | m; omega; exact hm m)]
    exact hs.keeps.block j hj hm
  · by_cases ej : j = k
    · subst ej
      rw [Hp.set_same] at hbb
      cases hbb
      obtain rfl : o' = o := by rw [hk] at hj; exact (Option.some.inj hj).symm
      exact hnew e
    · rw [Hp.set_other h _ ej] at hbb
      exact (hs.brep j o' bb hj hbb).keep e fun m hm hdd => hoth m fun em => by
        subst em
        exact hs.apart k j o o' _ (Ne.symm ej) ⟨b, hb, fun e => hd e⟩ ⟨bb, hbb, fun e => hdd e⟩ hk hj hn hm
  · obtain ⟨a1, a2, a3⟩ := hs.mine j o' m (hl j l) hj hm
    exact ⟨a1, by omega, a3⟩

/-- less may be known of the call's own blocks -/
theorem St.less [Inhabited TabT] (hs : St P cx h w R ρ) {h0 : Hp} (hl : ∀ k b, h0 k = some b → h k = some b) : St P cx h0 w R ρ :=
  have l : ∀ k, Live h0 k → Live h k := fun k ⟨b, hb, hd⟩ => ⟨b, hl k b hb, hd⟩
  ⟨hs.keeps, fun k o b hk hb => hs.brep k o b hk (hl k b hb), fun k k' o o' n hne a b => hs.apart k k' o o' n hne (l k a) (l k' b), fun k o n a => hs.mine k o n (l k a), hs.rlt, hs.rold, hs.glob⟩
/-- an operation that only makes memory: R' what may be read behind it; hb: what block c holds now, if it has made it -/
def CalmOut (P : Program) (c : Nat) (hb : Option Blk) (v : V) (w : World) (R : Nat → Prop) (ρ : Rho) (x : Value) (w' : World) : Prop :=
  ∃ R' ρ', w'.os = w.os ∧ w'.tape = w.tape ∧ w'.output = w.output ∧ w.heap.size ≤ w'.heap.size ∧ (∀ n, n < w.heap.size → w'.heap[n]? = w.heap[n]?) ∧ (∀ n, R n → R' n) ∧ (∀ n, R' n → R n ∨ (w.heap.size ≤ n ∧ n < w'.heap.size)) ∧
    ((hb = none ∧ ρ' = ρ) ∨ ∃ b o, hb = some b ∧ ¬ (b = .dead ∨ ∃ v, b = .rd v) ∧ ρ c = none ∧ ρ' = ρ.set c o ∧ (∀ n, o.own = some n → w.heap.size ≤ n ∧ n < w'.heap.size ∧ ¬ R' n) ∧ BRep P w' R' ρ' o b) ∧ Rep w' R' ρ' v x
def Hp.setO (h : Hp) (c : Nat) : Option Blk → Hp
  | none => h
  | some b => h.set c (some b)
def CalmOk [Inhabited TabT] (P : Program) (cx : Cx) (c : Nat) (o : Oper) (e : Env) (h : Hp) (v : V) (hb : Option Blk) : Prop :=
  ∀ R ρ a w, St P cx h w R ρ → (∀ x ∈ o.op.operands, Rep w R ρ (e.rd x) (Act.eval a x)) → (hb ≠ none → ρ c = none) → Upon P (CalmOut P c hb v w R ρ) ((execOp a.eval o).run P w)
theorem CalmOut.same (hr : Rep w R ρ v x) : CalmOut P c none v w R ρ x w := ⟨R, ρ, rfl, rfl, rfl, Nat.le_refl _, fun _ _ => rfl, fun _ h => h, fun _ h => .inl h, .inl ⟨rfl, rfl⟩, hr⟩
theorem CalmOk.of_val [Inhabited TabT] {o : Oper} {e : Env} (H : ∀ R ρ a w, St P cx h w R ρ → (∀ x ∈ o.op.operands, Rep w R ρ (e.rd x) (Act.eval a x)) → ∃ x, (execOp a.eval o).run P w = .ok (.value x) w ∧ Rep w R ρ v x) : CalmOk P cx c o e h v none :=
  fun R ρ a w hs hr _ => by obtain ⟨x, h1, h2⟩ := H R ρ a w hs hr; rw [h1]; exact CalmOut.same h2
theorem CalmOut.out2 [Inhabited TabT] (hs : St P cx h w R ρ) {hb : Option Blk} (ho : CalmOut P c hb v w R ρ x w') : ∃ R' ρ', St P cx (h.setO c hb) w' R' ρ' ∧ Ext w R ρ w' R' ρ' ∧ (∀ k, k ≠ c → ρ' k = ρ k) ∧ (hb = none → ρ' = ρ) ∧ Rep w' R' ρ' v x := by
  obtain ⟨R', ρ', h1, h2, h3, hz, hbl, hR, hR', hn, hr⟩ := ho
  obtain ⟨s1, s2⟩ := hs.grow (R' := R') hz hbl h1 h2 h3 hR hR'
  rcases hn with ⟨rfl, rfl⟩ | ⟨b, o0, rfl, hd, hc, rfl, hn1, hbr⟩
  · exact ⟨R', ρ', s1, s2, fun _ _ => rfl, fun _ => rfl, hr⟩
  · have e2 : Ext w R ρ w' R' (ρ.set c o0) := ⟨s2.r, s2.heap, fun k o hk => by
      unfold Rho.set; rw [if_neg]; exact hk
      intro he; subst he; rw [hc] at hk; cases hk⟩
    have hrho : ∀ k o, (ρ.set c o0) k = some o → (k = c ∧ o = o0) ∨ (k ≠ c ∧ ρ k = some o) := fun k o hk => by
      unfold Rho.set at hk
      split at hk
      · rename_i he; simp at hk; exact .inl ⟨he, hk.symm⟩
      · rename_i he; exact .inr ⟨he, hk⟩
    have hlive : ∀ k, k ≠ c → Live (h.setO c (some b)) k → Live h k := fun k hk ⟨b', hb', hd'⟩ => ⟨b', by rw [Hp.setO, Hp.set_other h _ hk] at hb'; exact hb', hd'⟩
    refine ⟨R', _, ⟨s1.keeps, fun k o bb hk hbb => ?_, fun k k' o o' m hne l l' hk hk' hm => ?_, fun k o m l hk hm => ?_, s1.rlt, s1.rold, s1.glob⟩, e2, fun k hk => by simp [Rho.set, hk], fun h => (by cases h), hr⟩
    · rcases hrho k o hk with ⟨rfl, rfl⟩ | ⟨k1, k2⟩
      · rw [Hp.setO, Hp.set_same] at hbb; cases hbb; exact hbr
      · rw [Hp.setO, Hp.set_other h _ k1] at hbb
        exact (hs.brep k o bb k2 hbb).keep e2 fun m hm hdd => hbl m (hs.mine k o m ⟨bb, hbb, fun e => hdd e⟩ k2 hm).2.1
    · rcases hrho k o hk with ⟨rfl, rfl⟩ | ⟨k1, k2⟩ <;> rcases hrho k' o' hk' with ⟨rfl, rfl⟩ | ⟨k1', k2'⟩
      · exact absurd rfl hne
      · intro hm'
        have := (hs.mine k' o' m (hlive _ k1' l') k2' hm').2.1
        have := (hn1 m hm).1; omega
      · intro hm'
        have := (hs.mine k o m (hlive _ k1 l) k2 hm).2.1
        have := (hn1 m hm').1; omega
      · exact hs.apart k k' o o' m hne (hlive _ k1 l) (hlive _ k1' l') k2 k2' hm
    · rcases hrho k o hk with ⟨rfl, rfl⟩ | ⟨k1, k2⟩
      · obtain ⟨y1, y2, y3⟩ := hn1 m hm
        exact ⟨y3, y2, .inl (by have := hs.keeps.size; omega)⟩
      · obtain ⟨a1, a2, a3⟩ := hs.mine k o m (hlive _ k1 l) k2 hm
        exact ⟨fun hr' => (hR' m hr').elim a1 fun ⟨q, _⟩ => by omega, by omega, a3⟩
theorem Upon.mono {r : Result Next} {K K' : Value → World → Prop} (hk : ∀ x w, K x w → K' x w) (hu : Upon P K r) : Upon P K' r := by
  cases r with
  | ok n w =>
    cases n <;> simp only [Upon] at hu ⊢
    case value u => exact hk _ _ hu
    case skip => exact hk _ _ hu
    case enter f args => exact hu.mono fun e w'' ⟨x, he, hx⟩ => ⟨x, he, hk _ _ hx⟩
  | halt y w => exact hu
theorem Hp.mono_set (h : Hp) (k : Nat) (b : Blk) : ∀ j, h j ≠ none → h.set k (some b) j ≠ none := fun j hj => by
  by_cases e : j = k
  · subst e; rw [Hp.set_same]; simp
  · rw [Hp.set_other h _ e]; exact hj
theorem Hp.mono_sets : ∀ (ws : List (Nat × Blk)) (h : Hp), ∀ j, h j ≠ none → h.sets ws j ≠ none
  | [], h, j, hj => hj
  | (k, b) :: r, h, j, hj => Hp.mono_sets r _ j (Hp.mono_set h k b j hj)
theorem StoreOk.ok [Inhabited TabT] {o : Oper} {e : Env} {k : Nat} {b : Blk} (hok : StoreOk P cx o e h k b) : OpOk P cx o e h .und [(k, b)] :=
  fun R ρ a w hs hr ht => (hok R ρ a w hs hr).mono fun x w' ⟨hx, s1, s2⟩ => by subst hx; exact ⟨R, ρ, s1, fun j o hj => Hp.mono_set h k b j (ht j o hj), s2, .und⟩
theorem CalmOk.ok0 [Inhabited TabT] {o : Oper} {e : Env} (hok : CalmOk P cx c o e h v none) : OpOk P cx o e h v [] :=
  fun R ρ a w hs hr ht => (hok R ρ a w hs hr fun hn => absurd rfl hn).mono fun x w' ho => by
    obtain ⟨R', ρ', s1, s2, s3, s4, s5⟩ := ho.out2 hs
    obtain rfl := s4 rfl
    exact ⟨R', ρ', s1, ht, s2, s5⟩
theorem CalmOk.ok1 [Inhabited TabT] {o : Oper} {e : Env} {b : Blk} (hc : h c = none) (hok : CalmOk P cx c o e h v (some b)) : OpOk P cx o e h v [(c, b)] :=
  fun R ρ a w hs hr ht => (hok R ρ a w hs hr fun hn => ht.free hc).mono fun x w' ho => by
    obtain ⟨R', ρ', s1, s2, s3, s4, s5⟩ := ho.out2 hs
    refine ⟨R', ρ', s1, fun j o hj => ?_, s2, s5⟩
    by_cases e : j = c
    · subst e; simp only [Hp.sets, Hp.set_same]; simp
    · rw [s3 j e] at hj; exact Hp.mono_set h c b j (ht j o hj)
end
end Go.Proofs.YthchmjdgepbjpaaDoor

-- tabvar