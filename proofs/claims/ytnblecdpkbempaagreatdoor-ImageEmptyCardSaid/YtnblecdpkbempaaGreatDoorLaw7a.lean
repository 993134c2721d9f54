/-
  Ops: what is written is read; what is known of them. No conditions.
-/
import Derived.Test.YtnblecdpkbempaaGreatDoorOpC
import Derived.Test.YtnblecdpkbempaaGreatDoorLetI
import Derived.Test.YtnblecdpkbempaaGreatDoorFrame
namespace Go.Proofs.YtnblecdpkbempaaGreatDoor
open Go.RowKit
set_option linter.unusedSimpArgs false
set_option linter.unusedVariables false

theorem TK.num_of {t : TK} {k : Nat} {r : Bs} (hb : t.b = true) (hs : t.s = Go.Proofs.YtnblecdpkbempaaGreatDoor.num k ++ r) (hk : k < 281474976710656) : t.num.s = r ∧ t.num.b = true ∧ t.numR = k := by
  have h := takeF_num k r hk
  rw [← hs] at h
  unfold TK.num TK.numR
  rw [if_pos hb, if_pos hb]
  simp [takeR, takeOk, takeV, h]
theorem TK.text_of {t : TK} {x r : Bs} (hb : t.b = true) (hs : t.s = Go.Proofs.YtnblecdpkbempaaGreatDoor.text x ++ r) (hx : x.length ≤ 255) : t.text.s = r ∧ t.text.b = true ∧ t.textR = x := by
  have h := textF_text x r 255 (by omega) (by omega)
  rw [← hs] at h
  unfold TK.text TK.textR
  rw [if_pos hb, if_pos hb]
  simp [Go.Proofs.YtnblecdpkbempaaGreatDoor.textR, textOk, textV, h]
theorem TK.flag_of {t : TK} {x : Bool} {r : Bs} (hb : t.b = true) (hs : t.s = (if x then [1] else [0]) ++ r) : t.flag.s = r ∧ t.flag.b = true ∧ t.flagR = x := by
  have h := flagF_flag x r
  rw [← hs] at h
  unfold TK.flag TK.flagR
  rw [if_pos hb, if_pos hb]
  simp [Go.Proofs.YtnblecdpkbempaaGreatDoor.flagR, flagOk, flagV, h]
theorem TK.many_of {t : TK} {k : Nat} {r : Bs} {m code : Int} (hb : t.b = true) (hs : t.s = Go.Proofs.YtnblecdpkbempaaGreatDoor.num k ++ r) (hk : k < 281474976710656) (hm : (k : Int) ≤ m) : (t.many m code).s = r ∧ (t.many m code).b = true ∧ t.manyR m code = k := by
  obtain ⟨h1, h2, h3⟩ := TK.num_of hb hs hk
  obtain ⟨e1, e2⟩ := TK.many_fine (m := m) (code := code) h2 (by rw [h3]; exact hm)
  rw [e1, e2]; exact ⟨h1, h2, h3⟩
theorem readRs_of : ∀ (l : List Rw) (t : TK) (acc : List Rw) (r : Bs), t.b = true → t.s = rsBytes l ++ r → (∀ w ∈ l, w.k.length ≤ 255 ∧ w.v.length ≤ 255 ∧ 0 ≤ w.n ∧ w.n < 281474976710656) → ∃ t', readRs l.length t acc = (t', acc ++ l) ∧ t'.s = r ∧ t'.b = true
  | [], t, acc, r, hb, hs, _ => ⟨t, by simp [readRs], by simpa [rsBytes] using hs, hb⟩
  | w :: l, t, acc, r, hb, hs, hw => by
    obtain ⟨q1, q2, q3, q4⟩ := hw w (List.mem_cons_self ..)
    have hs' : t.s = Go.Proofs.YtnblecdpkbempaaGreatDoor.text w.k ++ (Go.Proofs.YtnblecdpkbempaaGreatDoor.text w.v ++ (Go.Proofs.YtnblecdpkbempaaGreatDoor.num w.n.toNat ++ (rsBytes l ++ r))) := by
      rw [hs]; simp [rsBytes, rwBytes, List.append_assoc]
    obtain ⟨a1, a2, a3⟩ := TK.text_of hb hs' (by omega)
    obtain ⟨b1, b2, b3⟩ := TK.text_of a2 a1 (by omega)
    obtain ⟨c1, c2, c3⟩ := TK.num_of b2 b1 (by omega)
    obtain ⟨t', d1, d2, d3⟩ := readRs_of l t.text.text.num (acc ++ [w]) r c2 c1 fun w hw' => hw w (List.mem_cons_of_mem _ hw')
    refine ⟨t', ?_, d2, d3⟩
    rw [List.length_cons, readRs, a3, b3, c3, Int.toNat_of_nonneg q3, d1, List.append_assoc]; rfl
theorem readA_of (a : AnV) (r : Bs) (h : anB a = true) : (readA (bytesA a ++ r)).2 = a ∧ (readA (bytesA a ++ r)).1.s = r ∧ (readA (bytesA a ++ r)).1.b = true := by
  obtain ⟨⟨b1, b2⟩, ⟨b3, b4⟩, b5, b8, b9⟩ := an_bounds h
  have hs : (tk0 (bytesA a ++ r)).s = num a.code.toNat ++ (text a.val ++ (num a.ver.toNat ++ (num a.rows.length ++ (rsBytes a.rows ++ r)))) := by
    show bytesA a ++ r = _
    simp [bytesA, headA, List.append_assoc]
  obtain ⟨n1, n2, n3⟩ := TK.num_of (t := tk0 (bytesA a ++ r)) rfl hs (by omega)
  obtain ⟨k1, k2, k3⟩ := TK.text_of n2 n1 (by omega)
  obtain ⟨e1, e2, e3⟩ := TK.num_of k2 k1 (by omega)
  obtain ⟨m1, m2, m3⟩ := TK.many_of (m := 16) (code := 13) e2 e1 (by omega) (by omega)
  obtain ⟨t', d1, d2, d3⟩ := readRs_of a.rows _ [] r m2 m1 b9
  have hraw : rawA (bytesA a ++ r) = (t', a) := by
    unfold rawA
    simp only [TK.a3]
    rw [n3, k3, e3, m3, d1, Int.toNat_of_nonneg (by omega), Int.toNat_of_nonneg (by omega)]
    rfl
  unfold readA
  rw [hraw]
  simp only
  rw [if_pos d3]
  exact ⟨rfl, d2, d3⟩
theorem rep_altT {w : World} {R : Nat → Prop} {ρ : Rho} {x y : V} {v : Value} (h : Rep w R ρ (.alt true x y) v) : Rep w R ρ x v := by cases h; assumption
abbrev kO : OpV := ⟨4, [97], [], [118], 3, []⟩
abbrev kA : AnV := ⟨14, [], 2, []⟩
end Go.Proofs.YtnblecdpkbempaaGreatDoor

namespace Go.Proofs.YtnblecdpkbempaaGreatDoor
open Go.RowKit
set_option linter.unusedSimpArgs false
set_option linter.unusedVariables false

def trimN (l : List Int) : Nat → Nat
  | 0 => 0
  | n + 1 => if l.getD n 0 = 0 then trimN l n else n + 1
/-- the numbers up to the last one that isn't 0 -/
def namesL (l : LetV) : List Int := (numsL l).take (trimN (numsL l) 5)
def flagB (b : Bool) : Bs := if b then [1] else [0]
def snBytes (x : Sn) : Bs := text x.k ++ numsB [x.n]
def evBytes (e : Evt) : Bs := ((text e.k ++ numsB [e.n]) ++ text e.v) ++ flagB e.d
def plBytes (p : Plc) : Bs := (numsB [p.id, p.ep, p.nd] ++ text p.f) ++ text p.t
def snsBytes (l : List Sn) : Bs := (l.map snBytes).flatten
def evsBytes (l : List Evt) : Bs := (l.map evBytes).flatten
def plsBytes (l : List Plc) : Bs := (l.map plBytes).flatten
def ownB (l : LetV) : Bs := if l.kind = 1 then bytesO l.op else if l.kind = 2 then bytesA l.an else []
def head0 (l : LetV) : Bs := numsB [l.kind, l.fr, l.to, ((namesL l).length : Int)] ++ numsB (namesL l)
def head1 (l : LetV) : Bs := head0 l ++ ownB l
def head2 (l : LetV) : Bs := head1 l ++ ((text l.f ++ text l.t) ++ numsB [(l.seen.length : Int)])
def head3 (l : LetV) : Bs := (head2 l ++ snsBytes l.seen) ++ numsB [(l.ev.length : Int)]
def head4 (l : LetV) : Bs := (head3 l ++ evsBytes l.ev) ++ numsB [(l.pl.length : Int)]
def bodyL (l : LetV) : Bs := (head4 l ++ plsBytes l.pl) ++ text l.data
def bytesL (l : LetV) : Bs := wrap (bodyL l)
def zeroL : LetV := ⟨0, 0, 0, 0, 0, 0, 0, 0, zeroO, zeroA, [], [], [], [], [], []⟩
structure N5 where
  a : Int
  b : Int
  c : Int
  d : Int
  e : Int
def N5.set (x : N5) (v : Int) : Nat → N5
  | 0 => ⟨v, x.b, x.c, x.d, x.e⟩
  | 1 => ⟨x.a, v, x.c, x.d, x.e⟩
  | 2 => ⟨x.a, x.b, v, x.d, x.e⟩
  | 3 => ⟨x.a, x.b, x.c, v, x.e⟩
  | _ + 4 => ⟨x.a, x.b, x.c, x.d, v⟩
def readN : Nat → Nat → TK → N5 → TK × N5
  | 0, _, t, x => (t, x)
  | k + 1, i, t, x => readN k (i + 1) t.num (x.set t.numR i)
def readSn : Nat → TK → List Sn → TK × List Sn
  | 0, t, l => (t, l)
  | n + 1, t, l => readSn n t.text.num (l ++ [⟨t.textR, (t.text.numR : Int)⟩])
def readEv : Nat → TK → List Evt → TK × List Evt
  | 0, t, l => (t, l)
  | n + 1, t, l => readEv n t.text.num.text.flag (l ++ [⟨t.textR, (t.text.numR : Int), t.text.num.textR, t.text.num.text.flagR⟩])
def readPl : Nat → TK → List Plc → TK × List Plc
  | 0, t, l => (t, l)
  | n + 1, t, l => readPl n t.num.num.num.text.text (l ++ [⟨(t.numR : Int), (t.num.numR : Int), (t.num.num.numR : Int), t.num.num.num.textR, t.num.num.num.text.textR⟩])
def TK.own (t : TK) (kind : Int) : TK × OpV × AnV := if t.b then (if kind = 1 then ((readO t.s).1, (readO t.s).2, zeroA) else if kind = 2 then ((readA t.s).1, zeroO, (readA t.s).2) else (t, zeroO, zeroA)) else (t, zeroO, zeroA)
def rawL (s : Bs) : TK × LetV :=
  let t := tk0 s
  let t3 := t.num.num.num
  let rn := readN (t3.manyR 5 10) 0 (t3.many 5 10) ⟨0, 0, 0, 0, 0⟩
  let ro := rn.1.own t.numR
  let t5 := ro.1.text.text
  let rs := readSn (t5.manyR 60 10) (t5.many 60 10) []
  let re := readEv (rs.1.manyR 8 10) (rs.1.many 8 10) []
  let rp := readPl (re.1.manyR 8 10) (re.1.many 8 10) []
  (rp.1.text, ⟨t.numR, t.num.numR, t.num.num.numR, rn.2.a, rn.2.b, rn.2.c, rn.2.d, rn.2.e, ro.2.1, ro.2.2, ro.1.textR, ro.1.text.textR, rs.2, re.2, rp.2, rp.1.textR⟩)
/-- what is wrapped at the front: it, and what is behind, or why not -/
def openT (s : Bs) : TK × Bs := if s.length < 4 then (⟨s, false, false, 0, 11⟩, []) else match textF (s.drop 4) 200000 with
  | none => (⟨s, false, true, textC (s.drop 4) 200000, 0⟩, [])
  | some (x, r) => if bytes4 (sum ((s.take (s.length - r.length)).drop 4)) = s.take 4 then (⟨r, true, false, 0, 0⟩, x) else (⟨s, false, false, 0, 12⟩, [])
def readL (s : Bs) : TK × LetV :=
  if (openT s).1.b then
    if (openT s).1.s = [] then
      if (rawL (openT s).2).1.b && decide ((rawL (openT s).2).1.s = []) && (letB (rawL (openT s).2).2 && decide (bytesL (rawL (openT s).2).2 = s)) then (⟨[], true, false, 0, 10⟩, (rawL (openT s).2).2) else (⟨[], false, false, 0, 10⟩, zeroL)
    else (⟨[], false, false, 0, 10⟩, zeroL)
  else ((openT s).1, zeroL)

structure LetOk (l : LetV) : Prop where
  k1 : 1 ≤ l.kind
  k2 : l.kind ≤ 21
  op : l.kind = 1 → opB l.op = true
  op0 : ¬ l.kind = 1 → l.op = zeroO
  an : l.kind = 2 → anB l.an = true
  an0 : ¬ l.kind = 2 → l.an = zeroA
  fr : 0 ≤ l.fr ∧ l.fr ≤ 1000
  to : 0 ≤ l.to ∧ l.to ≤ 1000
  ns : ∀ n ∈ numsL l, 0 ≤ n ∧ n ≤ 1000000000000
  dt : l.data.length ≤ 255
  f : l.f.length ≤ 8
  t : l.t.length ≤ 8
  sl : l.seen.length ≤ 60
  el : l.ev.length ≤ 8
  pl : l.pl.length ≤ 8
  s : ∀ x ∈ l.seen, x.k.length ≤ 8 ∧ 0 ≤ x.n ∧ x.n ≤ 1000000000000
  e : ∀ x ∈ l.ev, x.k.length ≤ 8 ∧ (0 ≤ x.n ∧ x.n ≤ 1000000000000) ∧ x.v.length ≤ 40
  p : ∀ x ∈ l.pl, (0 ≤ x.id ∧ x.id ≤ 1000000000000) ∧ (0 ≤ x.ep ∧ x.ep ≤ 1000000000000) ∧ (0 ≤ x.nd ∧ x.nd ≤ 3) ∧ x.f.length ≤ 8 ∧ x.t.length ≤ 8
theorem isB_len {f t : Bs} (h : isB ⟨f, t⟩ = true) : f.length ≤ 8 ∧ t.length ≤ 8 := by
  simp only [isB, Bool.and_eq_true, decide_eq_true_eq] at h; simp_all
theorem openT_wrap (t rest : Bs) (h : t.length ≤ 200000) : openT (wrap t ++ rest) = (⟨rest, true, false, 0, 0⟩, t) := by
  have hb4 := bytes4_len (sum (text t))
  have e : wrap t ++ rest = bytes4 (sum (text t)) ++ (text t ++ rest) := by rw [wrap, List.append_assoc]
  have h4 : ¬ (wrap t ++ rest).length < 4 := by rw [e, List.length_append, hb4]; omega
  have hd : (wrap t ++ rest).drop 4 = text t ++ rest := by rw [e, ← hb4, List.drop_left]
  have ht : (wrap t ++ rest).take 4 = bytes4 (sum (text t)) := by rw [e, ← hb4, List.take_left]
  have hm : ((wrap t ++ rest).take ((wrap t ++ rest).length - rest.length)).drop 4 = text t := by
    rw [show (wrap t ++ rest).length - rest.length = (wrap t).length by rw [List.length_append]; omega, List.take_left, wrap, ← hb4, List.drop_left]
  unfold openT
  rw [if_neg h4, hd, textF_text t rest 200000 (by omega) (by omega)]
  simp only
  rw [hm, ht, if_pos rfl]
theorem flat_le {α : Type} (f : α → Bs) (c : Nat) : ∀ (l : List α), (∀ x ∈ l, (f x).length ≤ c) → ((l.map f).flatten).length ≤ c * l.length
  | [], _ => by simp
  | a :: l, h => by
    rw [List.map_cons, List.flatten_cons, List.length_append, List.length_cons, Nat.mul_succ]
    have := h a (List.mem_cons_self ..)
    have := flat_le f c l fun x hx => h x (List.mem_cons_of_mem _ hx)
    omega
theorem flagB_len (b : Bool) : (flagB b).length = 1 := by cases b <;> rfl
theorem rsBytes_len (l : List Rw) (h : ∀ r ∈ l, r.k.length ≤ 255 ∧ r.v.length ≤ 255 ∧ 0 ≤ r.n ∧ r.n < 281474976710656) : (rsBytes l).length ≤ 534 * l.length := flat_le rwBytes 534 l fun w hw => by
  have := h w hw
  unfold rwBytes; simp only [List.length_append]
  have := textLe w.k (by omega); have := textLe w.v (by omega); have := numLe w.n.toNat (by omega)
  omega
theorem bytesA_len {a : AnV} (h : anB a = true) : (bytesA a).length ≤ 9000 := by
  obtain ⟨⟨b1, b2⟩, ⟨b3, b4⟩, b5, b8, b9⟩ := an_bounds h
  have q1 := numLe a.code.toNat (by omega); have q2 := textLe a.val (by omega); have q5 := numLe a.ver.toNat (by omega); have q6 := numLe a.rows.length (by omega)
  have := rsBytes_len a.rows b9
  simp only [bytesA, headA, List.length_append]; omega
end Go.Proofs.YtnblecdpkbempaaGreatDoor
