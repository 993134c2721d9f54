/-
  Ops: what is written is read; what is known of them. No conditions.
-/
import Derived.Test.YtnblecdpkbempaaGreatDoorOpC
import Derived.Test.YtnblecdpkbempaaGreatDoorLetI
import Derived.Test.YtnblecdpkbempaaGreatDoorFrame
namespace Go.Proofs.YtnblecdpkbempaaGreatDoor
open Go.RowKit
set_option linter.unusedSimpArgs false
set_option linter.unusedVariables false

theorem TK.num_of {t : TK} {k : Nat} {r : Bs} (hb : t.b = true) (hs : t.s = Go.Proofs.YtnblecdpkbempaaGreatDoor.num k ++ r) (hk : k < 281474976710656) : t.num.s = r ∧ t.num.b = true ∧ t.numR = k := by
  have h := takeF_num k r hk
  rw [← hs] at h
  unfold TK.num TK.numR
  rw [if_pos hb, if_pos hb]
  simp [takeR, takeOk, takeV, h]
theorem TK.text_of {t : TK} {x r : Bs} (hb : t.b = true) (hs : t.s = Go.Proofs.YtnblecdpkbempaaGreatDoor.text x ++ r) (hx : x.length ≤ 255) : t.text.s = r ∧ t.text.b = true ∧ t.textR = x := by
  have h := textF_text x r 255 (by omega) (by omega)
  rw [← hs] at h
  unfold TK.text TK.textR
  rw [if_pos hb, if_pos hb]
  simp [Go.Proofs.YtnblecdpkbempaaGreatDoor.textR, textOk, textV, h]
theorem TK.flag_of {t : TK} {x : Bool} {r : Bs} (hb : t.b = true) (hs : t.s = (if x then [1] else [0]) ++ r) : t.flag.s = r ∧ t.flag.b = true ∧ t.flagR = x := by
  have h := flagF_flag x r
  rw [← hs] at h
  unfold TK.flag TK.flagR
  rw [if_pos hb, if_pos hb]
  simp [Go.Proofs.YtnblecdpkbempaaGreatDoor.flagR, flagOk, flagV, h]
theorem TK.many_of {t : TK} {k : Nat} {r : Bs} {m code : Int} (hb : t.b = true) (hs : t.s = Go.Proofs.YtnblecdpkbempaaGreatDoor.num k ++ r) (hk : k < 281474976710656) (hm : (k : Int) ≤ m) : (t.many m code).s = r ∧ (t.many m code).b = true ∧ t.manyR m code = k := by
  obtain ⟨h1, h2, h3⟩ := TK.num_of hb hs hk
  obtain ⟨e1, e2⟩ := TK.many_fine (m := m) (code := code) h2 (by rw [h3]; exact hm)
  rw [e1, e2]; exact ⟨h1, h2, h3⟩
theorem readWs_of : ∀ (l : List Wr) (t : TK) (acc : List Wr) (r : Bs), t.b = true → t.s = wsBytes l ++ r → (∀ w ∈ l, w.k.length ≤ 8 ∧ w.v.length ≤ 40) → ∃ t', readWs l.length t acc = (t', acc ++ l) ∧ t'.s = r ∧ t'.b = true
  | [], t, acc, r, hb, hs, _ => ⟨t, by simp [readWs], by simpa [wsBytes] using hs, hb⟩
  | w :: l, t, acc, r, hb, hs, hw => by
    obtain ⟨q1, q2⟩ := hw w (List.mem_cons_self ..)
    have hs' : t.s = Go.Proofs.YtnblecdpkbempaaGreatDoor.text w.k ++ (Go.Proofs.YtnblecdpkbempaaGreatDoor.text w.v ++ ((if w.d then [1] else [0]) ++ (wsBytes l ++ r))) := by
      rw [hs]; simp [wsBytes, wrBytes, List.append_assoc]
    obtain ⟨a1, a2, a3⟩ := TK.text_of hb hs' (by omega)
    obtain ⟨b1, b2, b3⟩ := TK.text_of a2 a1 (by omega)
    obtain ⟨c1, c2, c3⟩ := TK.flag_of b2 b1
    obtain ⟨t', d1, d2, d3⟩ := readWs_of l t.text.text.flag (acc ++ [w]) r c2 c1 fun w hw' => hw w (List.mem_cons_of_mem _ hw')
    refine ⟨t', ?_, d2, d3⟩
    rw [List.length_cons, readWs, a3, b3, c3, d1, List.append_assoc]; rfl
theorem readRs_of : ∀ (l : List Rw) (t : TK) (acc : List Rw) (r : Bs), t.b = true → t.s = rsBytes l ++ r → (∀ w ∈ l, w.k.length ≤ 255 ∧ w.v.length ≤ 255 ∧ 0 ≤ w.n ∧ w.n < 281474976710656) → ∃ t', readRs l.length t acc = (t', acc ++ l) ∧ t'.s = r ∧ t'.b = true
  | [], t, acc, r, hb, hs, _ => ⟨t, by simp [readRs], by simpa [rsBytes] using hs, hb⟩
  | w :: l, t, acc, r, hb, hs, hw => by
    obtain ⟨q1, q2, q3, q4⟩ := hw w (List.mem_cons_self ..)
    have hs' : t.s = Go.Proofs.YtnblecdpkbempaaGreatDoor.text w.k ++ (Go.Proofs.YtnblecdpkbempaaGreatDoor.text w.v ++ (Go.Proofs.YtnblecdpkbempaaGreatDoor.num w.n.toNat ++ (rsBytes l ++ r))) := by
      rw [hs]; simp [rsBytes, rwBytes, List.append_assoc]
    obtain ⟨a1, a2, a3⟩ := TK.text_of hb hs' (by omega)
    obtain ⟨b1, b2, b3⟩ := TK.text_of a2 a1 (by omega)
    obtain ⟨c1, c2, c3⟩ := TK.num_of b2 b1 (by omega)
    obtain ⟨t', d1, d2, d3⟩ := readRs_of l t.text.text.num (acc ++ [w]) r c2 c1 fun w hw' => hw w (List.mem_cons_of_mem _ hw')
    refine ⟨t', ?_, d2, d3⟩
    rw [List.length_cons, readRs, a3, b3, c3, Int.toNat_of_nonneg q3, d1, List.append_assoc]; rfl
/-- what is written is read, whatever is behind -/
theorem readO_of (o : OpV) (r : Bs) (h : opB o = true) : (readO (bytesO o ++ r)).2 = o ∧ (readO (bytesO o ++ r)).1.s = r ∧ (readO (bytesO o ++ r)).1.b = true := by
  obtain ⟨⟨b1, b2⟩, ⟨b3, b4, b5⟩, ⟨b6, b7⟩, b8, b9⟩ := op_bounds h
  have hs : (tk0 (bytesO o ++ r)).s = num o.kind.toNat ++ (text o.key ++ (text o.to ++ (text o.val ++ (num o.ver.toNat ++ (num o.ws.length ++ (wsBytes o.ws ++ r)))))) := by
    show bytesO o ++ r = _
    simp [bytesO, headO, List.append_assoc]
  obtain ⟨n1, n2, n3⟩ := TK.num_of (t := tk0 (bytesO o ++ r)) rfl hs (by omega)
  obtain ⟨k1, k2, k3⟩ := TK.text_of n2 n1 (by omega)
  obtain ⟨t1, t2, t3⟩ := TK.text_of k2 k1 (by omega)
  obtain ⟨v1, v2, v3⟩ := TK.text_of t2 t1 (by omega)
  obtain ⟨e1, e2, e3⟩ := TK.num_of v2 v1 (by omega)
  obtain ⟨m1, m2, m3⟩ := TK.many_of (m := 4) (code := 13) e2 e1 (by omega) (by omega)
  obtain ⟨t', d1, d2, d3⟩ := readWs_of o.ws _ [] r m2 m1 b9
  have hraw : rawO (bytesO o ++ r) = (t', o) := by
    unfold rawO
    simp only [TK.o5]
    rw [n3, k3, t3, v3, e3, m3, d1, Int.toNat_of_nonneg (by omega), Int.toNat_of_nonneg (by omega)]
    rfl
  unfold readO
  rw [hraw]
  simp only
  rw [if_pos d3, if_pos h]
  exact ⟨rfl, d2, d3⟩
theorem readA_of (a : AnV) (r : Bs) (h : anB a = true) : (readA (bytesA a ++ r)).2 = a ∧ (readA (bytesA a ++ r)).1.s = r ∧ (readA (bytesA a ++ r)).1.b = true := by
  obtain ⟨⟨b1, b2⟩, ⟨b3, b4⟩, b5, b8, b9⟩ := an_bounds h
  have hs : (tk0 (bytesA a ++ r)).s = num a.code.toNat ++ (text a.val ++ (num a.ver.toNat ++ (num a.rows.length ++ (rsBytes a.rows ++ r)))) := by
    show bytesA a ++ r = _
    simp [bytesA, headA, List.append_assoc]
  obtain ⟨n1, n2, n3⟩ := TK.num_of (t := tk0 (bytesA a ++ r)) rfl hs (by omega)
  obtain ⟨k1, k2, k3⟩ := TK.text_of n2 n1 (by omega)
  obtain ⟨e1, e2, e3⟩ := TK.num_of k2 k1 (by omega)
  obtain ⟨m1, m2, m3⟩ := TK.many_of (m := 16) (code := 13) e2 e1 (by omega) (by omega)
  obtain ⟨t', d1, d2, d3⟩ := readRs_of a.rows _ [] r m2 m1 b9
  have hraw : rawA (bytesA a ++ r) = (t', a) := by
    unfold rawA
    simp only [TK.a3]
    rw [n3, k3, e3, m3, d1, Int.toNat_of_nonneg (by omega), Int.toNat_of_nonneg (by omega)]
    rfl
  unfold readA
  rw [hraw]
  simp only
  rw [if_pos d3]
  exact ⟨rfl, d2, d3⟩
theorem rep_altT {w : World} {R : Nat → Prop} {ρ : Rho} {x y : V} {v : Value} (h : Rep w R ρ (.alt true x y) v) : Rep w R ρ x v := by cases h; assumption
theorem rep_altF {w : World} {R : Nat → Prop} {ρ : Rho} {x y : V} {v : Value} (h : Rep w R ρ (.alt false x y) v) : Rep w R ρ y v := by cases h; assumption
abbrev kO : OpV := ⟨4, [97], [], [118], 3, []⟩
abbrev kA : AnV := ⟨14, [], 2, []⟩
end Go.Proofs.YtnblecdpkbempaaGreatDoor

namespace Go.Proofs.YtnblecdpkbempaaGreatDoor
open Go.RowKit
set_option linter.unusedSimpArgs false
set_option linter.unusedVariables false

def trimN (l : List Int) : Nat → Nat
  | 0 => 0
  | n + 1 => if l.getD n 0 = 0 then trimN l n else n + 1
/-- the numbers up to the last one that isn't 0 -/
def namesL (l : LetV) : List Int := (numsL l).take (trimN (numsL l) 5)
theorem trimN_le (l : List Int) : ∀ n, trimN l n ≤ n
  | 0 => Nat.le_refl _
  | n + 1 => by rw [trimN]; have := trimN_le l n; split <;> omega
theorem namesL_len (l : LetV) : (namesL l).length ≤ 5 := by
  unfold namesL; rw [List.length_take]; have := trimN_le (numsL l) 5; omega
def flagB (b : Bool) : Bs := if b then [1] else [0]
def snBytes (x : Sn) : Bs := text x.k ++ numsB [x.n]
def evBytes (e : Evt) : Bs := ((text e.k ++ numsB [e.n]) ++ text e.v) ++ flagB e.d
def plBytes (p : Plc) : Bs := (numsB [p.id, p.ep, p.nd] ++ text p.f) ++ text p.t
def snsBytes (l : List Sn) : Bs := (l.map snBytes).flatten
def evsBytes (l : List Evt) : Bs := (l.map evBytes).flatten
def plsBytes (l : List Plc) : Bs := (l.map plBytes).flatten
def ownB (l : LetV) : Bs := if l.kind = 1 then bytesO l.op else if l.kind = 2 then bytesA l.an else []
def head0 (l : LetV) : Bs := numsB [l.kind, l.fr, l.to, ((namesL l).length : Int)] ++ numsB (namesL l)
def head1 (l : LetV) : Bs := head0 l ++ ownB l
def head2 (l : LetV) : Bs := head1 l ++ ((text l.f ++ text l.t) ++ numsB [(l.seen.length : Int)])
def head3 (l : LetV) : Bs := (head2 l ++ snsBytes l.seen) ++ numsB [(l.ev.length : Int)]
def head4 (l : LetV) : Bs := (head3 l ++ evsBytes l.ev) ++ numsB [(l.pl.length : Int)]
def bodyL (l : LetV) : Bs := (head4 l ++ plsBytes l.pl) ++ text l.data
def bytesL (l : LetV) : Bs := wrap (bodyL l)
def zeroL : LetV := ⟨0, 0, 0, 0, 0, 0, 0, 0, zeroO, zeroA, [], [], [], [], [], []⟩
structure N5 where
  a : Int
  b : Int
  c : Int
  d : Int
  e : Int
def N5.set (x : N5) (v : Int) : Nat → N5
  | 0 => ⟨v, x.b, x.c, x.d, x.e⟩
  | 1 => ⟨x.a, v, x.c, x.d, x.e⟩
  | 2 => ⟨x.a, x.b, v, x.d, x.e⟩
  | 3 => ⟨x.a, x.b, x.c, v, x.e⟩
  | _ + 4 => ⟨x.a, x.b, x.c, x.d, v⟩
def readN : Nat → Nat → TK → N5 → TK × N5
  | 0, _, t, x => (t, x)
  | k + 1, i, t, x => readN k (i + 1) t.num (x.set t.numR i)
def readSn : Nat → TK → List Sn → TK × List Sn
  | 0, t, l => (t, l)
  | n + 1, t, l => readSn n t.text.num (l ++ [⟨t.textR, (t.text.numR : Int)⟩])
def readEv : Nat → TK → List Evt → TK × List Evt
  | 0, t, l => (t, l)
  | n + 1, t, l => readEv n t.text.num.text.flag (l ++ [⟨t.textR, (t.text.numR : Int), t.text.num.textR, t.text.num.text.flagR⟩])
def readPl : Nat → TK → List Plc → TK × List Plc
  | 0, t, l => (t, l)
  | n + 1, t, l => readPl n t.num.num.num.text.text (l ++ [⟨(t.numR : Int), (t.num.numR : Int), (t.num.num.numR : Int), t.num.num.num.textR, t.num.num.num.text.textR⟩])
def TK.own (t : TK) (kind : Int) : TK × OpV × AnV := if t.b then (if kind = 1 then ((readO t.s).1, (readO t.s).2, zeroA) else if kind = 2 then ((readA t.s).1, zeroO, (readA t.s).2) else (t, zeroO, zeroA)) else (t, zeroO, zeroA)
def rawL (s : Bs) : TK × LetV :=
  let t := tk0 s
  let t3 := t.num.num.num
  let rn := readN (t3.manyR 5 10) 0 (t3.many 5 10) ⟨0, 0, 0, 0, 0⟩
  let ro := rn.1.own t.numR
  let t5 := ro.1.text.text
  let rs := readSn (t5.manyR 60 10) (t5.many 60 10) []
  let re := readEv (rs.1.manyR 8 10) (rs.1.many 8 10) []
  let rp := readPl (re.1.manyR 8 10) (re.1.many 8 10) []
  (rp.1.text, ⟨t.numR, t.num.numR, t.num.num.numR, rn.2.a, rn.2.b, rn.2.c, rn.2.d, rn.2.e, ro.2.1, ro.2.2, ro.1.textR, ro.1.text.textR, rs.2, re.2, rp.2, rp.1.textR⟩)
/-- what is wrapped at the front: it, and what is behind, or why not -/
def openT (s : Bs) : TK × Bs := if s.length < 4 then (⟨s, false, false, 0, 11⟩, []) else match textF (s.drop 4) 200000 with
  | none => (⟨s, false, true, textC (s.drop 4) 200000, 0⟩, [])
  | some (x, r) => if bytes4 (sum ((s.take (s.length - r.length)).drop 4)) = s.take 4 then (⟨r, true, false, 0, 0⟩, x) else (⟨s, false, false, 0, 12⟩, [])
def readL (s : Bs) : TK × LetV :=
  if (openT s).1.b then
    if (openT s).1.s = [] then
      if (rawL (openT s).2).1.b && decide ((rawL (openT s).2).1.s = []) && (letB (rawL (openT s).2).2 && decide (bytesL (rawL (openT s).2).2 = s)) then (⟨[], true, false, 0, 10⟩, (rawL (openT s).2).2) else (⟨[], false, false, 0, 10⟩, zeroL)
    else (⟨[], false, false, 0, 10⟩, zeroL)
  else ((openT s).1, zeroL)

theorem numsB_cons (a : Int) (l : List Int) : numsB (a :: l) = num a.toNat ++ numsB l := by simp [numsB]
theorem numsB_nil : numsB [] = [] := rfl
theorem kindL_of {l : LetV} (h : kindL l = true) : (1 ≤ l.kind ∧ l.kind ≤ 21) ∧ (l.kind = 1 → opB l.op = true) ∧ (¬ l.kind = 1 → l.op = zeroO) ∧ (l.kind = 2 → anB l.an = true) ∧ (¬ l.kind = 2 → l.an = zeroA) := by
  simp only [kindL, Bool.and_eq_true, Bool.or_eq_true, decide_eq_true_eq, beq_iff_eq] at h
  obtain ⟨⟨⟨⟨h1, h2⟩, h3⟩, h4⟩, h5⟩ := h
  refine ⟨⟨h1, h2⟩, fun h => by rw [← h3]; simpa using h, fun h => h4.resolve_left h, fun h => by rw [if_pos h] at h5; exact h5, fun h => by rw [if_neg h] at h5; simpa using h5⟩
theorem snsB_all : ∀ (l : List Sn) (p : Option Bs), snsB p l = true → ∀ x ∈ l, isKeyB x.k = true ∧ 0 ≤ x.n ∧ x.n ≤ 1000000000000
  | [], _, _, x, hx => by cases hx
  | y :: r, p, h, x, hx => by
    simp only [snsB, snB, Bool.and_eq_true, Bool.not_eq_true', decide_eq_true_eq, decide_eq_false_iff_not] at h
    rcases List.mem_cons.1 hx with rfl | hx
    · exact ⟨by simp_all, by omega, by omega⟩
    · exact snsB_all r _ h.2 x hx
structure LetOk (l : LetV) : Prop where
  k1 : 1 ≤ l.kind
  k2 : l.kind ≤ 21
  op : l.kind = 1 → opB l.op = true
  op0 : ¬ l.kind = 1 → l.op = zeroO
  an : l.kind = 2 → anB l.an = true
  an0 : ¬ l.kind = 2 → l.an = zeroA
  fr : 0 ≤ l.fr ∧ l.fr ≤ 1000
  to : 0 ≤ l.to ∧ l.to ≤ 1000
  ns : ∀ n ∈ numsL l, 0 ≤ n ∧ n ≤ 1000000000000
  dt : l.data.length ≤ 255
  f : l.f.length ≤ 8
  t : l.t.length ≤ 8
  sl : l.seen.length ≤ 60
  el : l.ev.length ≤ 8
  pl : l.pl.length ≤ 8
  s : ∀ x ∈ l.seen, x.k.length ≤ 8 ∧ 0 ≤ x.n ∧ x.n ≤ 1000000000000
  e : ∀ x ∈ l.ev, x.k.length ≤ 8 ∧ (0 ≤ x.n ∧ x.n ≤ 1000000000000) ∧ x.v.length ≤ 40
  p : ∀ x ∈ l.pl, (0 ≤ x.id ∧ x.id ≤ 1000000000000) ∧ (0 ≤ x.ep ∧ x.ep ≤ 1000000000000) ∧ (0 ≤ x.nd ∧ x.nd ≤ 3) ∧ x.f.length ≤ 8 ∧ x.t.length ≤ 8
theorem addr_le {n : Int} (h : addrB n = true) : 0 ≤ n ∧ n ≤ 1000 := by
  simp only [addrB, Bool.and_eq_true, Bool.or_eq_true, decide_eq_true_eq] at h; omega
theorem isB_len {f t : Bs} (h : isB ⟨f, t⟩ = true) : f.length ≤ 8 ∧ t.length ≤ 8 := by
  simp only [isB, Bool.and_eq_true, decide_eq_true_eq] at h; simp_all
theorem letOk {l : LetV} (h : letB l = true) : LetOk l := by
  simp only [letB, Bool.and_eq_true, decide_eq_true_eq, Bool.not_eq_true'] at h
  obtain ⟨⟨⟨⟨⟨⟨⟨⟨⟨⟨⟨h1, h2⟩, h3⟩, h4⟩, h5⟩, h6⟩, h7⟩, h8⟩, h9⟩, h10⟩, h11⟩, h12⟩ := h
  obtain ⟨⟨a1, a2⟩, a3, a4, a5, a6⟩ := kindL_of h1
  refine ⟨a1, a2, a3, a4, a5, a6, addr_le h2, addr_le h3, fun n hn => ?_, h5, (isB_len h6).1, (isB_len h6).2, h8, h9, h10, fun x hx => ?_, fun x hx => ?_, fun x hx => ?_⟩
  · have := List.any_eq_false.1 h4 n hn
    simp only [badI, Bool.or_eq_true, decide_eq_true_eq, not_or] at this; omega
  · have := snsB_all _ _ h7 x hx
    exact ⟨key_len this.1, this.2⟩
  · have := List.any_eq_false.1 h11 x hx
    simp only [evB, Bool.not_eq_true', Bool.not_eq_false', Bool.and_eq_true, decide_eq_true_eq, Bool.not_eq_true, Bool.not_eq_false] at this
    obtain ⟨⟨⟨⟨q1, q2⟩, q3⟩, q4⟩, q5⟩ := this
    exact ⟨key_len q1, ⟨by omega, q3⟩, q4⟩
  · have := List.any_eq_false.1 h12 x hx
    simp only [plB, Bool.not_eq_true', Bool.not_eq_false', Bool.and_eq_true, decide_eq_true_eq, Bool.not_eq_true, Bool.not_eq_false] at this
    obtain ⟨⟨⟨⟨⟨⟨q1, q2⟩, q3⟩, q4⟩, q5⟩, q6⟩, q7⟩ := this
    exact ⟨⟨by omega, q2⟩, ⟨by omega, by omega⟩, ⟨q5, by omega⟩, isB_len q7⟩
/-- of numbers the ones up to the last that isn't 0 tell all -/
theorem readN_of (l : LetV) (t : TK) (r : Bs) (hb : t.b = true) (hs : t.s = numsB (namesL l) ++ r) (hn : ∀ n ∈ numsL l, 0 ≤ n ∧ n ≤ 1000000000000) : ∃ t', readN (namesL l).length 0 t ⟨0, 0, 0, 0, 0⟩ = (t', ⟨l.n0, l.n1, l.n2, l.n3, l.n4⟩) ∧ t'.s = r ∧ t'.b = true := by
  have g0 := hn l.n0 (by simp [numsL])
  have g1 := hn l.n1 (by simp [numsL])
  have g2 := hn l.n2 (by simp [numsL])
  have g3 := hn l.n3 (by simp [numsL])
  have g4 := hn l.n4 (by simp [numsL])
  have step : ∀ (t : TK) (n : Int) (r : Bs), t.b = true → t.s = num n.toNat ++ r → 0 ≤ n → n ≤ 1000000000000 → t.num.s = r ∧ t.num.b = true ∧ (t.numR : Int) = n := fun t n r hb hs h0 h1 => by
    obtain ⟨e1, e2, e3⟩ := TK.num_of hb hs (by omega)
    exact ⟨e1, e2, by rw [e3]; omega⟩
  have tl : trimN (numsL l) 5 = if l.n4 = 0 then (if l.n3 = 0 then (if l.n2 = 0 then (if l.n1 = 0 then (if l.n0 = 0 then 0 else 1) else 2) else 3) else 4) else 5 := rfl
  unfold namesL at hs ⊢
  rw [tl] at hs ⊢
  by_cases h4 : l.n4 = 0
  · rw [if_pos h4] at hs ⊢
    by_cases h3 : l.n3 = 0
    · rw [if_pos h3] at hs ⊢
      by_cases h2 : l.n2 = 0
      · rw [if_pos h2] at hs ⊢
        by_cases h1 : l.n1 = 0
        · rw [if_pos h1] at hs ⊢
          by_cases h0 : l.n0 = 0
          · rw [if_pos h0] at hs ⊢
            exact ⟨t, by rw [h0, h1, h2, h3, h4]; rfl, by simpa [numsB] using hs, hb⟩
          · rw [if_neg h0] at hs ⊢
            obtain ⟨a1, a2, a3⟩ := step t l.n0 _ hb (by rw [hs]; simp [numsL, numsB_cons, numsB_nil]; rfl) g0.1 g0.2
            exact ⟨_, by rw [h1, h2, h3, h4]; simp only [numsL, List.take, List.length_cons, List.length_nil, readN, N5.set, a3], a1, a2⟩
        · rw [if_neg h1] at hs ⊢
          obtain ⟨a1, a2, a3⟩ := step t l.n0 (num l.n1.toNat ++ r) hb (by rw [hs]; simp [numsL, numsB_cons, numsB_nil]) g0.1 g0.2
          obtain ⟨b1, b2, b3⟩ := step _ l.n1 _ a2 a1 g1.1 g1.2
          exact ⟨_, by rw [h2, h3, h4]; simp only [numsL, List.take, List.length_cons, List.length_nil, readN, N5.set, a3, b3], b1, b2⟩
      · rw [if_neg h2] at hs ⊢
        obtain ⟨a1, a2, a3⟩ := step t l.n0 (num l.n1.toNat ++ (num l.n2.toNat ++ r)) hb (by rw [hs]; simp [numsL, numsB_cons, numsB_nil]) g0.1 g0.2
        obtain ⟨b1, b2, b3⟩ := step _ l.n1 _ a2 a1 g1.1 g1.2
        obtain ⟨c1, c2, c3⟩ := step _ l.n2 _ b2 b1 g2.1 g2.2
        exact ⟨_, by rw [h3, h4]; simp only [numsL, List.take, List.length_cons, List.length_nil, readN, N5.set, a3, b3, c3], c1, c2⟩
    · rw [if_neg h3] at hs ⊢
      obtain ⟨a1, a2, a3⟩ := step t l.n0 (num l.n1.toNat ++ (num l.n2.toNat ++ (num l.n3.toNat ++ r))) hb (by rw [hs]; simp [numsL, numsB_cons, numsB_nil]) g0.1 g0.2
      obtain ⟨b1, b2, b3⟩ := step _ l.n1 _ a2 a1 g1.1 g1.2
      obtain ⟨c1, c2, c3⟩ := step _ l.n2 _ b2 b1 g2.1 g2.2
      obtain ⟨d1, d2, d3⟩ := step _ l.n3 _ c2 c1 g3.1 g3.2
      exact ⟨_, by rw [h4]; simp only [numsL, List.take, List.length_cons, List.length_nil, readN, N5.set, a3, b3, c3, d3], d1, d2⟩
  · rw [if_neg h4] at hs ⊢
    obtain ⟨a1, a2, a3⟩ := step t l.n0 (num l.n1.toNat ++ (num l.n2.toNat ++ (num l.n3.toNat ++ (num l.n4.toNat ++ r)))) hb (by rw [hs]; simp [numsL, numsB_cons, numsB_nil]) g0.1 g0.2
    obtain ⟨b1, b2, b3⟩ := step _ l.n1 _ a2 a1 g1.1 g1.2
    obtain ⟨c1, c2, c3⟩ := step _ l.n2 _ b2 b1 g2.1 g2.2
    obtain ⟨d1, d2, d3⟩ := step _ l.n3 _ c2 c1 g3.1 g3.2
    obtain ⟨e1, e2, e3⟩ := step _ l.n4 _ d2 d1 g4.1 g4.2
    exact ⟨_, by simp only [numsL, List.take, List.length_cons, List.length_nil, readN, N5.set, a3, b3, c3, d3, e3], e1, e2⟩
theorem readSn_of : ∀ (l : List Sn) (t : TK) (acc : List Sn) (r : Bs), t.b = true → t.s = snsBytes l ++ r → (∀ w ∈ l, w.k.length ≤ 8 ∧ 0 ≤ w.n ∧ w.n ≤ 1000000000000) → ∃ t', readSn l.length t acc = (t', acc ++ l) ∧ t'.s = r ∧ t'.b = true
  | [], t, acc, r, hb, hs, _ => ⟨t, by simp [readSn], by simpa [snsBytes] using hs, hb⟩
  | w :: l, t, acc, r, hb, hs, hw => by
    obtain ⟨q1, q2, q3⟩ := hw w (List.mem_cons_self ..)
    have hs' : t.s = Go.Proofs.YtnblecdpkbempaaGreatDoor.text w.k ++ (Go.Proofs.YtnblecdpkbempaaGreatDoor.num w.n.toNat ++ (snsBytes l ++ r)) := by
      rw [hs]; simp [snsBytes, snBytes, numsB_cons, numsB_nil, List.append_assoc]
    obtain ⟨a1, a2, a3⟩ := TK.text_of hb hs' (by omega)
    obtain ⟨b1, b2, b3⟩ := TK.num_of a2 a1 (by omega)
    obtain ⟨t', d1, d2, d3⟩ := readSn_of l t.text.num (acc ++ [w]) r b2 b1 fun w hw' => hw w (List.mem_cons_of_mem _ hw')
    refine ⟨t', ?_, d2, d3⟩
    rw [List.length_cons, readSn, a3, b3, Int.toNat_of_nonneg q2, d1, List.append_assoc]; rfl
theorem readEv_of : ∀ (l : List Evt) (t : TK) (acc : List Evt) (r : Bs), t.b = true → t.s = evsBytes l ++ r → (∀ w ∈ l, w.k.length ≤ 8 ∧ (0 ≤ w.n ∧ w.n ≤ 1000000000000) ∧ w.v.length ≤ 40) → ∃ t', readEv l.length t acc = (t', acc ++ l) ∧ t'.s = r ∧ t'.b = true
  | [], t, acc, r, hb, hs, _ => ⟨t, by simp [readEv], by simpa [evsBytes] using hs, hb⟩
  | w :: l, t, acc, r, hb, hs, hw => by
    obtain ⟨q1, ⟨q2, q3⟩, q4⟩ := hw w (List.mem_cons_self ..)
    have hs' : t.s = Go.Proofs.YtnblecdpkbempaaGreatDoor.text w.k ++ (Go.Proofs.YtnblecdpkbempaaGreatDoor.num w.n.toNat ++ (Go.Proofs.YtnblecdpkbempaaGreatDoor.text w.v ++ ((if w.d then [1] else [0]) ++ (evsBytes l ++ r)))) := by
      rw [hs]; simp [evsBytes, evBytes, flagB, numsB_cons, numsB_nil, List.append_assoc]
    obtain ⟨a1, a2, a3⟩ := TK.text_of hb hs' (by omega)
    obtain ⟨b1, b2, b3⟩ := TK.num_of a2 a1 (by omega)
    obtain ⟨c1, c2, c3⟩ := TK.text_of b2 b1 (by omega)
    obtain ⟨e1, e2, e3⟩ := TK.flag_of c2 c1
    obtain ⟨t', d1, d2, d3⟩ := readEv_of l t.text.num.text.flag (acc ++ [w]) r e2 e1 fun w hw' => hw w (List.mem_cons_of_mem _ hw')
    refine ⟨t', ?_, d2, d3⟩
    rw [List.length_cons, readEv, a3, b3, c3, e3, Int.toNat_of_nonneg q2, d1, List.append_assoc]; rfl
theorem readPl_of : ∀ (l : List Plc) (t : TK) (acc : List Plc) (r : Bs), t.b = true → t.s = plsBytes l ++ r → (∀ x ∈ l, (0 ≤ x.id ∧ x.id ≤ 1000000000000) ∧ (0 ≤ x.ep ∧ x.ep ≤ 1000000000000) ∧ (0 ≤ x.nd ∧ x.nd ≤ 3) ∧ x.f.length ≤ 8 ∧ x.t.length ≤ 8) → ∃ t', readPl l.length t acc = (t', acc ++ l) ∧ t'.s = r ∧ t'.b = true
  | [], t, acc, r, hb, hs, _ => ⟨t, by simp [readPl], by simpa [plsBytes] using hs, hb⟩
  | w :: l, t, acc, r, hb, hs, hw => by
    obtain ⟨⟨q1, q2⟩, ⟨q3, q4⟩, ⟨q5, q6⟩, q7, q8⟩ := hw w (List.mem_cons_self ..)
    have hs' : t.s = Go.Proofs.YtnblecdpkbempaaGreatDoor.num w.id.toNat ++ (Go.Proofs.YtnblecdpkbempaaGreatDoor.num w.ep.toNat ++ (Go.Proofs.YtnblecdpkbempaaGreatDoor.num w.nd.toNat ++ (Go.Proofs.YtnblecdpkbempaaGreatDoor.text w.f ++ (Go.Proofs.YtnblecdpkbempaaGreatDoor.text w.t ++ (plsBytes l ++ r))))) := by
      rw [hs]; simp [plsBytes, plBytes, numsB_cons, numsB_nil, List.append_assoc]
    obtain ⟨a1, a2, a3⟩ := TK.num_of hb hs' (by omega)
    obtain ⟨b1, b2, b3⟩ := TK.num_of a2 a1 (by omega)
    obtain ⟨c1, c2, c3⟩ := TK.num_of b2 b1 (by omega)
    obtain ⟨e1, e2, e3⟩ := TK.text_of c2 c1 (by omega)
    obtain ⟨f1, f2, f3⟩ := TK.text_of e2 e1 (by omega)
    obtain ⟨t', d1, d2, d3⟩ := readPl_of l t.num.num.num.text.text (acc ++ [w]) r f2 f1 fun w hw' => hw w (List.mem_cons_of_mem _ hw')
    refine ⟨t', ?_, d2, d3⟩
    rw [List.length_cons, readPl, a3, b3, c3, e3, f3, Int.toNat_of_nonneg q1, Int.toNat_of_nonneg q3, Int.toNat_of_nonneg q5, d1, List.append_assoc]; rfl
theorem own_of (l : LetV) (h : LetOk l) (t : TK) (r : Bs) (hb : t.b = true) (hs : t.s = ownB l ++ r) : (t.own l.kind).1.s = r ∧ (t.own l.kind).1.b = true ∧ (t.own l.kind).2 = (l.op, l.an) := by
  unfold TK.own ownB at *
  rw [if_pos hb]
  by_cases h1 : l.kind = 1
  · rw [if_pos h1] at hs ⊢
    rw [hs]
    obtain ⟨e1, e2, e3⟩ := readO_of l.op r (h.op h1)
    exact ⟨e2, e3, by rw [e1, h.an0 (by omega)]⟩
  · rw [if_neg h1] at hs ⊢
    by_cases h2 : l.kind = 2
    · rw [if_pos h2] at hs ⊢
      rw [hs]
      obtain ⟨e1, e2, e3⟩ := readA_of l.an r (h.an h2)
      exact ⟨e2, e3, by rw [e1, h.op0 h1]⟩
    · rw [if_neg h2] at hs ⊢
      exact ⟨by simpa using hs, hb, by rw [h.op0 h1, h.an0 h2]⟩
theorem rawL_of (l : LetV) (hl : letB l = true) : ∃ t', rawL (bodyL l) = (t', l) ∧ t'.s = [] ∧ t'.b = true := by
  have h := letOk hl
  have hk := h.k1; have hk2 := h.k2
  have hlen := namesL_len l
  have hs : (tk0 (bodyL l)).s = num l.kind.toNat ++ (num l.fr.toNat ++ (num l.to.toNat ++ (num (namesL l).length ++ (numsB (namesL l) ++ (ownB l ++ (text l.f ++ (text l.t ++ (num l.seen.length ++ (snsBytes l.seen ++ (num l.ev.length ++ (evsBytes l.ev ++ (num l.pl.length ++ (plsBytes l.pl ++ (text l.data ++ [])))))))))))))) := by
    show bodyL l = _
    simp only [bodyL, head4, head3, head2, head1, head0, numsB_cons, numsB_nil, List.append_assoc, Int.toNat_natCast, List.append_nil]
  obtain ⟨a1, a2, a3⟩ := TK.num_of (t := tk0 (bodyL l)) rfl hs (by omega)
  obtain ⟨b1, b2, b3⟩ := TK.num_of a2 a1 (by have := h.fr; omega)
  obtain ⟨c1, c2, c3⟩ := TK.num_of b2 b1 (by have := h.to; omega)
  obtain ⟨m1, m2, m3⟩ := TK.many_of (m := 5) (code := 10) c2 c1 (by omega) (by omega)
  obtain ⟨tn, n1, n2, n3⟩ := readN_of l _ _ m2 m1 h.ns
  obtain ⟨o1, o2, o3⟩ := own_of l h tn _ n3 n2
  obtain ⟨p1, p2, p3⟩ := TK.text_of o2 o1 (by have := h.f; omega)
  obtain ⟨q1, q2, q3⟩ := TK.text_of p2 p1 (by have := h.t; omega)
  have hsl := h.sl; have hel := h.el; have hpl := h.pl; have hdt := h.dt
  obtain ⟨r1, r2, r3⟩ := TK.many_of (m := 60) (code := 10) q2 q1 (by omega) (by omega)
  obtain ⟨ts, s1, s2, s3⟩ := readSn_of l.seen _ [] _ r2 r1 h.s
  obtain ⟨u1, u2, u3⟩ := TK.many_of (m := 8) (code := 10) s3 s2 (by omega) (by omega)
  obtain ⟨te, v1, v2, v3⟩ := readEv_of l.ev _ [] _ u2 u1 h.e
  obtain ⟨w1, w2, w3⟩ := TK.many_of (m := 8) (code := 10) v3 v2 (by omega) (by omega)
  obtain ⟨tp, x1, x2, x3⟩ := readPl_of l.pl _ [] _ w2 w1 h.p
  obtain ⟨y1, y2, y3⟩ := TK.text_of x3 x2 (by omega)
  refine ⟨tp.text, ?_, y1, y2⟩
  have hkr : ((TK.numR (tk0 (bodyL l)) : Nat) : Int) = l.kind := by rw [a3]; omega
  unfold rawL
  simp only
  rw [m3, n1]
  simp only
  rw [hkr, r3, s1]
  simp only
  rw [u3, v1]
  simp only
  rw [w3, x1]
  simp only
  rw [o3, b3, c3, p3, q3, y3, Int.toNat_of_nonneg h.fr.1, Int.toNat_of_nonneg h.to.1]
  rfl

theorem openT_wrap (t rest : Bs) (h : t.length ≤ 200000) : openT (wrap t ++ rest) = (⟨rest, true, false, 0, 0⟩, t) := by
  have hb4 := bytes4_len (sum (text t))
  have e : wrap t ++ rest = bytes4 (sum (text t)) ++ (text t ++ rest) := by rw [wrap, List.append_assoc]
  have h4 : ¬ (wrap t ++ rest).length < 4 := by rw [e, List.length_append, hb4]; omega
  have hd : (wrap t ++ rest).drop 4 = text t ++ rest := by rw [e, ← hb4, List.drop_left]
  have ht : (wrap t ++ rest).take 4 = bytes4 (sum (text t)) := by rw [e, ← hb4, List.take_left]
  have hm : ((wrap t ++ rest).take ((wrap t ++ rest).length - rest.length)).drop 4 = text t := by
    rw [show (wrap t ++ rest).length - rest.length = (wrap t).length by rw [List.length_append]; omega, List.take_left, wrap, ← hb4, List.drop_left]
  unfold openT
  rw [if_neg h4, hd, textF_text t rest 200000 (by omega) (by omega)]
  simp only
  rw [hm, ht, if_pos rfl]
theorem nums1_len (n : Int) (h : n < 281474976710656) : (numsB [n]).length ≤ 8 := by
  rw [numsB_cons, numsB_nil, List.append_nil]; exact numLe _ (by omega)
theorem numsB_len : ∀ (l : List Int), (∀ n ∈ l, n < 281474976710656) → (numsB l).length ≤ 8 * l.length
  | [], _ => by simp [numsB]
  | a :: l, h => by
    rw [numsB_cons, List.length_append, List.length_cons]
    have := numLe a.toNat (by have := h a (List.mem_cons_self ..); omega)
    have := numsB_len l fun n hn => h n (List.mem_cons_of_mem _ hn)
    omega
theorem flat_le {α : Type} (f : α → Bs) (c : Nat) : ∀ (l : List α), (∀ x ∈ l, (f x).length ≤ c) → ((l.map f).flatten).length ≤ c * l.length
  | [], _ => by simp
  | a :: l, h => by
    rw [List.map_cons, List.flatten_cons, List.length_append, List.length_cons, Nat.mul_succ]
    have := h a (List.mem_cons_self ..)
    have := flat_le f c l fun x hx => h x (List.mem_cons_of_mem _ hx)
    omega
theorem flagB_len (b : Bool) : (flagB b).length = 1 := by cases b <;> rfl
theorem snBytes_len {x : Sn} (h : x.k.length ≤ 8 ∧ 0 ≤ x.n ∧ x.n ≤ 1000000000000) : (snBytes x).length ≤ 24 := by
  unfold snBytes; rw [List.length_append]
  have := textLe x.k (by omega); have := nums1_len x.n (by omega); omega
theorem evBytes_len {x : Evt} (h : x.k.length ≤ 8 ∧ (0 ≤ x.n ∧ x.n ≤ 1000000000000) ∧ x.v.length ≤ 40) : (evBytes x).length ≤ 73 := by
  unfold evBytes; simp only [List.length_append, flagB_len]
  have := textLe x.k (by omega); have := nums1_len x.n (by omega); have := textLe x.v (by omega); omega
theorem plBytes_len {x : Plc} (h : (0 ≤ x.id ∧ x.id ≤ 1000000000000) ∧ (0 ≤ x.ep ∧ x.ep ≤ 1000000000000) ∧ (0 ≤ x.nd ∧ x.nd ≤ 3) ∧ x.f.length ≤ 8 ∧ x.t.length ≤ 8) : (plBytes x).length ≤ 56 := by
  unfold plBytes; simp only [List.length_append]
  have := textLe x.f (by omega); have := textLe x.t (by omega)
  have := numsB_len [x.id, x.ep, x.nd] (by intro n hn; simp at hn; omega)
  simp only [List.length_cons, List.length_nil] at this
  omega
theorem wsBytes_len (l : List Wr) (h : ∀ w ∈ l, w.k.length ≤ 8 ∧ w.v.length ≤ 40) : (wsBytes l).length ≤ 65 * l.length := flat_le wrBytes 65 l fun w hw => by
  have := h w hw
  unfold wrBytes; simp only [List.length_append]
  have := textLe w.k (by omega); have := textLe w.v (by omega)
  have : (if w.d then [1] else [0] : Bs).length = 1 := by split <;> rfl
  omega
theorem rsBytes_len (l : List Rw) (h : ∀ r ∈ l, r.k.length ≤ 255 ∧ r.v.length ≤ 255 ∧ 0 ≤ r.n ∧ r.n < 281474976710656) : (rsBytes l).length ≤ 534 * l.length := flat_le rwBytes 534 l fun w hw => by
  have := h w hw
  unfold rwBytes; simp only [List.length_append]
  have := textLe w.k (by omega); have := textLe w.v (by omega); have := numLe w.n.toNat (by omega)
  omega
theorem bytesO_len {o : OpV} (h : opB o = true) : (bytesO o).length ≤ 9000 := by
  obtain ⟨⟨b1, b2⟩, ⟨b3, b4, b5⟩, ⟨b6, b7⟩, b8, b9⟩ := op_bounds h
  have q1 := numLe o.kind.toNat (by omega); have q2 := textLe o.key (by omega); have q3 := textLe o.to (by omega); have q4 := textLe o.val (by omega); have q5 := numLe o.ver.toNat (by omega); have q6 := numLe o.ws.length (by omega)
  have := wsBytes_len o.ws b9
  simp only [bytesO, headO, List.length_append]; omega
theorem bytesA_len {a : AnV} (h : anB a = true) : (bytesA a).length ≤ 9000 := by
  obtain ⟨⟨b1, b2⟩, ⟨b3, b4⟩, b5, b8, b9⟩ := an_bounds h
  have q1 := numLe a.code.toNat (by omega); have q2 := textLe a.val (by omega); have q5 := numLe a.ver.toNat (by omega); have q6 := numLe a.rows.length (by omega)
  have := rsBytes_len a.rows b9
  simp only [bytesA, headA, List.length_append]; omega
theorem ownB_len {l : LetV} (h : LetOk l) : (ownB l).length ≤ 9000 := by
  unfold ownB
  split
  · rename_i h1; exact bytesO_len (h.op h1)
  · split
    · rename_i h2; exact bytesA_len (h.an h2)
    · simp
theorem names_bounds {l : LetV} (h : LetOk l) : ∀ n ∈ namesL l, 0 ≤ n ∧ n ≤ 1000000000000 := fun n hn => h.ns n (List.mem_of_mem_take hn)
theorem head0_len {l : LetV} (h : LetOk l) : (head0 l).length ≤ 72 := by
  unfold head0; rw [List.length_append]
  have := h.k2; have := h.fr; have := h.to; have hl := namesL_len l
  have h1 := numsB_len [l.kind, l.fr, l.to, ((namesL l).length : Int)] (by intro n hn; simp at hn; omega)
  have h2 := numsB_len (namesL l) fun n hn => by have := names_bounds h n hn; omega
  simp only [List.length_cons, List.length_nil] at h1
  omega
theorem head2_len {l : LetV} (h : LetOk l) : (head2 l).length ≤ 9200 := by
  unfold head2 head1; simp only [List.length_append]
  have := head0_len h; have := ownB_len h
  have := textLe l.f (by have := h.f; omega); have := textLe l.t (by have := h.t; omega)
  have := nums1_len (l.seen.length : Int) (by have := h.sl; omega)
  have := h.f; have := h.t
  omega
theorem snsBytes_len {l : LetV} (h : LetOk l) (i : Nat) : (snsBytes (l.seen.take i)).length ≤ 24 * 60 := by
  have h1 := flat_le snBytes 24 (l.seen.take i) fun x hx => snBytes_len (h.s x (List.mem_of_mem_take hx))
  have h2 : (l.seen.take i).length ≤ 60 := Nat.le_trans (by rw [List.length_take]; omega) h.sl
  exact Nat.le_trans h1 (Nat.mul_le_mul_left 24 h2)
theorem evsBytes_len {l : LetV} (h : LetOk l) (i : Nat) : (evsBytes (l.ev.take i)).length ≤ 73 * 8 := by
  have h1 := flat_le evBytes 73 (l.ev.take i) fun x hx => evBytes_len (h.e x (List.mem_of_mem_take hx))
  have h2 : (l.ev.take i).length ≤ 8 := Nat.le_trans (by rw [List.length_take]; omega) h.el
  exact Nat.le_trans h1 (Nat.mul_le_mul_left 73 h2)
theorem plsBytes_len {l : LetV} (h : LetOk l) (i : Nat) : (plsBytes (l.pl.take i)).length ≤ 56 * 8 := by
  have h1 := flat_le plBytes 56 (l.pl.take i) fun x hx => plBytes_len (h.p x (List.mem_of_mem_take hx))
  have h2 : (l.pl.take i).length ≤ 8 := Nat.le_trans (by rw [List.length_take]; omega) h.pl
  exact Nat.le_trans h1 (Nat.mul_le_mul_left 56 h2)
theorem head3_len {l : LetV} (h : LetOk l) : (head3 l).length ≤ 10700 := by
  unfold head3; simp only [List.length_append]
  have := head2_len h
  have h1 := snsBytes_len h l.seen.length
  rw [List.take_length] at h1
  have := nums1_len (l.ev.length : Int) (by have := h.el; omega)
  omega
theorem head4_len {l : LetV} (h : LetOk l) : (head4 l).length ≤ 11400 := by
  unfold head4; simp only [List.length_append]
  have := head3_len h
  have h1 := evsBytes_len h l.ev.length
  rw [List.take_length] at h1
  have := nums1_len (l.pl.length : Int) (by have := h.pl; omega)
  omega
theorem bodyL_len {l : LetV} (h : LetOk l) : (bodyL l).length ≤ 12200 := by
  unfold bodyL; simp only [List.length_append]
  have := head4_len h
  have h1 := plsBytes_len h l.pl.length
  rw [List.take_length] at h1
  have := textLe l.data (by have := h.dt; omega)
  have := h.dt
  omega
theorem bytesL_len {l : LetV} (h : letB l = true) : (bytesL l).length ≤ 12300 ∧ 5 ≤ (bytesL l).length := by
  have h1 := bodyL_len (letOk h)
  have h2 := text_len8 (bodyL l) (by omega)
  have h3 := text_pos (bodyL l)
  unfold bytesL; rw [wrap_len]; omega
/-- a letter's bytes are read as it -/
theorem readL_of {l : LetV} (h : letB l = true) : readL (bytesL l) = (⟨[], true, false, 0, 10⟩, l) := by
  have h1 := bodyL_len (letOk h)
  have e := openT_wrap (bodyL l) [] (by omega)
  rw [List.append_nil] at e
  obtain ⟨t', e1, e2, e3⟩ := rawL_of l h
  unfold readL bytesL
  rw [e]
  simp only
  rw [if_pos trivial, if_pos trivial, e1]
  simp only
  rw [if_pos]
  simp [e3, e2, h]
theorem readL_more {l : LetV} (h : letB l = true) {x : Bs} (hx : ¬ x = []) : readL (bytesL l ++ x) = (⟨[], false, false, 0, 10⟩, zeroL) := by
  have h1 := bodyL_len (letOk h)
  have e := openT_wrap (bodyL l) x (by omega)
  unfold readL bytesL
  rw [e]
  simp only
  rw [if_pos trivial, if_neg hx]
/-- what is read well has these bytes -/
theorem readL_ok {s : Bs} (h : (readL s).1.b = true) : letB (readL s).2 = true ∧ bytesL (readL s).2 = s := by
  unfold readL at *
  split at h
  · rename_i h1
    rw [if_pos h1]
    split at h
    · rename_i h2
      rw [if_pos h2]
      split at h
      · rename_i h3
        rw [if_pos h3]
        simp only [Bool.and_eq_true, decide_eq_true_eq] at h3
        exact h3.2
      · cases h
    · cases h
  · rename_i h1; exact absurd h h1
/-- bytes tell the letter -/
theorem bytesL_inj {a b : LetV} (ha : letB a = true) (hb : letB b = true) (h : bytesL a = bytesL b) : a = b := by
  have h1 := readL_of ha
  rw [h, readL_of hb] at h1
  exact (Prod.mk.inj h1).2.symm
/-- cut off they aren't read -/
theorem num_pre : ∀ (f k : Nat), k < 64 ^ (f + 1) → ∀ (a : Nat) (ra rb : Bs), a < 64 ^ (f + 1) → num k ++ ra = num a ++ rb → k = a ∧ ra = rb := fun f => by
  induction f with
  | zero =>
    intro k hk a ra rb ha h
    rw [num_lo (by omega), num_lo (by omega)] at h
    have := List.cons.inj h
    exact ⟨by have h := congrArg UInt8.toNat this.1; simp only [UInt8.toNat_ofNat'] at h; omega, this.2⟩
  | succ f ih =>
    intro k hk a ra rb ha h
    rcases Nat.lt_or_ge k 64 with h1 | h1 <;> rcases Nat.lt_or_ge a 64 with h2 | h2
    · rw [num_lo h1, num_lo h2] at h
      have := List.cons.inj h
      exact ⟨by have h := congrArg UInt8.toNat this.1; simp only [UInt8.toNat_ofNat'] at h; omega, this.2⟩
    · rw [num_lo h1, num_hi h2] at h
      have := List.cons.inj h
      exact absurd (congrArg UInt8.toNat this.1) (by simp only [UInt8.toNat_ofNat']; omega)
    · rw [num_hi h1, num_lo h2] at h
      have := List.cons.inj h
      exact absurd (congrArg UInt8.toNat this.1) (by simp only [UInt8.toNat_ofNat']; omega)
    · rw [num_hi h1, num_hi h2] at h
      have := List.cons.inj h
      have h3 := congrArg UInt8.toNat this.1
      simp only [UInt8.toNat_ofNat'] at h3
      obtain ⟨e1, e2⟩ := ih (k / 64) (Nat.div_lt_of_lt_mul (by rw [Nat.pow_succ] at hk; omega)) (a / 64) ra rb (Nat.div_lt_of_lt_mul (by rw [Nat.pow_succ] at ha; omega)) this.2
      exact ⟨by omega, e2⟩
theorem wrap_pre {a b r : Bs} (ha : a.length < 281474976710656) (hb : b.length < 281474976710656) (h : wrap a = wrap b ++ r) : r = [] := by
  unfold wrap at h
  rw [List.append_assoc] at h
  have h2 := (List.append_inj h (by rw [bytes4_len, bytes4_len])).2
  rw [← List.append_nil (text a), text_app, text_app, ] at h2
  obtain ⟨e1, e2⟩ := num_pre 7 _ (by simpa using ha) _ _ _ (by simpa using hb) h2
  have := congrArg List.length e2
  simp only [List.length_append, List.length_nil] at this
  exact List.length_eq_zero_iff.1 (by omega)
theorem readL_cut {l : LetV} (h : letB l = true) {k : Nat} (hk : k < (bytesL l).length) : (readL ((bytesL l).take k)).1.b = false := by
  cases hq : (readL ((bytesL l).take k)).1.b with
  | false => rfl
  | true =>
    obtain ⟨h1, h2⟩ := readL_ok hq
    have e : bytesL l = bytesL (readL ((bytesL l).take k)).2 ++ (bytesL l).drop k := by rw [h2, List.take_append_drop]
    have := wrap_pre (by have := bodyL_len (letOk h); omega) (by have := bodyL_len (letOk h1); omega) e
    have := congrArg List.length this
    rw [List.length_drop, List.length_nil] at this
    omega
end Go.Proofs.YtnblecdpkbempaaGreatDoor
