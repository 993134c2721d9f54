/-
  A law of values as bytes: rows of numbers and texts. No conditions.
-/
import Derived.Test.YtciiiceloghkmaaDoorLaw4
namespace Go.Proofs.YtciiiceloghkmaaDoor
open Go.RowKit
set_option linter.unusedSimpArgs false
set_option linter.unusedVariables false
/-- a number as a row -/
abbrev encW (w : UInt32) : List V := [.int .u32 (w.toNat : Int)]
abbrev encT (s : Bs) : List V := [.str s]
def optB : Option Bs → Bs
  | some s => text s
  | none => []
def all : List UInt32 → List Bs → List (UInt32 × Option Bs)
  | [], _ => []
  | n :: l, [] => (n, none) :: all l []
  | n :: l, s :: m => (n, some s) :: all l m
def one (p : UInt32 × Option Bs) : Bs := num p.1.toNat ++ optB p.2
def enc (l : List (UInt32 × Option Bs)) : Bs := l.flatMap one
theorem all_get : ∀ (l : List UInt32) (m : List Bs) (i : Nat), (all l m)[i]? = (l[i]?).map fun n => (n, m[i]?)
  | [], m, i => by simp [all]
  | n :: l, [], 0 => by simp [all]
  | n :: l, [], i + 1 => by simp [all, all_get l [] i]
  | n :: l, s :: m, 0 => by simp [all]
  | n :: l, s :: m, i + 1 => by simp [all, all_get l m i]
theorem all_len : ∀ (l : List UInt32) (m : List Bs), (all l m).length = l.length
  | [], m => by simp [all]
  | n :: l, [] => by simp [all, all_len l []]
  | n :: l, s :: m => by simp [all, all_len l m]
theorem enc_take {l : List UInt32} {m : List Bs} {i : Nat} {w : UInt32} (h : l[i]? = some w) : enc ((all l m).take (i + 1)) = enc ((all l m).take i) ++ num w.toNat ++ optB m[i]? := by
  have h1 : (all l m)[i]? = some (w, m[i]?) := by rw [all_get, h]; rfl
  rw [List.take_add_one, h1]
  simp [enc, one, List.flatMap_append, List.append_assoc]
theorem enc_drop {l : List UInt32} {m : List Bs} {i : Nat} {w : UInt32} (h : l[i]? = some w) : enc ((all l m).drop i) = num w.toNat ++ (optB m[i]? ++ enc ((all l m).drop (i + 1))) := by
  have h1 : (all l m)[i]? = some (w, m[i]?) := by rw [all_get, h]; rfl
  obtain ⟨h2, h3⟩ := List.getElem?_eq_some_iff.1 h1
  rw [List.drop_eq_getElem_cons h2, h3]
  simp [enc, one, List.append_assoc]
theorem enc_end (l : List UInt32) (m : List Bs) : enc ((all l m).drop l.length) = [] := by
  rw [List.drop_eq_nil_of_le (by rw [all_len]; exact Nat.le_refl _)]; rfl
theorem enc_all (l : List UInt32) (m : List Bs) : (all l m).take l.length = all l m := List.take_of_length_le (by rw [all_len]; exact Nat.le_refl _)

set_option maxRecDepth 100000 in
set_option maxHeartbeats 1000000 in
theorem packRows_fn (l : List UInt32) (m : List Bs) : Fn Tryd.prog 3 [.sl (l.map encW), .sl (m.map encT)] (.bool true) := by
  refine Fn.mk' base Tryd.func3 rfl rfl rfl ?_
  refine AW.len 0 rfl (fun hlen => ?_)
  simp only [List.length_map, maxLen] at hlen
  refine AW.len 1 rfl (fun hlen2 => ?_)
  simp only [List.length_map, maxLen] at hlen2
  repeat' (first
      | (with_reducible refine AW.seq ?_) | (with_reducible refine AW.region base (by kernel_rfl) ?_) | (with_reducible refine AW.cond ?_) | (with_reducible refine AW.block ?_) | (with_reducible refine AW.ret ?_) | (with_reducible refine AW.exit ?_) | (with_reducible refine AW.skip ?_)
      | ((conv => whnf); (first
         | (with_reducible refine Br.t ?_)
         | (with_reducible refine Br.f ?_)
         | (refine Br.t ?_)
         | (refine Br.f ?_)
         | (with_reducible refine Br.mk (fun hb => ?_) (fun hb => (by exfalso; (first | omega | (simp at hb; done) | (simp at hb; omega)))))
         | (with_reducible refine Br.mk (fun hb => (by exfalso; (first | omega | (simp at hb; done) | (simp at hb; omega)))) (fun hb => ?_))
         | (with_reducible refine Or.inl ⟨_, known4_fn, ?_⟩)
         | ((with_reducible refine Or.inl ?_); (conv => whnf); (with_reducible refine ⟨_, known4_fn, ?_⟩))
         | (with_reducible refine Br.mk (fun hb => ?_) (fun hb => ?_) <;> (try rw [hb]) <;> (try simp only [List.length_map, decide_eq_true_eq, decide_eq_false_iff_not, Bool.not_eq_true', Bool.not_eq_false', Int.ofNat_lt, Int.ofNat_le, Int.not_lt, Int.not_le, Int.toNat_natCast] at hb))
         | (with_reducible refine ⟨_, (by first | exact ByteRows.map _ | (repeat (first | exact ByteRows.nil | exact ByteRows.map _ | refine ByteRows.cons ?_ | refine ByteRows.app ?_ ?_))), ?_⟩)
         | (refine Exists.intro _ (And.intro (ByteRows.rep _) ?_))
         | (refine Exists.intro _ (And.intro (ByteRows.app (ByteRows.map _) (ByteRows.cons ByteRows.nil)) ?_))
         | ((with_reducible refine And.intro ?_ ?_); (focus (first | with_reducible rfl | exact trivial | (exact ⟨rfl, trivial⟩) | (exact ⟨rfl, rfl, trivial⟩) | omega | (intro r hr; simp only [List.mem_singleton] at hr; subst hr; rfl)  | ((have := UInt32.toNat_lt w; simp only [in64] at *; omega)) | ((have := num_len8 w.toNat (by have := UInt32.toNat_lt w; omega); simp only [List.length_append, maxLen, Int.toNat_natCast] at *; omega)) | ((have := num_len8 w.toNat (by have := UInt32.toNat_lt w; omega); have := text_len8 q (by omega); simp only [List.length_append, maxLen, Int.toNat_natCast] at *; omega)) | (simp only [in64]; omega) | assumption | (simp; done) | (simp [V.cells]; done) | (simp [in64, maxLen, limK] at *; omega) | ((show confB _ _ = true); kernel_rfl) | rfl)))
         | (intro row hrow; (try simp only [Int.toNat_natCast, List.length_map, toNat_pred, toNat_succ', toNat_zero', toNat_one'] at hrow); (first | (have hsm := same_map (by assumption) hrow; subst hsm; clear hrow) | (obtain ⟨p, hp, rfl⟩ := of_map hrow; clear hrow)))
         | (with_reducible refine AW.seq ?_) | (with_reducible refine AW.region base (by kernel_rfl) ?_) | (with_reducible refine AW.cond ?_) | (with_reducible refine AW.block ?_) | (with_reducible refine AW.ret ?_) | (with_reducible refine AW.exit ?_) | (with_reducible refine AW.skip ?_))))
  all_goals try ((conv => whnf); first | rfl | done)
  refine AW.loop (fun (⟨i, b⟩ : Nat × Bs) => i ≤ l.length ∧ l.length ≤ 20 ∧ m.length ≤ 20 ∧ b = enc ((all l m).take i) ∧ b.length ≤ 100 * i ∧ ∀ (j : Nat) (q : Bs), j < i → m[j]? = some q → q.length ≤ 60) (fun (⟨i, b⟩ : Nat × Bs) => ⟨[(0, .sl (l.map encW)), (1, .sl (m.map encT)), (5, .str b), (6, .int .i64 (i : Int))], []⟩) (fun (⟨i, b⟩ : Nat × Bs) => l.length - i) (0, []) ?_ ?_ ?_
  · (exact ⟨by omega, by omega, by omega, rfl, by simp, fun j q h => by omega⟩)
  · (refine ⟨⟨[], ?_⟩⟩; repeat' (first | (with_reducible rfl) | exact trivial | ((conv => whnf); (first | (with_reducible refine And.intro ?_ ?_) | (first | rfl | (refine congrArg V.str ?_; (first | rfl | omega | (simp; done))) | (refine congrArg (V.int _) ?_; (first | rfl | omega | (simp; done))) | (refine congrArg V.bool ?_; (first | rfl | omega | (simp; done))) | (refine congrArg V.sl ?_; (first | rfl | omega | (simp; done))) | (first | rfl | omega | (simp; done)))))))
  · rintro ⟨i, b⟩ hk
    obtain ⟨hk1, hk2, hk3, hk4, hk5, hk6⟩ := hk
    rcases (by omega : i = l.length ∨ i < l.length) with hi | hi
    · subst hi
      rw [enc_all] at hk4
      subst hk4
      repeat' (first
          | (with_reducible refine AW.seq ?_) | (with_reducible refine AW.region base (by kernel_rfl) ?_) | (with_reducible refine AW.cond ?_) | (with_reducible refine AW.block ?_) | (with_reducible refine AW.ret ?_) | (with_reducible refine AW.exit ?_) | (with_reducible refine AW.skip ?_)
          | ((conv => whnf); (first
             | (with_reducible refine Br.t ?_)
             | (with_reducible refine Br.f ?_)
             | (refine Br.t ?_)
             | (refine Br.f ?_)
             | (with_reducible refine Br.mk (fun hb => ?_) (fun hb => (by exfalso; (first | omega | (simp at hb; done) | (simp at hb; omega)))))
             | (with_reducible refine Br.mk (fun hb => (by exfalso; (first | omega | (simp at hb; done) | (simp at hb; omega)))) (fun hb => ?_))
             | (with_reducible refine Or.inl ⟨_, known4_fn, ?_⟩)
             | ((with_reducible refine Or.inl ?_); (conv => whnf); (with_reducible refine ⟨_, known4_fn, ?_⟩))
             | (with_reducible refine Or.inl ⟨_, num_fn _ (by first | omega | (have := UInt32.toNat_lt w; omega)), ?_⟩)
             | ((with_reducible refine Or.inl ?_); (conv => whnf); (with_reducible refine ⟨_, num_fn _ (by first | omega | (have := UInt32.toNat_lt w; omega)), ?_⟩))
             | (with_reducible refine Or.inl ⟨_, text_fn _ (by first | omega | assumption), ?_⟩)
             | ((with_reducible refine Or.inl ?_); (conv => whnf); (with_reducible refine ⟨_, text_fn _ (by first | omega | assumption), ?_⟩))
             | (with_reducible refine Or.inl ⟨_, take_ok' _ _ _ hs1 (by have := UInt32.toNat_lt w; omega), ?_⟩)
             | ((with_reducible refine Or.inl ?_); (conv => whnf); (with_reducible refine ⟨_, take_ok' _ _ _ hs1 (by have := UInt32.toNat_lt w; omega), ?_⟩))
             | (with_reducible refine Or.inl ⟨_, takeText_ok _ _ _ (by omega) (by omega), ?_⟩)
             | ((with_reducible refine Or.inl ?_); (conv => whnf); (with_reducible refine ⟨_, takeText_ok _ _ _ (by omega) (by omega), ?_⟩))
             | (with_reducible refine Br.mk (fun hb => ?_) (fun hb => ?_) <;> (try rw [hb]) <;> (try simp only [List.length_map, decide_eq_true_eq, decide_eq_false_iff_not, Bool.not_eq_true', Bool.not_eq_false', Int.ofNat_lt, Int.ofNat_le, Int.not_lt, Int.not_le, Int.toNat_natCast] at hb))
             | (with_reducible refine ⟨_, (by first | exact ByteRows.map _ | (repeat (first | exact ByteRows.nil | exact ByteRows.map _ | refine ByteRows.cons ?_ | refine ByteRows.app ?_ ?_))), ?_⟩)
             | (refine Exists.intro _ (And.intro (ByteRows.rep _) ?_))
             | (refine Exists.intro _ (And.intro (ByteRows.app (ByteRows.map _) (ByteRows.cons ByteRows.nil)) ?_))
             | ((with_reducible refine And.intro ?_ ?_); (focus (first | with_reducible rfl | exact trivial | (exact ⟨rfl, trivial⟩) | (exact ⟨rfl, rfl, trivial⟩) | omega | (intro r hr; simp only [List.mem_singleton] at hr; subst hr; rfl)  | ((have := UInt32.toNat_lt w; simp only [in64] at *; omega)) | ((have := num_len8 w.toNat (by have := UInt32.toNat_lt w; omega); simp only [List.length_append, maxLen, Int.toNat_natCast] at *; omega)) | ((have := num_len8 w.toNat (by have := UInt32.toNat_lt w; omega); have := text_len8 q (by omega); simp only [List.length_append, maxLen, Int.toNat_natCast] at *; omega)) | (simp only [in64]; omega) | assumption | (simp; done) | (simp [V.cells]; done) | (simp [in64, maxLen, limK] at *; omega) | ((show confB _ _ = true); kernel_rfl) | rfl)))
             | (intro row hrow; (try simp only [Int.toNat_natCast, List.length_map, toNat_pred, toNat_succ', toNat_zero', toNat_one'] at hrow); (first | (have hsm := same_map (by assumption) hrow; subst hsm; clear hrow) | (obtain ⟨p, hp, rfl⟩ := of_map hrow; clear hrow)))
             | (with_reducible refine AW.seq ?_) | (with_reducible refine AW.region base (by kernel_rfl) ?_) | (with_reducible refine AW.cond ?_) | (with_reducible refine AW.block ?_) | (with_reducible refine AW.ret ?_) | (with_reducible refine AW.exit ?_) | (with_reducible refine AW.skip ?_))))
      refine AW.loop (fun (⟨j, x⟩ : Nat × Bs) => j ≤ l.length ∧ x = enc ((all l m).drop j)) (fun (⟨j, x⟩ : Nat × Bs) => ⟨[(0, .sl (l.map encW)), (1, .sl (m.map encT)), (5, .str x), (7, .int .i64 (j : Int))], []⟩) (fun (⟨j, x⟩ : Nat × Bs) => l.length - j) (0, enc (all l m)) ?_ ?_ ?_
      · (exact ⟨by omega, by rw [List.drop_zero]⟩)
      · (refine ⟨⟨[], ?_⟩⟩; repeat' (first | (with_reducible rfl) | exact trivial | ((conv => whnf); (first | (with_reducible refine And.intro ?_ ?_) | (first | rfl | (refine congrArg V.str ?_; (first | rfl | omega | (simp; done))) | (refine congrArg (V.int _) ?_; (first | rfl | omega | (simp; done))) | (refine congrArg V.bool ?_; (first | rfl | omega | (simp; done))) | (refine congrArg V.sl ?_; (first | rfl | omega | (simp; done))) | (first | rfl | omega | (simp; done)))))))
      · rintro ⟨j, x⟩ hk
        obtain ⟨hj1, hj2⟩ := hk
        rcases (by omega : j = l.length ∨ j < l.length) with hi | hi
        · subst hi
          have hb0 := enc_end l m
          subst hj2
          repeat' (first
              | (with_reducible refine AW.seq ?_) | (with_reducible refine AW.region base (by kernel_rfl) ?_) | (with_reducible refine AW.cond ?_) | (with_reducible refine AW.block ?_) | (with_reducible refine AW.ret ?_) | (with_reducible refine AW.exit ?_) | (with_reducible refine AW.skip ?_)
              | ((conv => whnf); (first
                 | (with_reducible refine Br.t ?_)
                 | (with_reducible refine Br.f ?_)
                 | (refine Br.t ?_)
                 | (refine Br.f ?_)
                 | (with_reducible refine Br.mk (fun hb => ?_) (fun hb => (by exfalso; (first | omega | (simp at hb; done) | (simp at hb; omega)))))
                 | (with_reducible refine Br.mk (fun hb => (by exfalso; (first | omega | (simp at hb; done) | (simp at hb; omega)))) (fun hb => ?_))
                 | (with_reducible refine Or.inl ⟨_, known4_fn, ?_⟩)
                 | ((with_reducible refine Or.inl ?_); (conv => whnf); (with_reducible refine ⟨_, known4_fn, ?_⟩))
                 | (with_reducible refine Or.inl ⟨_, num_fn _ (by first | omega | (have := UInt32.toNat_lt w; omega)), ?_⟩)
                 | ((with_reducible refine Or.inl ?_); (conv => whnf); (with_reducible refine ⟨_, num_fn _ (by first | omega | (have := UInt32.toNat_lt w; omega)), ?_⟩))
                 | (with_reducible refine Or.inl ⟨_, text_fn _ (by first | omega | assumption), ?_⟩)
                 | ((with_reducible refine Or.inl ?_); (conv => whnf); (with_reducible refine ⟨_, text_fn _ (by first | omega | assumption), ?_⟩))
                 | (with_reducible refine Or.inl ⟨_, take_ok' _ _ _ hs1 (by have := UInt32.toNat_lt w; omega), ?_⟩)
                 | ((with_reducible refine Or.inl ?_); (conv => whnf); (with_reducible refine ⟨_, take_ok' _ _ _ hs1 (by have := UInt32.toNat_lt w; omega), ?_⟩))
                 | (with_reducible refine Or.inl ⟨_, takeText_ok _ _ _ (by omega) (by omega), ?_⟩)
                 | ((with_reducible refine Or.inl ?_); (conv => whnf); (with_reducible refine ⟨_, takeText_ok _ _ _ (by omega) (by omega), ?_⟩))
                 | (with_reducible refine Br.mk (fun hb => ?_) (fun hb => ?_) <;> (try rw [hb]) <;> (try simp only [List.length_map, decide_eq_true_eq, decide_eq_false_iff_not, Bool.not_eq_true', Bool.not_eq_false', Int.ofNat_lt, Int.ofNat_le, Int.not_lt, Int.not_le, Int.toNat_natCast] at hb))
                 | (with_reducible refine ⟨_, (by first | exact ByteRows.map _ | (repeat (first | exact ByteRows.nil | exact ByteRows.map _ | refine ByteRows.cons ?_ | refine ByteRows.app ?_ ?_))), ?_⟩)
                 | (refine Exists.intro _ (And.intro (ByteRows.rep _) ?_))
                 | (refine Exists.intro _ (And.intro (ByteRows.app (ByteRows.map _) (ByteRows.cons ByteRows.nil)) ?_))
                 | ((with_reducible refine And.intro ?_ ?_); (focus (first | with_reducible rfl | exact trivial | (exact ⟨rfl, trivial⟩) | (exact ⟨rfl, rfl, trivial⟩) | omega | (intro r hr; simp only [List.mem_singleton] at hr; subst hr; rfl)  | ((have := UInt32.toNat_lt w; simp only [in64] at *; omega)) | ((have := num_len8 w.toNat (by have := UInt32.toNat_lt w; omega); simp only [List.length_append, maxLen, Int.toNat_natCast] at *; omega)) | ((have := num_len8 w.toNat (by have := UInt32.toNat_lt w; omega); have := text_len8 q (by omega); simp only [List.length_append, maxLen, Int.toNat_natCast] at *; omega)) | (simp only [in64]; omega) | assumption | (simp; done) | (simp [V.cells]; done) | (simp [in64, maxLen, limK] at *; omega) | ((show confB _ _ = true); kernel_rfl) | rfl)))
                 | (intro row hrow; (try simp only [Int.toNat_natCast, List.length_map, toNat_pred, toNat_succ', toNat_zero', toNat_one'] at hrow); (first | (have hsm := same_map (by assumption) hrow; subst hsm; clear hrow) | (obtain ⟨p, hp, rfl⟩ := of_map hrow; clear hrow)))
                 | (with_reducible refine AW.seq ?_) | (with_reducible refine AW.region base (by kernel_rfl) ?_) | (with_reducible refine AW.cond ?_) | (with_reducible refine AW.block ?_) | (with_reducible refine AW.ret ?_) | (with_reducible refine AW.exit ?_) | (with_reducible refine AW.skip ?_))))
          all_goals ((conv => whnf); first | (exact congrArg V.bool (decide_eq_true hb0)) | (exfalso; simp at *; omega))
        obtain ⟨w, hw⟩ : ∃ w, l[j]? = some w := ⟨_, List.getElem?_eq_getElem hi⟩
        have hs1 := enc_drop (m := m) hw
        rw [← hj2] at hs1
        rcases hq : m[j]? with _ | q
        · have hmi : m.length ≤ j := List.getElem?_eq_none_iff.1 hq
          rw [hq] at hs1
          repeat' (first
              | (with_reducible refine AW.seq ?_) | (with_reducible refine AW.region base (by kernel_rfl) ?_) | (with_reducible refine AW.cond ?_) | (with_reducible refine AW.block ?_) | (with_reducible refine AW.ret ?_) | (with_reducible refine AW.exit ?_) | (with_reducible refine AW.skip ?_)
              | ((conv => whnf); (first
                 | (with_reducible refine Br.t ?_)
                 | (with_reducible refine Br.f ?_)
                 | (refine Br.t ?_)
                 | (refine Br.f ?_)
                 | (with_reducible refine Br.mk (fun hb => ?_) (fun hb => (by exfalso; (first | omega | (simp at hb; done) | (simp at hb; omega)))))
                 | (with_reducible refine Br.mk (fun hb => (by exfalso; (first | omega | (simp at hb; done) | (simp at hb; omega)))) (fun hb => ?_))
                 | (with_reducible refine Or.inl ⟨_, known4_fn, ?_⟩)
                 | ((with_reducible refine Or.inl ?_); (conv => whnf); (with_reducible refine ⟨_, known4_fn, ?_⟩))
                 | (with_reducible refine Or.inl ⟨_, num_fn _ (by first | omega | (have := UInt32.toNat_lt w; omega)), ?_⟩)
                 | ((with_reducible refine Or.inl ?_); (conv => whnf); (with_reducible refine ⟨_, num_fn _ (by first | omega | (have := UInt32.toNat_lt w; omega)), ?_⟩))
                 | (with_reducible refine Or.inl ⟨_, text_fn _ (by first | omega | assumption), ?_⟩)
                 | ((with_reducible refine Or.inl ?_); (conv => whnf); (with_reducible refine ⟨_, text_fn _ (by first | omega | assumption), ?_⟩))
                 | (with_reducible refine Or.inl ⟨_, take_ok' _ _ _ hs1 (by have := UInt32.toNat_lt w; omega), ?_⟩)
                 | ((with_reducible refine Or.inl ?_); (conv => whnf); (with_reducible refine ⟨_, take_ok' _ _ _ hs1 (by have := UInt32.toNat_lt w; omega), ?_⟩))
                 | (with_reducible refine Or.inl ⟨_, takeText_ok _ _ _ (by omega) (by omega), ?_⟩)
                 | ((with_reducible refine Or.inl ?_); (conv => whnf); (with_reducible refine ⟨_, takeText_ok _ _ _ (by omega) (by omega), ?_⟩))
                 | (with_reducible refine Br.mk (fun hb => ?_) (fun hb => ?_) <;> (try rw [hb]) <;> (try simp only [List.length_map, decide_eq_true_eq, decide_eq_false_iff_not, Bool.not_eq_true', Bool.not_eq_false', Int.ofNat_lt, Int.ofNat_le, Int.not_lt, Int.not_le, Int.toNat_natCast] at hb))
                 | (with_reducible refine ⟨_, (by first | exact ByteRows.map _ | (repeat (first | exact ByteRows.nil | exact ByteRows.map _ | refine ByteRows.cons ?_ | refine ByteRows.app ?_ ?_))), ?_⟩)
                 | (refine Exists.intro _ (And.intro (ByteRows.rep _) ?_))
                 | (refine Exists.intro _ (And.intro (ByteRows.app (ByteRows.map _) (ByteRows.cons ByteRows.nil)) ?_))
                 | ((with_reducible refine And.intro ?_ ?_); (focus (first | with_reducible rfl | exact trivial | (exact ⟨rfl, trivial⟩) | (exact ⟨rfl, rfl, trivial⟩) | omega | (intro r hr; simp only [List.mem_singleton] at hr; subst hr; rfl)  | ((have := UInt32.toNat_lt w; simp only [in64] at *; omega)) | ((have := num_len8 w.toNat (by have := UInt32.toNat_lt w; omega); simp only [List.length_append, maxLen, Int.toNat_natCast] at *; omega)) | ((have := num_len8 w.toNat (by have := UInt32.toNat_lt w; omega); have := text_len8 q (by omega); simp only [List.length_append, maxLen, Int.toNat_natCast] at *; omega)) | (simp only [in64]; omega) | assumption | (simp; done) | (simp [V.cells]; done) | (simp [in64, maxLen, limK] at *; omega) | ((show confB _ _ = true); kernel_rfl) | rfl)))
                 | (intro row hrow; (try simp only [Int.toNat_natCast, List.length_map, toNat_pred, toNat_succ', toNat_zero', toNat_one'] at hrow); (first | (have hsm := same_map (by assumption) hrow; subst hsm; clear hrow) | (obtain ⟨p, hp, rfl⟩ := of_map hrow; clear hrow)))
                 | (with_reducible refine AW.seq ?_) | (with_reducible refine AW.region base (by kernel_rfl) ?_) | (with_reducible refine AW.cond ?_) | (with_reducible refine AW.block ?_) | (with_reducible refine AW.ret ?_) | (with_reducible refine AW.exit ?_) | (with_reducible refine AW.skip ?_))))
          all_goals (first
            | (with_reducible exact absurd rfl (by assumption))
            | ((conv => whnf); (refine ⟨(j + 1, ?_), ?_⟩); (rotate_left 1); (refine And.intro ?_ (And.intro ?_ ?_)); (focus (refine ⟨⟨[], ?_⟩⟩; repeat' (first | (with_reducible rfl) | exact trivial | ((conv => whnf); (first | (with_reducible refine And.intro ?_ ?_) | (first | rfl | (refine congrArg V.str ?_; (first | rfl | omega | (simp; done))) | (refine congrArg (V.int _) ?_; (first | rfl | omega | (simp; done))) | (refine congrArg V.bool ?_; (first | rfl | omega | (simp; done))) | (refine congrArg V.sl ?_; (first | rfl | omega | (simp; done))) | (first | rfl | omega | (simp; done)))))))); (focus (exact ⟨by omega, rfl⟩)); (focus (first | omega | (dsimp only; omega) | (simp at *; omega))))
            | ((conv => whnf); (try (first | rfl | (exfalso; simp_all; done) | (exfalso; simp at *; omega))); done))

        have hmi := (List.getElem?_eq_some_iff.1 hq).1
        have hq60 := hk6 j q (by omega) hq
        rw [hq] at hs1
        have hs1 : x = num w.toNat ++ (text q ++ enc ((all l m).drop (j + 1))) := hs1
        repeat' (first
            | (with_reducible refine AW.seq ?_) | (with_reducible refine AW.region base (by kernel_rfl) ?_) | (with_reducible refine AW.cond ?_) | (with_reducible refine AW.block ?_) | (with_reducible refine AW.ret ?_) | (with_reducible refine AW.exit ?_) | (with_reducible refine AW.skip ?_)
            | ((conv => whnf); (first
               | (with_reducible refine Br.t ?_)
               | (with_reducible refine Br.f ?_)
               | (refine Br.t ?_)
               | (refine Br.f ?_)
               | (with_reducible refine Br.mk (fun hb => ?_) (fun hb => (by exfalso; (first | omega | (simp at hb; done) | (simp at hb; omega)))))
               | (with_reducible refine Br.mk (fun hb => (by exfalso; (first | omega | (simp at hb; done) | (simp at hb; omega)))) (fun hb => ?_))
               | (with_reducible refine Or.inl ⟨_, known4_fn, ?_⟩)
               | ((with_reducible refine Or.inl ?_); (conv => whnf); (with_reducible refine ⟨_, known4_fn, ?_⟩))
               | (with_reducible refine Or.inl ⟨_, num_fn _ (by first | omega | (have := UInt32.toNat_lt w; omega)), ?_⟩)
               | ((with_reducible refine Or.inl ?_); (conv => whnf); (with_reducible refine ⟨_, num_fn _ (by first | omega | (have := UInt32.toNat_lt w; omega)), ?_⟩))
               | (with_reducible refine Or.inl ⟨_, text_fn _ (by first | omega | assumption), ?_⟩)
               | ((with_reducible refine Or.inl ?_); (conv => whnf); (with_reducible refine ⟨_, text_fn _ (by first | omega | assumption), ?_⟩))
               | (with_reducible refine Or.inl ⟨_, take_ok' _ _ _ hs1 (by have := UInt32.toNat_lt w; omega), ?_⟩)
               | ((with_reducible refine Or.inl ?_); (conv => whnf); (with_reducible refine ⟨_, take_ok' _ _ _ hs1 (by have := UInt32.toNat_lt w; omega), ?_⟩))
               | (with_reducible refine Or.inl ⟨_, takeText_ok _ _ _ (by omega) (by omega), ?_⟩)
               | ((with_reducible refine Or.inl ?_); (conv => whnf); (with_reducible refine ⟨_, takeText_ok _ _ _ (by omega) (by omega), ?_⟩))
               | (with_reducible refine Br.mk (fun hb => ?_) (fun hb => ?_) <;> (try rw [hb]) <;> (try simp only [List.length_map, decide_eq_true_eq, decide_eq_false_iff_not, Bool.not_eq_true', Bool.not_eq_false', Int.ofNat_lt, Int.ofNat_le, Int.not_lt, Int.not_le, Int.toNat_natCast] at hb))
               | (with_reducible refine ⟨_, (by first | exact ByteRows.map _ | (repeat (first | exact ByteRows.nil | exact ByteRows.map _ | refine ByteRows.cons ?_ | refine ByteRows.app ?_ ?_))), ?_⟩)
               | (refine Exists.intro _ (And.intro (ByteRows.rep _) ?_))
               | (refine Exists.intro _ (And.intro (ByteRows.app (ByteRows.map _) (ByteRows.cons ByteRows.nil)) ?_))
               | ((with_reducible refine And.intro ?_ ?_); (focus (first | with_reducible rfl | exact trivial | (exact ⟨rfl, trivial⟩) | (exact ⟨rfl, rfl, trivial⟩) | omega | (intro r hr; simp only [List.mem_singleton] at hr; subst hr; rfl)  | ((have := UInt32.toNat_lt w; simp only [in64] at *; omega)) | ((have := num_len8 w.toNat (by have := UInt32.toNat_lt w; omega); simp only [List.length_append, maxLen, Int.toNat_natCast] at *; omega)) | ((have := num_len8 w.toNat (by have := UInt32.toNat_lt w; omega); have := text_len8 q (by omega); simp only [List.length_append, maxLen, Int.toNat_natCast] at *; omega)) | (simp only [in64]; omega) | assumption | (simp; done) | (simp [V.cells]; done) | (simp [in64, maxLen, limK] at *; omega) | ((show confB _ _ = true); kernel_rfl) | rfl)))
               | (intro row hrow; (try simp only [Int.toNat_natCast, List.length_map, toNat_pred, toNat_succ', toNat_zero', toNat_one'] at hrow); (first | (have hsm := same_map (by assumption) hrow; subst hsm; clear hrow) | (obtain ⟨p, hp, rfl⟩ := of_map hrow; clear hrow)))
               | (with_reducible refine AW.seq ?_) | (with_reducible refine AW.region base (by kernel_rfl) ?_) | (with_reducible refine AW.cond ?_) | (with_reducible refine AW.block ?_) | (with_reducible refine AW.ret ?_) | (with_reducible refine AW.exit ?_) | (with_reducible refine AW.skip ?_))))
        all_goals (try first | with_reducible assumption | ((show (_ : Int) ≤ _); (first | omega | assumption)) | ((show (_ : Nat) ≤ _); (first | omega | assumption)) | ((show in64 _); (simp only [in64] at *; (first | omega | assumption))) | ((show (_ : Int) < _); (first | omega | assumption)) | ((show ¬ (_ : Int) = _); (first | omega | assumption)) | ((with_reducible refine And.intro ?_ ?_) <;> (first | omega | assumption)))
        all_goals (first
          | (with_reducible exact absurd rfl (by assumption))
          | ((conv => whnf); (refine ⟨(j + 1, ?_), ?_⟩); (rotate_left 1); (refine And.intro ?_ (And.intro ?_ ?_)); (focus (refine ⟨⟨[], ?_⟩⟩; repeat' (first | (with_reducible rfl) | exact trivial | ((conv => whnf); (first | (with_reducible refine And.intro ?_ ?_) | (first | rfl | (refine congrArg V.str ?_; (first | rfl | omega | (simp; done))) | (refine congrArg (V.int _) ?_; (first | rfl | omega | (simp; done))) | (refine congrArg V.bool ?_; (first | rfl | omega | (simp; done))) | (refine congrArg V.sl ?_; (first | rfl | omega | (simp; done))) | (first | rfl | omega | (simp; done)))))))); (focus (exact ⟨by omega, rfl⟩)); (focus (first | omega | (dsimp only; omega) | (simp at *; omega))))
          | ((conv => whnf); (try (first | rfl | (exfalso; simp_all; done) | (exfalso; simp at *; omega))); done))

    obtain ⟨w, hw⟩ : ∃ w, l[i]? = some w := ⟨_, List.getElem?_eq_getElem hi⟩
    have hstep := enc_take (m := m) hw
    rcases hq : m[i]? with _ | q
    · have hmi : m.length ≤ i := List.getElem?_eq_none_iff.1 hq
      rw [hq] at hstep
      repeat' (first
          | (with_reducible refine AW.seq ?_) | (with_reducible refine AW.region base (by kernel_rfl) ?_) | (with_reducible refine AW.cond ?_) | (with_reducible refine AW.block ?_) | (with_reducible refine AW.ret ?_) | (with_reducible refine AW.exit ?_) | (with_reducible refine AW.skip ?_)
          | ((conv => whnf); (first
             | (with_reducible refine Br.t ?_)
             | (with_reducible refine Br.f ?_)
             | (refine Br.t ?_)
             | (refine Br.f ?_)
             | (with_reducible refine Br.mk (fun hb => ?_) (fun hb => (by exfalso; (first | omega | (simp at hb; done) | (simp at hb; omega)))))
             | (with_reducible refine Br.mk (fun hb => (by exfalso; (first | omega | (simp at hb; done) | (simp at hb; omega)))) (fun hb => ?_))
             | (with_reducible refine Or.inl ⟨_, known4_fn, ?_⟩)
             | ((with_reducible refine Or.inl ?_); (conv => whnf); (with_reducible refine ⟨_, known4_fn, ?_⟩))
             | (with_reducible refine Or.inl ⟨_, num_fn _ (by first | omega | (have := UInt32.toNat_lt w; omega)), ?_⟩)
             | ((with_reducible refine Or.inl ?_); (conv => whnf); (with_reducible refine ⟨_, num_fn _ (by first | omega | (have := UInt32.toNat_lt w; omega)), ?_⟩))
             | (with_reducible refine Or.inl ⟨_, text_fn _ (by first | omega | assumption), ?_⟩)
             | ((with_reducible refine Or.inl ?_); (conv => whnf); (with_reducible refine ⟨_, text_fn _ (by first | omega | assumption), ?_⟩))
             | (with_reducible refine Or.inl ⟨_, take_ok' _ _ _ hs1 (by have := UInt32.toNat_lt w; omega), ?_⟩)
             | ((with_reducible refine Or.inl ?_); (conv => whnf); (with_reducible refine ⟨_, take_ok' _ _ _ hs1 (by have := UInt32.toNat_lt w; omega), ?_⟩))
             | (with_reducible refine Or.inl ⟨_, takeText_ok _ _ _ (by omega) (by omega), ?_⟩)
             | ((with_reducible refine Or.inl ?_); (conv => whnf); (with_reducible refine ⟨_, takeText_ok _ _ _ (by omega) (by omega), ?_⟩))
             | (with_reducible refine Br.mk (fun hb => ?_) (fun hb => ?_) <;> (try rw [hb]) <;> (try simp only [List.length_map, decide_eq_true_eq, decide_eq_false_iff_not, Bool.not_eq_true', Bool.not_eq_false', Int.ofNat_lt, Int.ofNat_le, Int.not_lt, Int.not_le, Int.toNat_natCast] at hb))
             | (with_reducible refine ⟨_, (by first | exact ByteRows.map _ | (repeat (first | exact ByteRows.nil | exact ByteRows.map _ | refine ByteRows.cons ?_ | refine ByteRows.app ?_ ?_))), ?_⟩)
             | (refine Exists.intro _ (And.intro (ByteRows.rep _) ?_))
             | (refine Exists.intro _ (And.intro (ByteRows.app (ByteRows.map _) (ByteRows.cons ByteRows.nil)) ?_))
             | ((with_reducible refine And.intro ?_ ?_); (focus (first | with_reducible rfl | exact trivial | (exact ⟨rfl, trivial⟩) | (exact ⟨rfl, rfl, trivial⟩) | omega | (intro r hr; simp only [List.mem_singleton] at hr; subst hr; rfl)  | ((have := UInt32.toNat_lt w; simp only [in64] at *; omega)) | ((have := num_len8 w.toNat (by have := UInt32.toNat_lt w; omega); simp only [List.length_append, maxLen, Int.toNat_natCast] at *; omega)) | ((have := num_len8 w.toNat (by have := UInt32.toNat_lt w; omega); have := text_len8 q (by omega); simp only [List.length_append, maxLen, Int.toNat_natCast] at *; omega)) | (simp only [in64]; omega) | assumption | (simp; done) | (simp [V.cells]; done) | (simp [in64, maxLen, limK] at *; omega) | ((show confB _ _ = true); kernel_rfl) | rfl)))
             | (intro row hrow; (try simp only [Int.toNat_natCast, List.length_map, toNat_pred, toNat_succ', toNat_zero', toNat_one'] at hrow); (first | (have hsm := same_map (by assumption) hrow; subst hsm; clear hrow) | (obtain ⟨p, hp, rfl⟩ := of_map hrow; clear hrow)))
             | (with_reducible refine AW.seq ?_) | (with_reducible refine AW.region base (by kernel_rfl) ?_) | (with_reducible refine AW.cond ?_) | (with_reducible refine AW.block ?_) | (with_reducible refine AW.ret ?_) | (with_reducible refine AW.exit ?_) | (with_reducible refine AW.skip ?_))))
      all_goals (first
        | (with_reducible exact absurd rfl (by assumption))
        | ((conv => whnf); (refine ⟨(i + 1, ?_), ?_⟩); (rotate_left 1); (refine And.intro ?_ (And.intro ?_ ?_)); (focus (refine ⟨⟨[], ?_⟩⟩; repeat' (first | (with_reducible rfl) | exact trivial | ((conv => whnf); (first | (with_reducible refine And.intro ?_ ?_) | (first | rfl | (refine congrArg V.str ?_; (first | rfl | omega | (simp; done))) | (refine congrArg (V.int _) ?_; (first | rfl | omega | (simp; done))) | (refine congrArg V.bool ?_; (first | rfl | omega | (simp; done))) | (refine congrArg V.sl ?_; (first | rfl | omega | (simp; done))) | (first | rfl | omega | (simp; done)))))))); (focus (refine ⟨by omega, hk2, hk3, ?_, ?_, ?_⟩; (focus (rw [hstep, ← hk4, Int.toNat_natCast]; first | rfl | (simp [optB]; done))); (focus (have := num_len8 w.toNat (by have := UInt32.toNat_lt w; omega); first | (have := text_len8 q (by omega); simp only [List.length_append, Int.toNat_natCast] at *; omega) | (simp only [List.length_append, Int.toNat_natCast] at *; omega))); (focus (intro j q2 hj hq2; rcases (by omega : j < i ∨ j = i) with h | h; (focus (exact hk6 j q2 h hq2)); (focus (subst h; rw [hq] at hq2; first | (cases hq2; done) | (cases hq2; omega))))))); (focus (first | omega | (dsimp only; omega) | (simp at *; omega))))
        | ((conv => whnf); (try (first | rfl | (exfalso; simp_all; done) | (exfalso; simp at *; omega))); done))

    have hmi := (List.getElem?_eq_some_iff.1 hq).1
    rw [hq] at hstep
    repeat' (first
        | (with_reducible refine AW.seq ?_) | (with_reducible refine AW.region base (by kernel_rfl) ?_) | (with_reducible refine AW.cond ?_) | (with_reducible refine AW.block ?_) | (with_reducible refine AW.ret ?_) | (with_reducible refine AW.exit ?_) | (with_reducible refine AW.skip ?_)
        | ((conv => whnf); (first
           | (with_reducible refine Br.t ?_)
           | (with_reducible refine Br.f ?_)
           | (refine Br.t ?_)
           | (refine Br.f ?_)
           | (with_reducible refine Br.mk (fun hb => ?_) (fun hb => (by exfalso; (first | omega | (simp at hb; done) | (simp at hb; omega)))))
           | (with_reducible refine Br.mk (fun hb => (by exfalso; (first | omega | (simp at hb; done) | (simp at hb; omega)))) (fun hb => ?_))
           | (with_reducible refine Or.inl ⟨_, known4_fn, ?_⟩)
           | ((with_reducible refine Or.inl ?_); (conv => whnf); (with_reducible refine ⟨_, known4_fn, ?_⟩))
           | (with_reducible refine Or.inl ⟨_, num_fn _ (by first | omega | (have := UInt32.toNat_lt w; omega)), ?_⟩)
           | ((with_reducible refine Or.inl ?_); (conv => whnf); (with_reducible refine ⟨_, num_fn _ (by first | omega | (have := UInt32.toNat_lt w; omega)), ?_⟩))
           | (with_reducible refine Or.inl ⟨_, text_fn _ (by first | omega | assumption), ?_⟩)
           | ((with_reducible refine Or.inl ?_); (conv => whnf); (with_reducible refine ⟨_, text_fn _ (by first | omega | assumption), ?_⟩))
           | (with_reducible refine Or.inl ⟨_, take_ok' _ _ _ hs1 (by have := UInt32.toNat_lt w; omega), ?_⟩)
           | ((with_reducible refine Or.inl ?_); (conv => whnf); (with_reducible refine ⟨_, take_ok' _ _ _ hs1 (by have := UInt32.toNat_lt w; omega), ?_⟩))
           | (with_reducible refine Or.inl ⟨_, takeText_ok _ _ _ (by omega) (by omega), ?_⟩)
           | ((with_reducible refine Or.inl ?_); (conv => whnf); (with_reducible refine ⟨_, takeText_ok _ _ _ (by omega) (by omega), ?_⟩))
           | (with_reducible refine Br.mk (fun hb => ?_) (fun hb => ?_) <;> (try rw [hb]) <;> (try simp only [List.length_map, decide_eq_true_eq, decide_eq_false_iff_not, Bool.not_eq_true', Bool.not_eq_false', Int.ofNat_lt, Int.ofNat_le, Int.not_lt, Int.not_le, Int.toNat_natCast] at hb))
           | (with_reducible refine ⟨_, (by first | exact ByteRows.map _ | (repeat (first | exact ByteRows.nil | exact ByteRows.map _ | refine ByteRows.cons ?_ | refine ByteRows.app ?_ ?_))), ?_⟩)
           | (refine Exists.intro _ (And.intro (ByteRows.rep _) ?_))
           | (refine Exists.intro _ (And.intro (ByteRows.app (ByteRows.map _) (ByteRows.cons ByteRows.nil)) ?_))
           | ((with_reducible refine And.intro ?_ ?_); (focus (first | with_reducible rfl | exact trivial | (exact ⟨rfl, trivial⟩) | (exact ⟨rfl, rfl, trivial⟩) | omega | (intro r hr; simp only [List.mem_singleton] at hr; subst hr; rfl)  | ((have := UInt32.toNat_lt w; simp only [in64] at *; omega)) | ((have := num_len8 w.toNat (by have := UInt32.toNat_lt w; omega); simp only [List.length_append, maxLen, Int.toNat_natCast] at *; omega)) | ((have := num_len8 w.toNat (by have := UInt32.toNat_lt w; omega); have := text_len8 q (by omega); simp only [List.length_append, maxLen, Int.toNat_natCast] at *; omega)) | (simp only [in64]; omega) | assumption | (simp; done) | (simp [V.cells]; done) | (simp [in64, maxLen, limK] at *; omega) | ((show confB _ _ = true); kernel_rfl) | rfl)))
           | (intro row hrow; (try simp only [Int.toNat_natCast, List.length_map, toNat_pred, toNat_succ', toNat_zero', toNat_one'] at hrow); (first | (have hsm := same_map (by assumption) hrow; subst hsm; clear hrow) | (obtain ⟨p, hp, rfl⟩ := of_map hrow; clear hrow)))
           | (with_reducible refine AW.seq ?_) | (with_reducible refine AW.region base (by kernel_rfl) ?_) | (with_reducible refine AW.cond ?_) | (with_reducible refine AW.block ?_) | (with_reducible refine AW.ret ?_) | (with_reducible refine AW.exit ?_) | (with_reducible refine AW.skip ?_))))
    all_goals (try first | with_reducible assumption | ((show (_ : Int) ≤ _); (first | omega | assumption)) | ((show (_ : Nat) ≤ _); (first | omega | assumption)) | ((show in64 _); (simp only [in64] at *; (first | omega | assumption))) | ((show (_ : Int) < _); (first | omega | assumption)) | ((show ¬ (_ : Int) = _); (first | omega | assumption)) | ((with_reducible refine And.intro ?_ ?_) <;> (first | omega | assumption)))
    all_goals (first
      | (with_reducible exact absurd rfl (by assumption))
      | ((conv => whnf); (refine ⟨(i + 1, ?_), ?_⟩); (rotate_left 1); (refine And.intro ?_ (And.intro ?_ ?_)); (focus (refine ⟨⟨[], ?_⟩⟩; repeat' (first | (with_reducible rfl) | exact trivial | ((conv => whnf); (first | (with_reducible refine And.intro ?_ ?_) | (first | rfl | (refine congrArg V.str ?_; (first | rfl | omega | (simp; done))) | (refine congrArg (V.int _) ?_; (first | rfl | omega | (simp; done))) | (refine congrArg V.bool ?_; (first | rfl | omega | (simp; done))) | (refine congrArg V.sl ?_; (first | rfl | omega | (simp; done))) | (first | rfl | omega | (simp; done)))))))); (focus (refine ⟨by omega, hk2, hk3, ?_, ?_, ?_⟩; (focus (rw [hstep, ← hk4, Int.toNat_natCast]; first | rfl | (simp [optB]; done))); (focus (have := num_len8 w.toNat (by have := UInt32.toNat_lt w; omega); first | (have := text_len8 q (by omega); simp only [List.length_append, Int.toNat_natCast] at *; omega) | (simp only [List.length_append, Int.toNat_natCast] at *; omega))); (focus (intro j q2 hj hq2; rcases (by omega : j < i ∨ j = i) with h | h; (focus (exact hk6 j q2 h hq2)); (focus (subst h; rw [hq] at hq2; first | (cases hq2; done) | (cases hq2; omega))))))); (focus (first | omega | (dsimp only; omega) | (simp at *; omega))))
      | ((conv => whnf); (try (first | rfl | (exfalso; simp_all; done) | (exfalso; simp at *; omega))); done))

end Go.Proofs.YtciiiceloghkmaaDoor
