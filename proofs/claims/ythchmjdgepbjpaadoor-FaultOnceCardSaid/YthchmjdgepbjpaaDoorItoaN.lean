/-
  The decimal numeral by the library's code over whatever table of powers: of a number from 100 to 255 the table's third place alone is read; told to be 2 digits long its last two digits are written. Over any program that holds the code; no other conditions.
-/
import Derived.Test.YthchmjdgepbjpaaDoorRows
import Derived.Shelf.Strconv.Itoa3
import Derived.Lib.AppendIntMem
namespace Go.Proofs.YthchmjdgepbjpaaDoor
open Go.RowKit Go.Shelf Go.Sort Go.Lib
set_option linter.unusedSimpArgs false
set_option linter.unusedVariables false
variable {P : Program} {ρ : Ren}

theorem l10_mid : ∀ i : Fin 256, 100 ≤ i.val → Lib.l10 (Lib.bitLen i.val) = 2 := by decide +kernel

set_option maxHeartbeats 2000000 in
set_option maxRecDepth 100000 in
theorem numDigitsT (L : LaysM.n284 P ρ) (u : Nat) (h1 : 100 ≤ u) (h2 : u < 256) (v : Nat) (w : World)
    (hcell : w.cell? ⟨(ρ.g 17), 2, none⟩ = some (.int .u64 (v : Int))) :
    Calls P (ρ.f 284) #[.int .u64 u] w fun e w' => e = .returned (.int .i64 ((if v ≤ u then 3 else 2 : Nat) : Int)) ∧ w' = w := by
  have mixed := L.mixed
  have t53 := L.t53; have a53 := L.a53; have z53 := L.z53; have v53 := L.v53
  have t3 := L.t3; have a3 := L.a3; have z3 := L.z3; have v3 := L.v3
  have t212 := L.t212; have a212 := L.a212; have z212 := L.z212; have v212 := L.v212
  have t0 := L.t0; have a0 := L.a0; have z0 := L.z0; have v0 := L.v0
  have t4 := L.t4; have a4 := L.a4; have z4 := L.z4; have v4 := L.v4
  have e129 : ∀ args w, (callFunc (ρ.f 129) args).run P w = .ok (.enter (ρ.f 129) args) w := enters_of L.f129 (by kernel_rfl) rfl
  have e317 : ∀ args w, (callFunc (ρ.f 317) args).run P w = .ok (.enter (ρ.f 317) args) w := enters_of L.f317 (by kernel_rfl) rfl
  have e318 : ∀ args w, (callFunc (ρ.f 318) args).run P w = .ok (.enter (ρ.f 318) args) w := enters_of L.f318 (by kernel_rfl) rfl
  have hL : Lib.bitLen u ≤ 64 := Lib.bitLen_le u 64 (Nat.le_refl _) (by omega)
  have hto : ((u : Int)).toNat = u := by omega
  have hq : Lib.l10 (Lib.bitLen u) = 2 := l10_mid ⟨u, h2⟩ h1
  go_enter L.f284, Body.n284_ntmps ρ
  go_wp2_with (first
    | (go_at_fn (ρ.f 129); refine (Any.bits_Len64 { L with } _ _ (by omega) (by omega)).mono ?_; rintro e w' ⟨rfl, rfl⟩)
    | (go_at_fn (ρ.f 317); refine (Any.internal_strconv_log10Pow2 { L with } _ (by first | exact hL | (rw [hto]; exact hL)) _).mono ?_; rintro e w' ⟨rfl, rfl⟩)
    | (go_at_fn (ρ.f 318); refine (Any.internal_strconv_bool2_int { L with } _ _).mono ?_; rintro e w' ⟨rfl, rfl⟩))
  all_goals go_ret
  all_goals (
    refine ⟨?_, rfl⟩
    (try congr 2) <;> (split <;> first | rfl | (simp_all; done) | (simp_all; omega)))

set_option maxHeartbeats 12800000 in
set_option maxRecDepth 100000 in
/-- at a row of two places and a number of three digits: the last two -/
theorem formatTwo (L : Lays.n285 P ρ) (blk off cap : Nat) (u : Nat) (d : Array UInt8) (w : World) (hH : Holds (fun (b : UInt8) => Value.int .u8 (b.toNat : Int)) w blk off d) (hd : d.size = 2) (hu : u < 256) :
    Calls P (ρ.f 285) #[.slice (some ⟨blk, off, none⟩) 2 cap, .int .u64 u] w fun e w' =>
      e = .returned (.tuple #[]) ∧ ∃ n : Nat, w' = (putRow (fun (b : UInt8) => Value.int .u8 (b.toNat : Int)) w blk off ((d.setIfInBounds (0 + 1) (sm (u % 100 * 2 + 1))).setIfInBounds 0 (sm (u % 100 * 2)))).drewN n := by
  have mixed := L.mixed
  have t37 := L.t37; have a37 := L.a37; have z37 := L.z37; have v37 := L.v37
  have t53 := L.t53; have a53 := L.a53; have z53 := L.z53; have v53 := L.v53
  have t3 := L.t3; have a3 := L.a3; have z3 := L.z3; have v3 := L.v3
  have t4 := L.t4; have a4 := L.a4; have z4 := L.z4; have v4 := L.v4
  have t51 := L.t51; have a51 := L.a51; have z51 := L.z51; have v51 := L.v51
  have t9 := L.t9; have a9 := L.a9; have z9 := L.z9; have v9 := L.v9
  have t5 := L.t5; have a5 := L.a5; have z5 := L.z5; have v5 := L.v5
  have t0 := L.t0; have a0 := L.a0; have z0 := L.z0; have v0 := L.v0
  go_enter L.f285, Body.n285_ntmps ρ
  go_name_bytes SM hSM
  have eSM : SM = Lib.smalls := by rw [← hSM]; decide +kernel
  subst eSM
  clear hSM
  go_wp2
  go_loopw [1, 4] (fun vu vn wr => vu = .int .u64 (u : Int) ∧ vn = .int .i64 (2 : Nat) ∧ wr = (putRow (fun (b : UInt8) => Value.int .u8 (b.toNat : Int)) w blk off d).drewN 0) (fun _ vn _ => (RowKit.intOf vn).toNat)
  case atStart => exact ⟨rfl, rfl, (putRow_self _ _ _ _ _ hH).symm⟩
  case round =>
    obtain ⟨rfl, rfl, hw0⟩ := hrel
    rename World => W0
    have AH := Lib.hid hH
    clear hH
    have hH0 : Holds (fun (b : UInt8) => Value.int .u8 (b.toNat : Int)) W0 blk off d := by rw [hw0]; exact holds_putRow _ w blk off d d AH.out rfl
    obtain ⟨G0, hG0⟩ : ∃ G : Nat → Int, ∀ t, G t = (d[t]!.toNat : Int) := ⟨_, fun _ => rfl⟩
    have hc0 : ∀ t, t < 2 → W0.cell? ⟨blk, off + t, none⟩ = some (.int .u8 (G0 t)) := fun t ht => by rw [hG0]; exact (hH0 t (by omega)).1
    have hf0 : ∀ t, t < 2 → W0.frozen? ⟨blk, off + t, none⟩ = false := fun t ht => (hH0 t (by omega)).2
    have AW0 := Lib.hid hw0
    clear hw0 hG0 hH0
    go_wp2
    go_name_slot 16 x0 hx0
    have hxe0 : x0 = ((u % 100 * 2 : Nat) : Int) := by omega
    have hXa0 : ∀ w, (Instr.index (ρ.t 9) (.string Lib.smalls) (.int .u32 (x0 + 1))).run P w = .ok (.int .u8 ((sm (u % 100 * 2 + 1)).toNat : Int)) w := idx_smalls (ρ.t 9) L.t9 .u32 _ _ (by omega) (by omega)
    have hXb0 : ∀ w, (Instr.index (ρ.t 9) (.string Lib.smalls) (.int .u32 x0)).run P w = .ok (.int .u8 ((sm (u % 100 * 2)).toNat : Int)) w := idx_smalls (ρ.t 9) L.t9 .u32 _ _ (by omega) (by omega)
    have hlo0 : 0 ≤ x0 := by omega
    have hhi0 : x0 ≤ 198 := by omega
    clear hx0 hxe0
    go_region_o
    go_wp2
    go_end0
    exact ⟨rfl, 0 + 0 + 1, by rw [AW0.out]; exact store2_world w blk off d (0 + 0) (0 + 1) (0) _ _ (by omega) (by omega)⟩

/-- what is written: the digits that the table has the code write -/
def midText (v u : Nat) : List UInt8 := if v ≤ u then Lib.decDigits u else [sm (u % 100 * 2), sm (u % 100 * 2 + 1)]
theorem nDigits_mid (u : Nat) (h1 : 100 ≤ u) (h2 : u < 256) : Lib.nDigits u = 3 := Lib.nDigits_unique 2 u (by omega) (by omega)
theorem midText_len (v u : Nat) (h1 : 100 ≤ u) (h2 : u < 256) : (midText v u).length = if v ≤ u then 3 else 2 := by
  unfold midText
  split
  · rw [Lib.decDigits_length, nDigits_mid u h1 h2]
  · rfl
theorem two_at (x y : UInt8) (j : Nat) (hj : j < [x, y].length) : [x, y][j] = (((Array.replicate [x, y].length (0 : UInt8)).setIfInBounds (0 + 1) y).setIfInBounds 0 x)[j]! := by
  have hj : j < 2 := hj
  rcases (by omega : j = 0 ∨ j = 1) with rfl | rfl <;> rfl
theorem formatT (L : Lays.n285 P ρ) (blk off cap : Nat) (v u : Nat) (h1 : 100 ≤ u) (h2 : u < 256) (w : World) (hH : Holds (fun (b : UInt8) => Value.int .u8 (b.toNat : Int)) w blk off (Array.replicate (midText v u).length 0)) :
    Calls P (ρ.f 285) #[.slice (some ⟨blk, off, none⟩) (midText v u).length cap, .int .u64 u] w fun e w' =>
      e = .returned (.tuple #[]) ∧ ∃ (n : Nat) (dk : Array UInt8), w' = (putRow (fun (b : UInt8) => Value.int .u8 (b.toNat : Int)) w blk off dk).drewN n ∧ dk.size = (midText v u).length ∧ ∀ j (hj : j < (midText v u).length), (midText v u)[j] = dk[j]! := by
  by_cases hv : v ≤ u
  · have e : midText v u = Lib.decDigits u := if_pos hv
    rw [e] at hH ⊢
    have hs : (Array.replicate (Lib.decDigits u).length (0 : UInt8)).size = (Lib.decDigits u).length := Array.size_replicate
    have h := Any.internal_strconv_formatBase10 L blk off cap u _ w hH (by rw [hs, Lib.decDigits_length]; exact Lib.lt_pow_nDigits u) (by omega) (by rw [hs, Lib.decDigits_length, nDigits_mid u h1 h2]; omega)
    rw [hs] at h
    refine h.mono ?_
    rintro e' w' ⟨rfl, n, v', dk, rfl, hF⟩
    rw [Lib.decDigits_length] at hF
    exact ⟨rfl, n, dk, rfl, by rw [Lib.decDigits_length]; exact hF.size, fun j hj => Lib.row_is_numeral hF j hj⟩
  · have e : midText v u = [sm (u % 100 * 2), sm (u % 100 * 2 + 1)] := if_neg hv
    rw [e] at hH ⊢
    refine (formatTwo L blk off cap u _ w hH rfl h2).mono ?_
    rintro e' w' ⟨rfl, n, rfl⟩
    exact ⟨rfl, n, _, rfl, rfl, two_at _ _⟩

set_option maxHeartbeats 6400000 in
set_option maxRecDepth 100000 in
theorem formatIntT (L : LaysM.n246 P ρ) (u : Nat) (h1 : 100 ≤ u) (h2 : u < 256) (v : Nat) (w : World) (hb : ρ.g 17 < w.heap.size)
    (hcell : w.cell? ⟨(ρ.g 17), 2, none⟩ = some (.int .u64 (v : Int))) :
    Calls P (ρ.f 246) #[.int .i64 u, .int .i64 10] w fun e w' => e = .returned (.string ⟨(midText v u).toArray⟩) ∧ ∃ k os, w' = grow (w.drewN k) os := by
  have mixed := L.mixed
  have t2 := L.t2; have a2 := L.a2; have z2 := L.z2; have v2 := L.v2
  have t3 := L.t3; have a3 := L.a3; have z3 := L.z3; have v3 := L.v3
  have t9 := L.t9; have a9 := L.a9; have z9 := L.z9; have v9 := L.v9
  have t4 := L.t4; have a4 := L.a4; have z4 := L.z4; have v4 := L.v4
  have t171 := L.t171; have a171 := L.a171; have z171 := L.z171; have v171 := L.v171
  have t0 := L.t0; have a0 := L.a0; have z0 := L.z0; have v0 := L.v0
  have t53 := L.t53; have a53 := L.a53; have z53 := L.z53; have v53 := L.v53
  have t37 := L.t37; have a37 := L.a37; have z37 := L.z37; have v37 := L.v37
  have t5 := L.t5; have a5 := L.a5; have z5 := L.z5; have v5 := L.v5
  have t173 := L.t173; have a173 := L.a173; have z173 := L.z173; have v173 := L.v173
  have e284 : ∀ args w, (callFunc (ρ.f 284) args).run P w = .ok (.enter (ρ.f 284) args) w := enters_of L.f284 (by kernel_rfl) rfl
  have e285 : ∀ args w, (callFunc (ρ.f 285) args).run P w = .ok (.enter (ρ.f 285) args) w := enters_of L.f285 (by kernel_rfl) rfl
  have hcell' : ∀ o, (w.alloc o).cell? ⟨(ρ.g 17), 2, none⟩ = some (.int .u64 (v : Int)) := fun o => by
    rw [← hcell]; exact World.cell?_alloc_old _ _ _ (Nat.ne_of_lt hb)
  have hml := midText_len v u h1 h2
  have hft : ∀ nd, (midText v u).length = nd → ∀ (blk off cap : Nat) (w : World), Holds (fun (b : UInt8) => Value.int .u8 (b.toNat : Int)) w blk off (Array.replicate nd 0) →
    Calls P (ρ.f 285) #[.slice (some ⟨blk, off, none⟩) nd cap, .int .u64 u] w fun e w' =>
      e = .returned (.tuple #[]) ∧ ∃ (n : Nat) (dk : Array UInt8), w' = (putRow (fun (b : UInt8) => Value.int .u8 (b.toNat : Int)) w blk off dk).drewN n ∧ dk.size = nd ∧ ∀ j (hj : j < (midText v u).length), (midText v u)[j] = dk[j]! := by
    rintro nd rfl blk off cap w hH
    exact formatT { L with } blk off cap v u h1 h2 w hH
  have hnd : ∀ nd, (midText v u).length = nd → ∀ W, W.cell? ⟨(ρ.g 17), 2, none⟩ = some (.int .u64 (v : Int)) → Calls P (ρ.f 284) #[.int .u64 u] W fun e w' => e = .returned (.int .i64 (nd : Int)) ∧ w' = W := by
    rintro nd rfl W hW
    rw [hml]; exact numDigitsT { L with } u h1 h2 v W hW
  generalize midText v u = txt at hml hft hnd ⊢
  obtain ⟨nd, hq⟩ : ∃ nd, txt.length = nd := ⟨_, rfl⟩
  have hft := hft nd hq
  have hnd := hnd nd hq
  rw [hq] at hml
  have hb3 : nd ≤ 3 := by rw [hml]; split <;> omega
  clear hml hcell
  have hal : P.arrayLen (ρ.t 171) = 24 := by simp [Program.arrayLen, L.t171]
  have hsl1 : ∀ W, (Instr.sliceAt (ρ.t 171) (.pointer (some ⟨w.heap.size, 0, none⟩)) (some (.int .i64 1)) (some (.int .i64 (1 + (nd : Int)))) none).run P W = .ok (.slice (some ⟨w.heap.size, 1, none⟩) nd 23) W := fun W => by
    rw [run_sliceAt_array_lh W (ρ.t 171) ⟨w.heap.size, 0, none⟩ (by simp [Program.arrayLen, Program.elem, L.t171]) .i64 .i64 1 (1 + (nd : Int)) (by omega) (by omega) (by rw [hal]; omega)]
    go_simp
    omega
  have hH0 := Lib.holds_zero w (ρ.t 171) nd (by omega)
  have hfmt := hft w.heap.size 1 23 (w.alloc (.cells Lib.zeros24 (ρ.t 171))) hH0
  have HH0 := Lib.hid hH0
  have HQ := Lib.hid hq
  clear hH0 hal hft hq
  go_enter L.f246, Body.n246_ntmps ρ
  go_wp2_with (first
    | (go_at_fn (ρ.f 284); refine (hnd _ (hcell' _)).mono ?_; rintro e w' ⟨rfl, rfl⟩))
  go_at_fn (ρ.f 285)
  refine hfmt.mono ?_
  rintro e w' ⟨rfl, k, dk, rfl, hsz, hF⟩
  have hcv : (convert (ρ.t 37) (ρ.t 9) (.slice (some ⟨w.heap.size, 1, none⟩) nd 23)).run P ((putRow (fun (b : UInt8) => Value.int .u8 (b.toNat : Int)) (w.alloc (.cells Lib.zeros24 (ρ.t 171))) w.heap.size 1 dk).drewN k) = .ok (.string ⟨txt.toArray⟩) ((putRow (fun (b : UInt8) => Value.int .u8 (b.toNat : Int)) (w.alloc (.cells Lib.zeros24 (ρ.t 171))) w.heap.size 1 dk).drewN k) := by
    have h := run_convert_bytes_back (P := P) ((putRow (fun (b : UInt8) => Value.int .u8 (b.toNat : Int)) (w.alloc (.cells Lib.zeros24 (ρ.t 171))) w.heap.size 1 dk).drewN k) (ρ.t 37) (ρ.t 9) (ρ.t 5) ⟨w.heap.size, 1, none⟩ 23 txt L.t37 L.t5 L.t9 (fun j hj => by
      rw [hF j hj, Lib.add_plain, World.cell?_drewN]
      exact cell?_putRow (fun (b : UInt8) => Value.int .u8 (b.toNat : Int)) _ w.heap.size 1 _ dk HH0.out (by rw [hsz, Array.size_replicate]) j (by rw [hsz, ← HQ.out]; exact hj))
    rw [HQ.out] at h
    exact h
  go_wp2
  go_ret
  obtain ⟨os, eo⟩ := Lib.fin_pos w (.cells Lib.zeros24 (ρ.t 171)) dk k
  exact ⟨rfl, k, os, eo⟩

set_option maxRecDepth 100000 in
theorem itoaT2 (L : LaysM.n243 P ρ) (u : Nat) (h1 : 100 ≤ u) (h2 : u < 256) (v : Nat) (w : World) (hb : ρ.g 17 < w.heap.size)
    (hcell : w.cell? ⟨(ρ.g 17), 2, none⟩ = some (.int .u64 (v : Int))) :
    Calls P (ρ.f 243) #[.int .i64 u] w fun e w' => e = .returned (.string ⟨(midText v u).toArray⟩) ∧ ∃ k os, w' = grow (w.drewN k) os := by
  have mixed := L.mixed
  have t3 := L.t3; have a3 := L.a3; have z3 := L.z3; have v3 := L.v3
  have t9 := L.t9; have a9 := L.a9; have z9 := L.z9; have v9 := L.v9
  have t2 := L.t2; have a2 := L.a2; have z2 := L.z2; have v2 := L.v2
  have e246 : ∀ args w, (callFunc (ρ.f 246) args).run P w = .ok (.enter (ρ.f 246) args) w := enters_of L.f246 (by kernel_rfl) rfl
  go_enter L.f243, Body.n243_ntmps ρ
  go_wp2_with (go_at_fn (ρ.f 246); refine (formatIntT { L with } u h1 h2 v _ hb hcell).mono ?_; rintro e w' ⟨rfl, k, os, rfl⟩)
  go_ret
  exact ⟨rfl, k, os, rfl⟩

set_option maxRecDepth 100000 in
theorem itoaT1 (L : LaysM.n171 P ρ) (u : Nat) (h1 : 100 ≤ u) (h2 : u < 256) (v : Nat) (w : World) (hb : ρ.g 17 < w.heap.size)
    (hcell : w.cell? ⟨(ρ.g 17), 2, none⟩ = some (.int .u64 (v : Int))) :
    Calls P (ρ.f 171) #[.int .i64 u] w fun e w' => e = .returned (.string ⟨(midText v u).toArray⟩) ∧ ∃ k os, w' = grow (w.drewN k) os := by
  have mixed := L.mixed
  have t3 := L.t3; have a3 := L.a3; have z3 := L.z3; have v3 := L.v3
  have t9 := L.t9; have a9 := L.a9; have z9 := L.z9; have v9 := L.v9
  have e243 : ∀ args w, (callFunc (ρ.f 243) args).run P w = .ok (.enter (ρ.f 243) args) w := enters_of L.f243 (by kernel_rfl) rfl
  go_enter L.f171, Body.n171_ntmps ρ
  go_wp2_with (go_at_fn (ρ.f 243); refine (itoaT2 { L with } u h1 h2 v _ hb hcell).mono ?_; rintro e w' ⟨rfl, k, os, rfl⟩)
  go_ret
  exact ⟨rfl, k, os, rfl⟩
end Go.Proofs.YthchmjdgepbjpaaDoor
