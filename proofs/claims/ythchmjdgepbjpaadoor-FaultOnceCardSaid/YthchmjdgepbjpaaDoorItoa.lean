/-
  strconv.Itoa of 0 to 255 over whatever table of powers: by the proved contracts of the library and of ItoaN. No conditions.
-/
import Derived.Test.YthchmjdgepbjpaaDoorAbsSeat
import Derived.Test.YthchmjdgepbjpaaDoorItoaN
import Derived.Shelf.Strconv.Itoa3
import Derived.Lib.AppendIntMem
import Derived.Lib.ItoaLen
namespace Go.Proofs.YthchmjdgepbjpaaDoor
open Go.RowKit
set_option linter.unusedSimpArgs false
set_option linter.unusedVariables false
open Go.Shelf
def ren : Ren := ⟨fun x => match x with | 129 => 31 | 171 => 15 | 243 => 22 | 246 => 25 | 283 => 26 | 284 => 27 | 285 => 28 | 286 => 29 | 317 => 30 | 318 => 32 | 319 => 33 | 320 => 34 | 337 => 35 | 338 => 36 | _ => 0, fun x => match x with | 0 => 0 | 2 => 2 | 3 => 3 | 4 => 4 | 5 => 5 | 9 => 9 | 20 => 20 | 37 => 79 | 46 => 88 | 51 => 85 | 53 => 76 | 171 => 75 | 173 => 80 | 212 => 84 | 213 => 86 | 232 => 91 | 233 => 92 | _ => 0, fun x => match x with | 17 => 1 | 18 => 2 | 19 => 3 | _ => 0⟩
set_option maxRecDepth 100000 in
theorem lays0 : Lays.n171 Tryd.prog ren where
  mixed := by kernel_rfl
  f129 := by kernel_rfl
  f171 := by kernel_rfl
  f243 := by kernel_rfl
  f246 := by kernel_rfl
  f283 := by kernel_rfl
  f284 := by kernel_rfl
  f285 := by kernel_rfl
  f286 := by kernel_rfl
  f317 := by kernel_rfl
  f318 := by kernel_rfl
  f319 := by kernel_rfl
  f320 := by kernel_rfl
  f337 := by kernel_rfl
  f338 := by kernel_rfl
  t0 := by kernel_rfl
  a0 := fun w => by kernel_rfl
  z0 := fun w => by kernel_rfl
  v0 := fun w => by kernel_rfl
  t2 := by kernel_rfl
  a2 := fun w => by kernel_rfl
  z2 := fun w => by kernel_rfl
  v2 := fun w => by kernel_rfl
  t3 := by kernel_rfl
  a3 := fun w => by kernel_rfl
  z3 := fun w => by kernel_rfl
  v3 := fun w => by kernel_rfl
  t4 := by kernel_rfl
  a4 := fun w => by kernel_rfl
  z4 := fun w => by kernel_rfl
  v4 := fun w => by kernel_rfl
  t5 := by kernel_rfl
  a5 := fun w => by kernel_rfl
  z5 := fun w => by kernel_rfl
  v5 := fun w => by kernel_rfl
  t9 := by kernel_rfl
  a9 := fun w => by kernel_rfl
  z9 := fun w => by kernel_rfl
  v9 := fun w => by kernel_rfl
  t20 := by kernel_rfl
  a20 := fun w => by kernel_rfl
  z20 := fun w => by kernel_rfl
  v20 := fun w => by kernel_rfl
  t37 := by kernel_rfl
  a37 := fun w => by kernel_rfl
  z37 := fun w => by kernel_rfl
  v37 := fun w => by kernel_rfl
  t46 := by kernel_rfl
  a46 := fun w => by kernel_rfl
  z46 := fun w => by kernel_rfl
  v46 := fun w => by kernel_rfl
  t51 := by kernel_rfl
  a51 := fun w => by kernel_rfl
  z51 := fun w => by kernel_rfl
  v51 := fun w => by kernel_rfl
  t53 := by kernel_rfl
  a53 := fun w => by kernel_rfl
  z53 := fun w => by kernel_rfl
  v53 := fun w => by kernel_rfl
  t171 := by kernel_rfl
  a171 := fun w => by kernel_rfl
  z171 := fun w => by kernel_rfl
  v171 := fun w => by kernel_rfl
  t173 := by kernel_rfl
  a173 := fun w => by kernel_rfl
  z173 := fun w => by kernel_rfl
  v173 := fun w => by kernel_rfl
  t212 := by kernel_rfl
  a212 := fun w => by kernel_rfl
  z212 := fun w => by kernel_rfl
  v212 := fun w => by kernel_rfl
  t213 := by kernel_rfl
  a213 := fun w => by kernel_rfl
  z213 := fun w => by kernel_rfl
  t232 := by kernel_rfl
  a232 := fun w => by kernel_rfl
  z232 := fun w => by kernel_rfl
  v232 := fun w => by kernel_rfl
  t233 := by kernel_rfl
  a233 := fun w => by kernel_rfl
  z233 := fun w => by kernel_rfl
  v233 := fun w => by kernel_rfl
  g17 := by kernel_rfl
  g18 := by kernel_rfl
  g19 := by kernel_rfl
set_option maxRecDepth 100000 in
theorem lays : LaysM.n171 Tryd.prog ren :=
  { lays0 with
    i0 := by kernel_rfl,
    i2 := by kernel_rfl,
    i3 := by kernel_rfl,
    i4 := by kernel_rfl,
    i5 := by kernel_rfl,
    i9 := by kernel_rfl,
    i20 := by kernel_rfl,
    i37 := by kernel_rfl,
    i46 := by kernel_rfl,
    i51 := by kernel_rfl,
    i53 := by kernel_rfl,
    i171 := by kernel_rfl,
    i173 := by kernel_rfl,
    i212 := by kernel_rfl,
    i232 := by kernel_rfl,
    i233 := by kernel_rfl,
    m17 := by kernel_rfl,
    m18 := by kernel_rfl,
    m19 := by kernel_rfl }

/-- what the code writes of a number from 0 to 255, by the table at hand -/
def itoaT [Inhabited TabT] (n : Int) : Bs := if n < 100 then Lib.itoa n else midText ((default : TabT).ts.getD 2 0).toNat n.toNat
theorem tab_two [Inhabited TabT] : 0 ≤ (default : TabT).ts.getD 2 0 := by
  have h : 2 < (default : TabT).ts.length := by rw [(default : TabT).len]; omega
  rw [List.getD_eq_getElem?_getD, List.getElem?_eq_getElem h]
  exact ((default : TabT).ok _ (List.getElem_mem h)).1
theorem itoaT_len [Inhabited TabT] (n : Int) (h0 : 0 ≤ n) (h1 : n < 256) : (itoaT n).length ≤ 21 := by
  unfold itoaT
  split
  · exact Lib.itoa_length_le n (by omega) (by omega)
  · rw [midText_len _ _ (by omega) (by omega)]; split <;> omega

theorem itoa_fn [Inhabited TabT] (n : Int) (h0 : 0 ≤ n) (h9 : n < 256) : Fn Tryd.prog 15 [.int .i64 n] (.str (itoaT n)) := ⟨fun w R xs hR hg hr => by
  have hl : xs.length = 1 := hr.1.symm
  obtain ⟨x, r, rfl, h1, h2⟩ := hr.uncons
  obtain rfl : r = [] := List.eq_nil_of_length_eq_zero (by simpa using hl)
  obtain rfl := h1.of_int
  obtain ⟨u, rfl⟩ : ∃ u : Nat, n = u := ⟨n.toNat, by omega⟩
  have htab : Lib.TabIs Tryd.prog w "internal/strconv.uint64pow10" .u64 (default : TabT).ts := by
    obtain ⟨_, t, fz, h3⟩ := hg.2 1 _ rfl
    unfold Lib.TabIs World.var?
    rw [show Tryd.prog.globalNamed "internal/strconv.uint64pow10" = some 1 by kernel_rfl]
    simp only [Option.bind_some, h3]
  have hb : 1 < w.heap.size := by
    obtain ⟨_, t, fz, h3⟩ := hg.2 1 _ rfl
    rcases Nat.lt_or_ge 1 w.heap.size with h | h
    · exact h
    · rw [Array.getElem?_eq_none h] at h3; cases h3
  rw [run_enter Tryd.func15 rfl rfl]
  by_cases hs : u < 100
  · have e : itoaT (u : Int) = Lib.decDigits u := by unfold itoaT; rw [if_pos (by omega), Lib.itoa_nonneg]
    rw [e]
    refine (show Calls Tryd.prog _ _ _ _ from Any.strconv_Itoa_small lays0 u hs w).mono ?_
    rintro e w' ⟨rfl, rfl⟩
    exact ⟨_, rfl, Lib.below_grow _ w' (Nat.le_refl _) 0 #[] |> fun h => by simpa [World.drewN_zero] using h, R, fun _ h => h, fun _ h => .inl h, .str⟩
  · have e : itoaT (u : Int) = midText ((default : TabT).ts.getD 2 0).toNat u := by unfold itoaT; rw [if_neg (by omega), Int.toNat_natCast]
    rw [e]
    have hc := htab.cell (show Tryd.prog.globalNamed "internal/strconv.uint64pow10" = some 1 by kernel_rfl) 2 (by rw [(default : TabT).len]; omega)
    rw [show (default : TabT).ts.getD 2 0 = ((((default : TabT).ts.getD 2 0).toNat : Nat) : Int) from (Int.toNat_of_nonneg tab_two).symm] at hc
    refine (show Calls Tryd.prog _ _ _ _ from itoaT1 lays u (by omega) (by omega) _ w hb hc).mono ?_
    rintro e w' ⟨rfl, k, os, rfl⟩
    exact ⟨_, rfl, Lib.below_grow _ w (Nat.le_refl _) k os, R, fun _ h => h, fun _ h => .inl h, .str⟩⟩
end Go.Proofs.YthchmjdgepbjpaaDoor

-- tabvar