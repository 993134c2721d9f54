/-
  strings.Join with nothing between: all texts in a row; by the proved contract of the library. No conditions.
-/
import Derived.Test.YtnblecdpkbempaaGreatDoorFrame
import Derived.Shelf.Strings.OnBuilder
namespace Go.Proofs.YtnblecdpkbempaaGreatDoor
open Go.RowKit
set_option linter.unusedSimpArgs false
set_option linter.unusedVariables false
open Go.Shelf
def renJ : Ren := ⟨fun x => match x with | 156 => 44 | 165 => 95 | 166 => 96 | 169 => 97 | 240 => 129 | 241 => 130 | 276 => 147 | 277 => 148 | _ => 0, fun x => match x with | 0 => 0 | 3 => 3 | 4 => 4 | 5 => 5 | 9 => 9 | 20 => 20 | 31 => 37 | 37 => 59 | 70 => 148 | 72 => 150 | 75 => 33 | 76 => 152 | 80 => 142 | 127 => 190 | 164 => 197 | _ => 0, fun _ => 0⟩
set_option maxRecDepth 100000 in
theorem laysJ : Lays.n156 Tryz.prog renJ where
  mixed := by kernel_rfl
  f156 := by kernel_rfl
  f165 := by kernel_rfl
  f166 := by kernel_rfl
  f169 := by kernel_rfl
  f240 := by kernel_rfl
  f241 := by kernel_rfl
  f276 := by kernel_rfl
  f277 := by kernel_rfl
  t0 := by kernel_rfl
  a0 := fun w => by kernel_rfl
  z0 := fun w => by kernel_rfl
  v0 := fun w => by kernel_rfl
  t3 := by kernel_rfl
  a3 := fun w => by kernel_rfl
  z3 := fun w => by kernel_rfl
  v3 := fun w => by kernel_rfl
  t4 := by kernel_rfl
  a4 := fun w => by kernel_rfl
  z4 := fun w => by kernel_rfl
  v4 := fun w => by kernel_rfl
  t9 := by kernel_rfl
  a9 := fun w => by kernel_rfl
  z9 := fun w => by kernel_rfl
  v9 := fun w => by kernel_rfl
  t20 := by kernel_rfl
  a20 := fun w => by kernel_rfl
  z20 := fun w => by kernel_rfl
  v20 := fun w => by kernel_rfl
  t31 := by kernel_rfl
  a31 := fun w => by kernel_rfl
  z31 := fun w => by kernel_rfl
  v31 := fun w => by kernel_rfl
  t37 := by kernel_rfl
  a37 := fun w => by kernel_rfl
  z37 := fun w => by kernel_rfl
  v37 := fun w => by kernel_rfl
  t70 := by kernel_rfl
  a70 := fun w => by kernel_rfl
  z70 := fun w => by kernel_rfl
  v70 := fun w => by kernel_rfl
  t72 := by kernel_rfl
  a72 := fun w => by kernel_rfl
  z72 := fun w => by kernel_rfl
  v72 := fun w => by kernel_rfl
  t75 := by kernel_rfl
  a75 := fun w => by kernel_rfl
  z75 := fun w => by kernel_rfl
  v75 := fun w => by kernel_rfl
  t76 := by kernel_rfl
  a76 := fun w => by kernel_rfl
  z76 := fun w => by kernel_rfl
  v76 := fun w => by kernel_rfl
  t127 := by kernel_rfl
  a127 := fun w => by kernel_rfl
  z127 := fun w => by kernel_rfl
  v127 := fun w => by kernel_rfl
  t164 := by kernel_rfl
  a164 := fun w => by kernel_rfl
  z164 := fun w => by kernel_rfl
  v164 := fun w => by kernel_rfl
set_option maxRecDepth 100000 in
theorem extraJ : Builder.Extra Tryz.prog renJ where
  sizeBuilder := by kernel_rfl
  liesBuilder := by kernel_rfl
  t5 := by kernel_rfl
  a5 := fun w => by kernel_rfl
  z5 := fun w => by kernel_rfl
  v5 := fun w => by kernel_rfl
  infoByte := by kernel_rfl
  cellsByte := by kernel_rfl
  sizeByte := by kernel_rfl
  neB5 := by decide
theorem join_flat : ∀ (l : List Bs), Lib.join l [] = l.flatten
  | [] => by simp [Lib.join]
  | [x] => by simp [Lib.join]
  | x :: y :: r => by
    have := join_flat (y :: r)
    simp_all [Lib.join]
set_option maxRecDepth 100000 in
/-- all texts in a row -/
theorem join_fn (l : List Bs) (h0 : 0 < l.length) (hl : l.flatten.length ≤ 1000000) (hn : l.length ≤ 1000000) : Fn Tryz.prog 44 [.sl (l.map encT), .str []] (.str l.flatten) := ⟨fun w R xs hR hg hr => by
  have hxl : xs.length = 2 := hr.1.symm
  obtain ⟨x, r, rfl, h1, h2⟩ := hr.uncons
  obtain ⟨y, r, rfl, h3, h4⟩ := h2.uncons
  obtain rfl : r = [] := List.eq_nil_of_length_eq_zero (by simpa using hxl)
  obtain rfl := h3.of_str
  obtain ⟨x0, hx0⟩ : ∃ x0, l[0]? = some x0 := ⟨_, List.getElem?_eq_getElem h0⟩
  rw [run_enter Tryz.func44 rfl rfl]
  generalize hls : l.map encT = rows at h1
  cases h1 with
  | slnil => have := congrArg List.length hls; rw [List.length_map, List.length_nil] at this; omega
  | sl f hn1 hc hm hRb hE hf h1c h1r =>
  subst hls
  rename_i b o n c E
  have hE1 : E = 1 := (hE (encT x0) (List.mem_map.2 ⟨x0, List.mem_of_getElem? hx0, rfl⟩)).symm
  subst hE1
  have hnl : n = l.length := by rw [← hn1, List.length_map]
  have hcall := Any.strings_Join laysJ extraJ b o c (l.map fun s => (⟨s.toArray⟩ : ByteArray)) (⟨#[]⟩ : ByteArray) w (fun j x hx => by
    rw [List.getElem?_map] at hx
    cases hq : l[j]? with
    | none => rw [hq] at hx; cases hx
    | some s =>
      rw [hq] at hx
      cases hx
      have hj := (List.getElem?_eq_some_iff.1 hq).1
      have h5 := h1r j (encT s) 0 (.str s) (by rw [List.getElem?_map, hq]; rfl) rfl
      rw [Nat.mul_one, Nat.add_zero] at h5
      have h6 := hf j (by omega)
      rw [h6, h5.of_str]) (hR b hRb) (by rw [List.length_map]; omega) (by rw [List.length_map]; omega) (by
      rw [List.map_map, show ((fun x : ByteArray => x.data.toList) ∘ fun s : Bs => (⟨s.toArray⟩ : ByteArray)) = id from by funext s; simp, List.map_id, show (⟨#[]⟩ : ByteArray).data.toList = [] from rfl, join_flat]; omega)
  rw [List.map_map, show ((fun x : ByteArray => x.data.toList) ∘ fun s : Bs => (⟨s.toArray⟩ : ByteArray)) = id from by funext s; simp, List.map_id, show (⟨#[]⟩ : ByteArray).data.toList = [] from rfl, join_flat, List.length_map] at hcall
  rw [hnl]
  refine (show Calls Tryz.prog _ _ _ _ from hcall).mono ?_
  rintro e w' ⟨rfl, hb⟩
  exact ⟨_, rfl, hb, R, fun _ h => h, fun _ h => .inl h, .str⟩⟩
end Go.Proofs.YtnblecdpkbempaaGreatDoor
