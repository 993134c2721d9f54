/-
  Each operation of AbsDef's walk does to the world what the walk says: appends, parts of lists, lengths. No conditions.
-/
import Derived.Test.YthchmjdgepbjpaaDoorAbsOp5
namespace Go.Proofs.YthchmjdgepbjpaaDoor
open Go.RowKit
set_option linter.unusedSimpArgs false
set_option linter.unusedVariables false

section
variable {P : Program} {cx : Cx} {h h' : Hp} {w w' : World} {R : Nat → Prop} {ρ : Rho} {c : Nat} {v : V} {x : Value} {e : Env} {T : Tab}
variable {dst : Option Tmp} {ty : TypeId} {pos : String} {af : Array Edge} {gd : Option (Nat × Bool)}

theorem Rep.of_nils (hr : Rep w R ρ .nils x) : x = .slice none 0 0 := by cases hr; rfl
theorem live_kill {h : Hp} {a k : Nat} (hl : Live (h.set a (some .dead)) k) : k ≠ a ∧ Live h k := by
  obtain ⟨b, hb, hd⟩ := hl
  by_cases e : k = a
  · subst e; rw [Hp.set_same] at hb; cases hb; exact absurd (.inl rfl) hd
  · rw [Hp.set_other h _ e] at hb; exact ⟨e, b, hb, hd⟩
theorem St.kill [Inhabited TabT] (hs : St P cx h w R ρ) (a : Nat) : St P cx (h.set a (some .dead)) w R ρ := by
  refine ⟨hs.keeps, fun k o b hk hb => ?_, fun k k' o o' n hne l l' => hs.apart k k' o o' n hne (live_kill l).2 (live_kill l').2, fun k o n l => hs.mine k o n (live_kill l).2, hs.rlt, hs.rold, hs.glob⟩
  · by_cases e : k = a
    · subst e; rw [Hp.set_same] at hb; cases hb; cases o <;> trivial
    · rw [Hp.set_other h _ e] at hb; exact hs.brep k o b hk hb
theorem St.regrow [Inhabited TabT] (hs : St P cx h w R ρ) (hc : ρ c = none) {row : Option Nat} (hg : w.grownBy w' row)
    (hrow : ∀ n, row = some n → ¬ R n ∧ n < w.heap.size ∧ (cx.w0.heap.size ≤ n ∨ cx.M n) ∧ ∀ k o, Live h k → ρ k = some o → o.own ≠ some n) {v' : Value} {b' : Blk}
    (hv' : ∀ n, roomOf v' = some n → row = some n ∨ (w.heap.size ≤ n ∧ n < w'.heap.size)) (hb' : Ext w R ρ w' R (ρ.set c (.hdr v')) → BRep P w' R (ρ.set c (.hdr v')) (.hdr v') b') :
    St P cx (h.set c (some b')) w' R (ρ.set c (.hdr v')) ∧ Ext w R ρ w' R (ρ.set c (.hdr v')) := by
  have hz0 := hs.keeps.size
  have hzz := hg.size
  have e : Ext w R ρ w' R (ρ.set c (.hdr v')) := ⟨fun _ h => h, fun b hb => hg.block b (hs.rlt b hb) (fun er => (hrow b er.symm).1 hb), fun k o hk => by
    unfold Rho.set; rw [if_neg]; exact hk
    intro he; subst he; rw [hc] at hk; cases hk⟩
  have hlive : ∀ k, k ≠ c → Live (h.set c (some b')) k → Live h k := fun k hk ⟨b, hb, hd⟩ => ⟨b, by rw [Hp.set_other h _ hk] at hb; exact hb, hd⟩
  have hrho : ∀ k o, (ρ.set c (.hdr v')) k = some o → (k = c ∧ o = .hdr v') ∨ (k ≠ c ∧ ρ k = some o) := fun k o hk => by
    unfold Rho.set at hk
    split at hk
    · rename_i he; simp at hk; exact .inl ⟨he, hk.symm⟩
    · rename_i he; exact .inr ⟨he, hk⟩
  have hnew : ∀ n, roomOf v' = some n → ∀ k o, Live h k → ρ k = some o → o.own ≠ some n := fun n hn k o l hk ho => by
    rcases hv' n hn with hr | ⟨hr, _⟩
    · exact (hrow n hr).2.2.2 k o l hk ho
    · have := (hs.mine k o n l hk ho).2.1; omega
  refine ⟨⟨⟨hg.os.trans hs.keeps.os, hg.tape.trans hs.keeps.tape, hg.output.trans hs.keeps.output, by omega, fun k hk hm => ?_⟩, fun k o b hk hb => ?_, fun k k' o o' n hne hl hl' hk hk' hn => ?_, fun k o n hl hk hn => ?_, fun n hn => ?_, hs.rold, hs.glob.ext e⟩, e⟩
  · rw [hg.block k (by omega) (fun er => by rcases (hrow k er.symm).2.2.1 with q | q; omega; exact hm q)]
    exact hs.keeps.block k hk hm
  · rcases hrho k o hk with ⟨rfl, rfl⟩ | ⟨hk1, hk2⟩
    · rw [Hp.set_same] at hb
      cases hb
      exact hb' e
    · rw [Hp.set_other h _ hk1] at hb
      refine (hs.brep k o b hk2 hb).keep e fun n hn hd => ?_
      have hl : Live h k := ⟨b, hb, fun e => hd e⟩
      exact hg.block n (hs.mine k o n hl hk2 hn).2.1 (fun er => (hrow n er.symm).2.2.2 k o hl hk2 hn)
  · rcases hrho k o hk with ⟨rfl, rfl⟩ | ⟨hk1, hk2⟩ <;> rcases hrho k' o' hk' with ⟨rfl, rfl⟩ | ⟨hk1', hk2'⟩
    · exact absurd rfl hne
    · exact hnew n hn k' o' (hlive _ hk1' hl') hk2'
    · intro hn'; exact hnew n hn' k o (hlive _ hk1 hl) hk2 hn
    · exact hs.apart k k' o o' n hne (hlive _ hk1 hl) (hlive _ hk1' hl') hk2 hk2' hn
  · rcases hrho k o hk with ⟨rfl, rfl⟩ | ⟨hk1, hk2⟩
    · rcases hv' n hn with hr | ⟨hr, hr2⟩
      · obtain ⟨a1, a2, a3, _⟩ := hrow n hr
        exact ⟨a1, by omega, a3⟩
      · exact ⟨fun hR => by have := hs.rlt _ hR; omega, hr2, .inl (by omega)⟩
    · obtain ⟨a1, a2, a3⟩ := hs.mine k o n (hlive _ hk1 hl) hk2 hn
      exact ⟨a1, by omega, a3⟩
  · have := hs.rlt n hn; omega

/-- append, to a slice of one's own: as Laws/AppendOwn has it, with where the new block is -/
theorem run_append_mine (t ty e : TypeId) (i : TypeInfo) (z : Value) (ht : P.underlying t = some (.slice e)) (hi : P.info? e = some i) (hz : i.zero = some z)
    (hzs : z.cells.size = i.size) (hsz : 0 < i.size)
    (v : Value) (n : Nat) (xs : List Value) (hown : w.ownsRow 0 e i.size v n xs)
    (ad : Option Addr) (m c : Nat) (news : List Value) (hl : news.length = m * i.size) (had : 0 < m → ∃ a, ad = some a ∧ ∀ j u, news[j]? = some u → w.cell? (a.add j) = some u) (h1 : ∀ u ∈ news, u.oneCell' = true)
    (h63 : n + m ≤ maxLen) (hbytes : (n + m) * i.bytes ≤ 140737488355328) :
    ∃ v' w', (Builtin.append_ #[t, t] ty #[v, .slice ad m c]).run P w = .ok v' w' ∧ w'.ownsRow 0 e i.size v' (n + m) (xs ++ news) ∧ w.grownBy w' v.ownBlock ∧
      ∀ g, v'.ownBlock = some g → v.ownBlock = some g ∨ (w.heap.size ≤ g ∧ g < w'.heap.size) := by
  have hsmall : n + m ≤ 9223372036854775807 := by simp only [maxLen] at h63; omega
  have hlen : (xs ++ news).length = (n + m) * i.size := by rw [List.length_append, hown.1, hl, Nat.add_mul]
  by_cases hm : m = 0
  · subst hm
    have hn : news = [] := List.eq_nil_of_length_eq_zero (by simpa using hl)
    subst hn
    refine ⟨v, w, ?_, by simpa using hown, ⟨rfl, rfl, rfl, Nat.le_refl _, fun _ _ _ => rfl⟩, fun g hg => .inl hg⟩
    rcases hown.2 with ⟨rfl, rfl⟩ | ⟨g, cap, cur, rfl, hbg, hg, hnc, hcm, hcs, htake⟩
    · cases ad <;> simp [Builtin.append_, run_underlying ht, sizeOf, typeInfo, hi, Builtin.lenOf, Builtin.firstCells, loadCells, loadCellsFrom]
    · cases ad <;> simp [Builtin.append_, run_underlying ht, sizeOf, typeInfo, hi, Builtin.lenOf, Builtin.firstCells, loadCells, loadCellsFrom, hnc, storeCells]
  obtain ⟨a, rfl, hnews⟩ := had (by omega)
  have grown : ∀ (old : Nat), old < n + m → ∀ (row : Option Nat),
      (w.drew.alloc (.cells (xs.toArray ++ news.toArray ++ Builtin.zeroCells z.cells (grownCap w (n + m) old e - (n + m))) e)).ownsRow 0 e i.size
        (.slice (some ⟨w.heap.size, 0, none⟩) (n + m) (grownCap w (n + m) old e)) (n + m) (xs ++ news) ∧
      w.grownBy (w.drew.alloc (.cells (xs.toArray ++ news.toArray ++ Builtin.zeroCells z.cells (grownCap w (n + m) old e - (n + m))) e)) row := by
    intro old ho row
    have hge := grownCap_ge w (n + m) old e
    have hcm : grownCap w (n + m) old e ≤ maxLen := grownCap_le_maxLen w (n + m) old e h63
    refine ⟨⟨hlen, .inr ⟨w.heap.size, _, _, rfl, Nat.zero_le _, heap_alloc_new w.drew _, hge, hcm, ?_, ?_⟩⟩, ⟨rfl, rfl, rfl, by simp, fun k hk _ => Below.heap_alloc w.drew _ k hk⟩⟩
    · simp only [Array.size_append, List.size_toArray, size_zeroCells, hzs, hown.1, hl, ← Nat.add_mul]
      congr 1
      omega
    · simp only [Array.toList_append, List.append_assoc]
      rw [← List.append_assoc, ← hlen]
      exact List.take_left
  rcases hown.2 with ⟨rfl, rfl⟩ | ⟨g, cap, cur, rfl, hbg, hg, hnc, hcm, hcs, htake⟩
  · have hx : xs = [] := List.eq_nil_of_length_eq_zero (by simpa using hown.1)
    subst hx
    have hr := run_append_nil (P := P) w t ty e i z ht hi hz a m c news hl hnews (by omega) (by omega) (by have hb := hbytes; simp only [Nat.zero_add] at hb; omega)
    have hgr := grown 0 (by omega) (Value.ownBlock (.slice none 0 0))
    simp only [Nat.zero_add, List.nil_append, Array.empty_append] at hgr ⊢
    exact ⟨_, _, hr, hgr.1, hgr.2, fun g hg => by simp [Value.ownBlock] at hg; subst hg; exact .inr ⟨Nat.le_refl _, by simp⟩⟩
  · by_cases hroom : n + m ≤ cap
    · have hfit : n * i.size + news.length ≤ cur.size := by rw [hl, hcs, ← Nat.add_mul]; exact Nat.mul_le_mul_right _ hroom
      have hr := run_append_room (P := P) w t ty e i ht hi g n cap cur hg a m c news hl hnews h1 hroom hfit
      refine ⟨_, _, hr, ⟨hlen, .inr ⟨g, cap, _, rfl, hbg, setRow_heap w g cur _ e _ hg, hroom, hcm, ?_, ?_⟩⟩, ⟨rfl, rfl, rfl, by simp, fun k _ hk => setRow_other w g k _ (fun e => hk (by simp [Value.ownBlock, e]))⟩, fun g' hg' => .inl (by simpa [Value.ownBlock] using hg')⟩
      · simp only [List.size_toArray, List.length_append, List.length_take, List.length_drop, Array.length_toList]
        omega
      · rw [htake, ← hlen]
        exact List.take_left
    · have holds : ∀ j u, xs[j]? = some u → w.cell? ((⟨g, 0, none⟩ : Addr).add j) = some u := hown.cells (g := g) rfl
      have hr := run_append_grow (P := P) w t ty e i z ht hi hz ⟨g, 0, none⟩ n cap xs hown.1 holds a m c news hl hnews (by omega) (by omega) (growslice_fits (by omega) hbytes)
      have hgr := grown cap (by omega) (Value.ownBlock (.slice (some ⟨g, 0, none⟩) n cap))
      exact ⟨_, _, hr, hgr.1, hgr.2, fun g' hg' => by simp [Value.ownBlock] at hg'; subst hg'; exact .inr ⟨Nat.le_refl _, by simp⟩⟩

theorem room_own {v : Value} {g : Nat} (h : roomOf v = some g) : v.ownBlock = some g := by
  unfold roomOf at h
  split at h
  · exact h
  · cases h
/-- append to a slice made from a string -/
theorem run_append_fz (t ty e : TypeId) (i : TypeInfo) (z : Value) (ht : P.underlying t = some (.slice e)) (hi : P.info? e = some i) (hz : i.zero = some z)
    (hzs : z.cells.size = i.size) (hsz : 0 < i.size)
    (g n cap : Nat) (cur : Array Value) (fz : Nat × Nat) (xs : List Value) (hlen : xs.length = n * i.size) (hg : w.heap[g]? = some (.cells cur e fz)) (hnc : n ≤ cap + 1) (hcm : cap + 1 ≤ maxLen) (hcs : cur.size = (cap + 1) * i.size) (htake : cur.toList.take (n * i.size) = xs) (hfz : cur.size ≤ fz.1) (hE1 : i.size = 1)
    (ad : Option Addr) (m c : Nat) (news : List Value) (hl : news.length = m * i.size) (had : 0 < m → ∃ a, ad = some a ∧ ∀ j u, news[j]? = some u → w.cell? (a.add j) = some u) (h1 : ∀ u ∈ news, u.oneCell' = true)
    (h63 : n + m ≤ maxLen) (hbytes : (n + m) * i.bytes ≤ 140737488355328) :
    ∃ v' w', (Builtin.append_ #[t, t] ty #[.slice (some ⟨g, 0, none⟩) n (cap + 1), .slice ad m c]).run P w = .ok v' w' ∧ Owns w' e i.size v' (n + m) (xs ++ news) ∧ w.grownBy w' (some g) ∧
      ∀ g', roomOf v' = some g' → some g = some g' ∨ (w.heap.size ≤ g' ∧ g' < w'.heap.size) := by
  have hlen2 : (xs ++ news).length = (n + m) * i.size := by rw [List.length_append, hlen, hl, Nat.add_mul]
  have hsmall : n + m ≤ 9223372036854775807 := by simp only [maxLen] at h63; omega
  by_cases hm : m = 0
  · subst hm
    have hn : news = [] := List.eq_nil_of_length_eq_zero (by simpa using hl)
    subst hn
    refine ⟨.slice (some ⟨g, 0, none⟩) n (cap + 1), w, ?_, ⟨by simpa using hlen2, .inr (.inr ⟨g, cap, cur, fz, rfl, hg, hnc, hcm, hcs, by simpa using htake, .inr ⟨hfz, hE1⟩⟩)⟩, ⟨rfl, rfl, rfl, Nat.le_refl _, fun _ _ _ => rfl⟩, fun g' hg' => .inl hg'⟩
    cases ad <;> simp [Builtin.append_, run_underlying ht, sizeOf, typeInfo, hi, Builtin.lenOf, Builtin.firstCells, loadCells, loadCellsFrom, hnc, storeCells]
  obtain ⟨a, rfl, hnews⟩ := had (by omega)
  by_cases hroom : n + m ≤ cap + 1
  · have hfit : n * i.size + news.length ≤ cur.size := by rw [hl, hcs, ← Nat.add_mul]; exact Nat.mul_le_mul_right _ hroom
    have hf := run_firstCells_some (P := P) w i.size m a m c news hl hnews
    have hst := run_storeCells_fz (P := P) g (n * i.size) e fz news 0 cur w hg (.inr hfz) (by simpa using hfit) h1
    simp only [Nat.add_zero] at hst
    have hr : (Builtin.append_ #[t, t] ty #[.slice (some ⟨g, 0, none⟩) n (cap + 1), .slice (some a) m c]).run P w = .ok (.slice (some ⟨g, 0, none⟩) (n + m) (cap + 1)) (w.setRow g (cur.toList.take (n * i.size) ++ news ++ cur.toList.drop (n * i.size + news.length)).toArray) := by
      simp [Builtin.append_, run_underlying ht, sizeOf, typeInfo, hi, Builtin.lenOf, hroom, hf, Addr.add_lit, hst]
    refine ⟨_, _, hr, ⟨hlen2, .inr (.inr ⟨g, cap, _, fz, rfl, setRow_heap w g cur _ e _ hg, hroom, hcm, ?_, ?_, .inr ⟨?_, hE1⟩⟩)⟩, ⟨rfl, rfl, rfl, by simp, fun k _ hk => setRow_other w g k _ (fun e => hk (by simp [e]))⟩, fun g' hg' => .inl hg'⟩
    · simp only [List.size_toArray, List.length_append, List.length_take, List.length_drop, Array.length_toList]
      omega
    · rw [htake, ← hlen2]
      exact List.take_left
    · simp only [List.size_toArray, List.length_append, List.length_take, List.length_drop, Array.length_toList]
      omega
  · have holds : ∀ j u, xs[j]? = some u → w.cell? ((⟨g, 0, none⟩ : Addr).add j) = some u := fun j u hu => by
      rw [add_none, Nat.zero_add]
      simp only [World.cell?, hg]
      rw [← htake, List.getElem?_take] at hu
      split at hu
      · simpa using hu
      · cases hu
    have hr := run_append_grow (P := P) w t ty e i z ht hi hz ⟨g, 0, none⟩ n (cap + 1) xs hlen holds a m c news hl hnews (by omega) (by omega) (growslice_fits (by omega) hbytes)
    have hge := grownCap_ge w (n + m) (cap + 1) e
    have hcm2 : grownCap w (n + m) (cap + 1) e ≤ maxLen := grownCap_le_maxLen w (n + m) (cap + 1) e h63
    refine ⟨_, _, hr, .of (b := 0) ⟨hlen2, .inr ⟨w.heap.size, _, _, rfl, Nat.zero_le _, heap_alloc_new w.drew _, hge, hcm2, ?_, ?_⟩⟩, ⟨rfl, rfl, rfl, by simp, fun k hk _ => Below.heap_alloc w.drew _ k hk⟩, fun g' hg' => ?_⟩
    · simp only [Array.size_append, List.size_toArray, size_zeroCells, hzs, hlen, hl, ← Nat.add_mul]
      congr 1
      omega
    · simp only [Array.toList_append, List.append_assoc]
      rw [← List.append_assoc, ← hlen2]
      exact List.take_left
    · have := room_own hg'
      simp [Value.ownBlock] at this
      subst this
      exact .inr ⟨Nat.le_refl _, by simp⟩
theorem run_append_own (t ty e : TypeId) (i : TypeInfo) (z : Value) (ht : P.underlying t = some (.slice e)) (hi : P.info? e = some i) (hz : i.zero = some z)
    (hzs : z.cells.size = i.size) (hsz : 0 < i.size)
    (v : Value) (n : Nat) (xs : List Value) (hown : Owns w e i.size v n xs)
    (ad : Option Addr) (m c : Nat) (news : List Value) (hl : news.length = m * i.size) (had : 0 < m → ∃ a, ad = some a ∧ ∀ j u, news[j]? = some u → w.cell? (a.add j) = some u) (h1 : ∀ u ∈ news, u.oneCell' = true)
    (h63 : n + m ≤ maxLen) (hbytes : (n + m) * i.bytes ≤ 140737488355328) :
    ∃ v' w', (Builtin.append_ #[t, t] ty #[v, .slice ad m c]).run P w = .ok v' w' ∧ Owns w' e i.size v' (n + m) (xs ++ news) ∧ w.grownBy w' (roomOf v) ∧
      ∀ g, roomOf v' = some g → roomOf v = some g ∨ (w.heap.size ≤ g ∧ g < w'.heap.size) := by
  obtain ⟨hlen, hown⟩ := hown
  rcases hown with ⟨rfl, rfl⟩ | ⟨a, rfl, rfl⟩ | ⟨g, cap, cur, fz, rfl, hg, hnc, hcm, hcs, htake, hfz⟩
  · obtain ⟨v', w', h2, h3, h4, h5⟩ := run_append_mine (P := P) t ty e i z ht hi hz hzs hsz _ 0 xs ⟨hlen, .inl ⟨rfl, rfl⟩⟩ ad m c news hl had h1 h63 hbytes
    exact ⟨v', w', h2, .of h3, h4, fun g hg => (h5 g (room_own hg)).imp (fun h => by simp [Value.ownBlock] at h) id⟩
  · have hx : xs = [] := List.eq_nil_of_length_eq_zero (by simpa using hlen)
    subst hx
    by_cases hm : m = 0
    · subst hm
      have hn : news = [] := List.eq_nil_of_length_eq_zero (by simpa using hl)
      subst hn
      refine ⟨.slice (some a) 0 0, w, ?_, ⟨by simp, .inr (.inl ⟨a, rfl, rfl⟩)⟩, ⟨rfl, rfl, rfl, Nat.le_refl _, fun _ _ _ => rfl⟩, fun g hg => by cases hg⟩
      cases ad <;> simp [Builtin.append_, run_underlying ht, sizeOf, typeInfo, hi, Builtin.lenOf, Builtin.firstCells, loadCells, loadCellsFrom, storeCells]
    · obtain ⟨b, rfl, hnews⟩ := had (by omega)
      have hr := run_append_grow (P := P) w t ty e i z ht hi hz a 0 0 [] (by simp) (by simp) b m c news hl hnews (by omega) (by simp only [maxLen] at h63; omega) (growslice_fits (by omega) hbytes)
      simp only [Nat.zero_add, List.nil_append, Array.empty_append] at hr h63 ⊢
      have hge := grownCap_ge w m 0 e
      have hcm : grownCap w m 0 e ≤ maxLen := grownCap_le_maxLen w m 0 e h63
      refine ⟨_, _, hr, .of (b := 0) ⟨hl, .inr ⟨w.heap.size, _, _, rfl, Nat.zero_le _, heap_alloc_new w.drew _, hge, hcm, ?_, ?_⟩⟩, ⟨rfl, rfl, rfl, by simp, fun k hk _ => Below.heap_alloc w.drew _ k hk⟩, fun g hg => ?_⟩
      · simp only [Array.size_append, List.size_toArray, size_zeroCells, hzs, hl, ← Nat.add_mul]
        congr 1
        omega
      · simp only [Array.toList_append]
        rw [← hl]
        simp
      · have := room_own hg
        simp [Value.ownBlock] at this
        subst this
        exact .inr ⟨Nat.le_refl _, by simp⟩
  · rcases hfz with rfl | hfz
    rotate_left
    · exact run_append_fz (P := P) t ty e i z ht hi hz hzs hsz g n cap cur fz xs hlen hg hnc hcm hcs htake hfz.1 hfz.2 ad m c news hl had h1 h63 hbytes
    obtain ⟨v', w', h2, h3, h4, h5⟩ := run_append_mine (P := P) t ty e i z ht hi hz hzs hsz (.slice (some ⟨g, 0, none⟩) n (cap + 1)) n xs ⟨hlen, .inr ⟨g, cap + 1, cur, rfl, Nat.zero_le _, hg, hnc, hcm, hcs, htake⟩⟩ ad m c news hl had h1 h63 hbytes
    exact ⟨v', w', h2, .of h3, h4, fun g hg => h5 g (room_own hg)⟩

theorem OwnRows.nil (w : World) (R : Nat → Prop) {el : TypeId} {E : Nat} (hi : RowInfo P el E) : OwnRows P w R (.slice none 0 0) el [] E [] :=
  ⟨.of (World.ownsRow_nil w 0 el E), hi, by simp, by simp, by simp⟩
/-- what a list that is read holds, flat -/
theorem Rep.flat {E : Nat} (hE : 0 < E) {ys : List (List V)} {y : Value} (hr : Rep w R ρ (.sl ys) y) (hl : ∀ r ∈ ys, r.length = E) : ∃ (ad : Option Addr) (c : Nat) (news : List Value), y = .slice ad ys.length c ∧ ys.length ≤ maxLen ∧ news.length = ys.length * E ∧ (0 < ys.length → ∃ a, ad = some a ∧ ∀ j u, news[j]? = some u → w.cell? (a.add j) = some u) ∧
    (∀ u ∈ news, Value.oneCell' u = true) ∧ ∀ (i : Nat) (row : List V), ys[i]? = some row → Reps w R rho0 row ((news.drop (i * E)).take E) := by
  cases hr with
  | slnil => exact ⟨_, _, [], rfl, Nat.zero_le _, by simp, by simp, by simp, by simp⟩
  | sl f hn hc hm hR hEE hf h1 hrep =>
    rename_i b o n cap E'
    subst hn
    by_cases h0 : ys = []
    · subst h0; exact ⟨_, _, [], rfl, Nat.zero_le _, by simp, by simp, by simp, by simp⟩
    obtain rfl : E' = E := by
      obtain ⟨r, hr⟩ := List.exists_mem_of_ne_nil ys h0
      rw [← hEE r hr, hl r hr]
    refine ⟨_, _, (List.range (ys.length * E')).map f, rfl, hm, by simp, fun _ => ⟨_, rfl, fun j u hu => ?_⟩, ?_, ?_⟩
    · rw [List.getElem?_map] at hu
      cases hr : (List.range (ys.length * E'))[j]? with
      | none => simp [hr] at hu
      | some q =>
        simp [hr] at hu
        obtain ⟨hj, rfl⟩ := List.getElem?_eq_some_iff.1 hr
        simp at hj hu
        subst hu
        rw [add_none]; exact hf j hj
    · intro u hu
      simp only [List.mem_map, List.mem_range] at hu
      obtain ⟨j, hj, rfl⟩ := hu
      exact h1 j hj
    · intro i row hi
      have hlt : i < ys.length := (List.getElem?_eq_some_iff.1 hi).1
      have hrl := hl row (List.mem_of_getElem? hi)
      have hin := row_at (E := E') hlt
      refine ⟨by simp; omega, fun j v y hv hy => ?_⟩
      rw [List.getElem?_take] at hy
      split at hy
      · rename_i hj
        rw [List.getElem?_drop, List.getElem?_map, List.getElem?_range (by omega)] at hy
        simp at hy
        subst hy
        exact hrep i row j v hi hv
      · cases hy
/-- what a list of one's own holds, flat -/
theorem OwnRows.flat {el : TypeId} {E : Nat} {ys : List (List V)} {y : Value} {fl : List Value} (ho : OwnRows P w R y el ys E fl) : ∃ (ad : Option Addr) (c : Nat), y = .slice ad ys.length c ∧ ys.length ≤ maxLen ∧ fl.length = ys.length * E ∧ (0 < ys.length → ∃ a, ad = some a ∧ ∀ j u, fl[j]? = some u → w.cell? (a.add j) = some u) := by
  obtain ⟨ha, hb⟩ := ho.owns
  rcases hb with ⟨rfl, h0⟩ | ⟨a, rfl, h0⟩ | ⟨g, cap, cur, fz, rfl, hg, hnc, hcm, hcs, htake, hfz⟩
  · rw [h0]; exact ⟨_, _, rfl, Nat.zero_le _, by rw [ha, h0], by simp⟩
  · rw [h0]; exact ⟨_, _, rfl, Nat.zero_le _, by rw [ha, h0], by simp⟩
  · refine ⟨_, _, rfl, by omega, ha, fun _ => ⟨_, rfl, fun j u hu => ?_⟩⟩
    rw [add_none, Nat.zero_add]
    simp only [World.cell?, hg]
    rw [← htake, List.getElem?_take] at hu
    split at hu
    · simpa using hu
    · cases hu
theorem append_ok [Inhabited TabT] {t el : TypeId} {E : Nat} (hc0 : h c = none) (ht : tiOkB P t (.slice el E) = true) (x y : Operand) {xs ys : List (List V)} {fs : List (Nat × Blk)} (hy : e.rd y = .sl ys ∨ (e.rd y = .nils ∧ ys = []) ∨ ∃ b el', e.rd y = .own b ∧ h b = some (.rows el' ys) ∧ e.rd x ≠ .own b)
    (hx : (e.rd x = .nils ∧ xs = [] ∧ fs = []) ∨ (∃ a, e.rd x = .own a ∧ h a = some (.rows el xs) ∧ fs = [(a, .dead)])) (hl : ∀ r ∈ ys, r.length = E) (hsz : (xs.length + ys.length) * 1024 ≤ 140737488355328) :
    OpOk P cx ⟨dst, .call { callee := .builtin .append, args := #[x, y], argTypes := #[t, t] }, ty, pos, af, gd⟩ e h (.own c) (fs ++ [(c, .rows el (xs ++ ys))]) := by
  intro R ρ ac w hs hr hth
  have hc := hth.free hc0
  obtain ⟨hu, hinfo⟩ := tiOk_slice ht
  obtain ⟨hE, ii, z, hi, hsize, hby, hz, hzs⟩ := hinfo
  have hinfo' : RowInfo P el E := ⟨hE, ii, z, hi, hsize, hby, hz, hzs⟩
  have g1 := hr x (by simp [Op.operands, Call.operands])
  have g2 := hr y (by simp [Op.operands, Call.operands])
  have flat : ∃ (ad : Option Addr) (cp : Nat) (news : List Value), ac.eval y = .slice ad ys.length cp ∧ ys.length ≤ maxLen ∧ news.length = ys.length * E ∧ (0 < ys.length → ∃ a, ad = some a ∧ ∀ j u, news[j]? = some u → w.cell? (a.add j) = some u) ∧
    (∀ u ∈ news, Value.oneCell' u = true) ∧ ∀ (i : Nat) (row : List V), ys[i]? = some row → Reps w R rho0 row ((news.drop (i * E)).take E) := by
    rcases hy with hy | ⟨hy, rfl⟩ | ⟨b, el', hy, hb, _⟩
    · rw [hy] at g2; exact g2.flat hE hl
    · rw [hy] at g2; exact ⟨none, 0, [], g2.of_nils, Nat.zero_le _, by simp, by simp, by simp, by simp⟩
    · rw [hy] at g2
      generalize ac.eval y = u at g2
      cases g2 with
      | own hp =>
        obtain ⟨E', fl, ho⟩ := hs.brep b _ _ hp hb
        by_cases h0 : ys = []
        · subst h0
          obtain ⟨ad, cp, q1, q2, q3, q4⟩ := ho.flat
          exact ⟨ad, cp, [], q1, q2, by simp, by simp, by simp, by simp⟩
        obtain rfl : E' = E := by
          obtain ⟨r, hr⟩ := List.exists_mem_of_ne_nil ys h0
          rw [← ho.len r hr, hl r hr]
        obtain ⟨ad, cp, q1, q2, q3, q4⟩ := ho.flat
        exact ⟨ad, cp, fl, q1, q2, q3, q4, ho.one, ho.rep⟩
  obtain ⟨ad, cp, news, hyv, hym, hnl, had, hone, hrep⟩ := flat
  -- the slice that is appended to
  have key : ∃ fl, St P cx (h.sets fs) w R ρ ∧ OwnRows P w R (ac.eval x) el xs E fl ∧ ∀ n, roomOf (ac.eval x) = some n → ¬ R n ∧ n < w.heap.size ∧ (cx.w0.heap.size ≤ n ∨ cx.M n) ∧ ∀ k o, Live (h.sets fs) k → ρ k = some o → o.own ≠ some n := by
    rcases hx with ⟨hx, rfl, rfl⟩ | ⟨a, hx, ha, rfl⟩
    · rw [hx] at g1
      have : ac.eval x = .slice none 0 0 := g1.of_nils
      rw [this]
      exact ⟨[], hs, OwnRows.nil w R hinfo', by simp [roomOf]⟩
    · rw [hx] at g1
      generalize ac.eval x = u at g1
      cases g1 with
      | own hp =>
        obtain ⟨E', fl, ho⟩ := hs.brep a _ _ hp ha
        have hEE : E' = E := by
          obtain ⟨j, zz, q1, q2, _⟩ := ho.info.info
          rw [hi] at q1; cases q1; omega
        subst hEE
        have hla : Live h a := ⟨_, ha, by simp⟩
        refine ⟨fl, hs.kill a, ho, fun n hn => ?_⟩
        obtain ⟨m1, m2, m3⟩ := hs.mine a _ n hla hp hn
        refine ⟨m1, m2, m3, fun k o l hk => ?_⟩
        obtain ⟨l1, l2⟩ := live_kill l
        exact hs.apart a k _ o n (Ne.symm l1) hla l2 hp hk hn
  obtain ⟨fl, hs1, ho, hrow⟩ := key
  subst hsize
  have hb1 : (xs.length + ys.length) * ii.bytes ≤ 140737488355328 := Nat.le_trans (Nat.mul_le_mul_left _ hby) hsz
  obtain ⟨v', w', hrun, hown', hgr, hblk⟩ := run_append_own (P := P) t ty el ii z hu hi hz hzs hE (ac.eval x) xs.length fl ho.owns ad ys.length cp news hnl had hone (by unfold maxLen; omega) hb1
  have hrun' : (execOp ac.eval ⟨dst, .call { callee := .builtin .append, args := #[x, y], argTypes := #[t, t] }, ty, pos, af, gd⟩).run P w = .ok (.value v') w' := by
    simp [execOp, resolve, invoke, builtin, hyv, hrun]
  rw [hrun']
  obtain ⟨s1, s2⟩ := hs1.regrow (c := c) hc hgr hrow (v' := v') (b' := .rows el (xs ++ ys)) hblk (fun ex => ⟨ii.size, fl ++ news, by rw [List.length_append]; exact hown', hinfo', fun r hr => by
      rcases List.mem_append.1 hr with h | h
      · exact ho.len r h
      · exact hl r h, fun q hq => by
      rcases List.mem_append.1 hq with h | h
      · exact ho.one q h
      · exact hone q h, fun i row hi => by
      have exx : Ext w R rho0 w' R rho0 := ⟨ex.r, ex.heap, fun _ _ h => h⟩
      have hfl := ho.owns.1
      by_cases hil : i < xs.length
      · rw [List.getElem?_append_left hil] at hi
        have hin := row_at (E := ii.size) hil
        rw [List.drop_append_of_le_length (by omega), List.take_append_of_le_length (by simp; omega)]
        exact (ho.rep i row hi).ext exx
      · rw [List.getElem?_append_right (by omega)] at hi
        rw [List.drop_append, List.drop_of_length_le (by rw [hfl]; exact Nat.mul_le_mul_right _ (by omega)), List.nil_append, hfl, ← Nat.sub_mul]
        exact (hrep _ row hi).ext exx⟩)
  have hsets : h.sets (fs ++ [(c, .rows el (xs ++ ys))]) = (h.sets fs).set c (some (.rows el (xs ++ ys))) := by
    rcases hx with ⟨_, _, rfl⟩ | ⟨a, _, _, rfl⟩ <;> rfl
  rw [hsets]
  have hth' : There (h.sets fs) ρ := fun k o hk => Hp.mono_sets fs h k (hth k o hk)
  exact ⟨R, _, s1, hth'.add c _ _, s2, .own (by simp [Rho.set]) hown'.one⟩
/-- nothing, to nil -/
theorem append_nn_ok [Inhabited TabT] {t el : TypeId} {E : Nat} (ht : tiOkB P t (.slice el E) = true) (x y : Operand) (hx : e.rd x = .nils) (hy : e.rd y = .nils) :
    CalmOk P cx c ⟨dst, .call { callee := .builtin .append, args := #[x, y], argTypes := #[t, t] }, ty, pos, af, gd⟩ e h .nils none := by
  refine .of_val fun R ρ ac w hs hr => ⟨.slice none 0 0, ?_, .nils⟩
  obtain ⟨hu, hE, ii, z, hi, hsize, hby, hz, hzs⟩ := tiOk_slice ht
  have g1 := hr x (by simp [Op.operands, Call.operands])
  have g2 := hr y (by simp [Op.operands, Call.operands])
  rw [hx] at g1
  rw [hy] at g2
  have : (Builtin.append_ #[t, t] ty #[.slice none 0 0, .slice none 0 0]).run P w = .ok (.slice none 0 0) w := by
    simp [Builtin.append_, run_underlying hu, sizeOf, typeInfo, hi, Builtin.lenOf, Builtin.firstCells, loadCells, loadCellsFrom]
  simp [execOp, resolve, invoke, builtin, g1.of_nils, g2.of_nils, this]
end
end Go.Proofs.YthchmjdgepbjpaaDoor

-- tabvar