/- Contracts: a band is changed. -/
import Derived.Test.YthhcooljjhdjbaaGreatKW24
import Derived.Test.YthhcooljjhdjbaaGreatKW21
set_option linter.unusedVariables false
set_option linter.unusedSimpArgs false
namespace Go.Proofs.YthhcooljjhdjbaaGreat
open Go.RowKit

theorem band_cells (l : List Band) (i : Nat) (b : Band) (h : l[i]? = some b) :
    (l.flatMap bandCells)[i * 4]? = some (.int .i64 b.used) ∧ (l.flatMap bandCells)[i * 4 + 1]? = some (.int .i64 b.live) ∧ (l.flatMap bandCells)[i * 4 + 2]? = some (.int .u64 b.age) ∧ (l.flatMap bandCells)[i * 4 + 3]? = some (.int .u64 b.wear) := by
  induction l generalizing i with
  | nil => simp at h
  | cons x l ih =>
    rw [List.flatMap_cons]
    cases i with
    | zero => simp at h; subst h; simp [bandCells]
    | succ i =>
      rw [List.getElem?_cons_succ] at h
      have e : (bandCells x).length = 4 := rfl
      rw [List.getElem?_append_right (by rw [e]; omega), List.getElem?_append_right (by rw [e]; omega), List.getElem?_append_right (by rw [e]; omega), List.getElem?_append_right (by rw [e]; omega), e]
      have := ih i h
      rw [show (i + 1) * 4 - 4 = i * 4 from by omega, show (i + 1) * 4 + 1 - 4 = i * 4 + 1 from by omega, show (i + 1) * 4 + 2 - 4 = i * 4 + 2 from by omega, show (i + 1) * 4 + 3 - 4 = i * 4 + 3 from by omega]
      exact this
theorem length_bandCells (l : List Band) : (l.flatMap bandCells).length = l.length * 4 := by
  induction l with
  | nil => rfl
  | cons x l ih => rw [List.flatMap_cons, List.length_append, ih, List.length_cons]; simp [bandCells]; omega
theorem bandCells_one (l : List Band) : ∀ u ∈ l.flatMap bandCells, u.oneCell' = true := by
  intro u hu
  obtain ⟨f, _, hf⟩ := List.mem_flatMap.1 hu
  simp [bandCells] at hf
  rcases hf with rfl | rfl | rfl | rfl <;> rfl
theorem bandflat_at (l : List Band) (j : Nat) (u : Value) (h : (l.flatMap bandCells)[j]? = some u) : ∃ (i : Nat) (b : Band), l[i]? = some b ∧ ((j = i * 4 ∧ u = .int .i64 b.used) ∨ (j = i * 4 + 1 ∧ u = .int .i64 b.live) ∨ (j = i * 4 + 2 ∧ u = .int .u64 b.age) ∨ (j = i * 4 + 3 ∧ u = .int .u64 b.wear)) := by
  have hj := (List.getElem?_eq_some_iff.1 h).1
  rw [length_bandCells] at hj
  have hi : j / 4 < l.length := by omega
  obtain ⟨h0, h1, h2, h3⟩ := band_cells l (j / 4) l[j / 4] (List.getElem?_eq_getElem hi)
  refine ⟨j / 4, l[j / 4], List.getElem?_eq_getElem hi, ?_⟩
  have hm : j % 4 = 0 ∨ j % 4 = 1 ∨ j % 4 = 2 ∨ j % 4 = 3 := by omega
  rcases hm with hm | hm | hm | hm
  · left
    have e : j / 4 * 4 = j := by omega
    rw [e, h] at h0
    exact ⟨e.symm, Option.some.inj h0⟩
  · right; left
    have e : j / 4 * 4 + 1 = j := by omega
    rw [e, h] at h1
    exact ⟨e.symm, Option.some.inj h1⟩
  · right; right; left
    have e : j / 4 * 4 + 2 = j := by omega
    rw [e, h] at h2
    exact ⟨e.symm, Option.some.inj h2⟩
  · right; right; right
    have e : j / 4 * 4 + 3 = j := by omega
    rw [e, h] at h3
    exact ⟨e.symm, Option.some.inj h3⟩
/-- A row of bands that was just made: a block of its own, not frozen. -/
structure BandRow (w : World) (g : Nat) (l : List Band) (cur : Array Value) : Prop where
  blk : Blk w g 76 cur
  cell : ∀ (i : Nat) (b : Band), l[i]? = some b → cur[i * 4]? = some (.int .i64 b.used) ∧ cur[i * 4 + 1]? = some (.int .i64 b.live) ∧ cur[i * 4 + 2]? = some (.int .u64 b.age) ∧ cur[i * 4 + 3]? = some (.int .u64 b.wear)
theorem BandRow.cells {w : World} {g : Nat} {l : List Band} {cur : Array Value} (h : BandRow w g l cur) (i : Nat) (b : Band) (hb : l[i]? = some b) : BandCell w g (i * 4) b :=
  let ⟨h0, h1, h2, h3⟩ := h.cell i b hb
  ⟨h.blk.cell _ h0, h.blk.cell _ h1, h.blk.cell _ h2, h.blk.cell _ h3⟩
theorem BandRow.own {w : World} {B g c : Nat} {l : List Band} (h : w.ownsRow B 76 4 (.slice (some ⟨g, 0, none⟩) l.length c) l.length (l.flatMap bandCells)) (h1 : 1 ≤ l.length) : B ≤ g ∧ ∃ cur, BandRow w g l cur := by
  rcases h.2 with ⟨hn, _⟩ | ⟨g', cap, cur, hv, hb, hg, hc, hm, hs, ht⟩
  · simp at hn
  · have e : g = g' := by simpa using (Value.slice.inj hv).1
    subst e
    refine ⟨hb, cur, hg, fun i b hi => ?_⟩
    have hlt := (List.getElem?_eq_some_iff.1 hi).1
    have key : ∀ j, j < l.length * 4 → cur[j]? = (l.flatMap bandCells)[j]? := by
      intro j hj
      rw [← ht, List.getElem?_take, if_pos hj]
      simp
    obtain ⟨h0, h1, h2, h3⟩ := band_cells l i b hi
    exact ⟨by rw [key _ (by omega)]; exact h0, by rw [key _ (by omega)]; exact h1, by rw [key _ (by omega)]; exact h2, by rw [key _ (by omega)]; exact h3⟩
/-- What a clone of a list of bands is. -/
theorem bclone {w : World} {q c : Nat} {l : List Band} (h : ∀ (i : Nat) (b : Band), l[i]? = some b → BandCell w q (i * 4) b) (h1 : 1 ≤ l.length) (hl : l.length ≤ 64) :
    Calls Tryz.prog 45 #[.slice (some ⟨q, 0, none⟩) l.length c] w fun e w' => ∃ g c' cur, e = .returned (.slice (some ⟨g, 0, none⟩) l.length c') ∧ BandRow w' g l cur ∧ w.heap.size ≤ g ∧ Ext w w' := by
  refine (clone76 ⟨q, 0, none⟩ l.length c (l.flatMap bandCells) w (length_bandCells l) (fun j u hj => ?_) (bandCells_one l) (by omega)).mono ?_
  · rw [addr_at, Nat.zero_add]
    obtain ⟨i, b, hb, hc⟩ := bandflat_at l j u hj
    obtain ⟨h0, h1, h2, h3⟩ := h i b hb
    rcases hc with ⟨rfl, rfl⟩ | ⟨rfl, rfl⟩ | ⟨rfl, rfl⟩ | ⟨rfl, rfl⟩
    · exact h0
    · exact h1
    · exact h2
    · exact h3
  · rintro e w' ⟨g, c', rfl, hown, hx⟩
    obtain ⟨hg, cur, hr⟩ := BandRow.own hown h1
    exact ⟨g, c', cur, rfl, hr, hg, hx⟩
/-- One band of the row is written anew, cell for cell. -/
theorem BandRow.store {w w' : World} {g : Nat} {l : List Band} {cur cur' : Array Value} (h : BandRow w g l cur) (k : Nat) (b : Band) (hk : k < l.length) (hw : Blk w' g 76 cur')
    (hne : ∀ i, i ≠ k → ∀ j, j < 4 → cur'[i * 4 + j]? = cur[i * 4 + j]?) (h0 : cur'[k * 4]? = some (.int .i64 b.used)) (h1 : cur'[k * 4 + 1]? = some (.int .i64 b.live)) (h2 : cur'[k * 4 + 2]? = some (.int .u64 b.age)) (h3 : cur'[k * 4 + 3]? = some (.int .u64 b.wear)) :
    BandRow w' g (l.set k b) cur' := by
  refine ⟨hw, fun i x hx => ?_⟩
  rw [List.getElem?_set] at hx
  by_cases e : k = i
  · subst e
    rw [if_pos rfl] at hx
    split at hx
    · cases hx; exact ⟨h0, h1, h2, h3⟩
    · exact absurd hk (by assumption)
  · rw [if_neg e] at hx
    obtain ⟨c0, c1, c2, c3⟩ := h.cell i x hx
    have n0 := hne i (fun h => e h.symm) 0 (by decide)
    rw [Nat.add_zero] at n0
    exact ⟨by rw [n0]; exact c0, by rw [hne i (fun h => e h.symm) 1 (by decide)]; exact c1, by rw [hne i (fun h => e h.symm) 2 (by decide)]; exact c2, by rw [hne i (fun h => e h.symm) 3 (by decide)]; exact c3⟩
/-- The drive's bands: a row in a block of type 76. -/
def BandsAt (w : World) (v : Value) (l : List Band) : Prop := ∃ g c cur, v = .slice (some ⟨g, 0, none⟩) l.length c ∧ BandRow w g l cur
theorem BandsAt.into {w : World} {v : Value} {l : List Band} (h : BandsAt w v l) : BandsIn w v l :=
  let ⟨g, c, _, hv, hr⟩ := h
  ⟨g, c, hv, hr.cells⟩
theorem BandsAt.keep {B : Nat} {Ts : List TypeId} {w w' : World} {v : Value} {l : List Band} (h : BandsAt w v l) (hk : Keep B Ts w w') (hT : 76 ∉ Ts) : BandsAt w' v l :=
  let ⟨g, c, cur, hv, hr⟩ := h
  ⟨g, c, cur, hv, hr.blk.keep hk hT, hr.cell⟩
def ChangePost (w : World) (l : List Band) (e : Ending) (w' : World) : Prop :=
  ∃ q c, e = .returned (.tuple #[.slice (some ⟨q, 0, none⟩) l.length c, .int .i64 0]) ∧ BandsAt w' (.slice (some ⟨q, 0, none⟩) l.length c) l ∧ Ext w w'
theorem changePost {w w' : World} {g c n : Nat} {l : List Band} {cur : Array Value} (h : BandRow w' g l cur) (hx : Ext w w') (hn : l.length = n) : ChangePost w l (.returned (.tuple #[.slice (some ⟨g, 0, none⟩) n c, .int .i64 0])) w' :=
  ⟨g, c, by rw [hn], ⟨g, c, cur, rfl, h⟩, hx⟩

theorem set_ne4 (cur : Array Value) (k j0 i j : Nat) (v : Value) (hj0 : j0 < 4) (hi : i ≠ k) (hj : j < 4) : (cur.setIfInBounds (k * 4 + j0) v)[i * 4 + j]? = cur[i * 4 + j]? :=
  Array.getElem?_setIfInBounds_ne (by omega)
theorem BandRow.size {w : World} {g : Nat} {l : List Band} {cur : Array Value} (h : BandRow w g l cur) (k : Nat) (hk : k < l.length) : k * 4 + 3 < cur.size :=
  (Array.getElem?_eq_some_iff.1 (h.cell k l[k] (List.getElem?_eq_getElem hk)).2.2.2).1
theorem set_eq4 (cur : Array Value) (k : Nat) (v : Value) (h : k < cur.size) : (cur.setIfInBounds k v)[k]? = some v := by simp [h]
theorem set_other (cur : Array Value) (k i : Nat) (v : Value) (h : k ≠ i) : (cur.setIfInBounds k v)[i]? = cur[i]? := Array.getElem?_setIfInBounds_ne h
set_option maxHeartbeats 2000000 in
theorem bappend {w : World} {v : Value} {l : List Band} (h : BandsIn w v l) (h1 : 1 ≤ l.length) (hl : l.length ≤ 64) (size now : Int) (k : Nat) (hk : k < l.length) (hu : l[k].used < size) (hs : size ≤ 4096) (h0 : 0 ≤ l[k].used) (hv : 0 ≤ l[k].live ∧ l[k].live ≤ 4096) :
    Calls Tryz.prog 113 #[v, .int .i64 size, .int .i64 k, .int .u64 now] w (ChangePost w (l.set k ⟨l[k].used + 1, l[k].live + 1, now, l[k].wear⟩)) := by
  obtain ⟨q, c, rfl, h⟩ := h
  have hx0 : Ext w ((w.alloc (.cells #[.int .i64 size] 3)).alloc (.cells #[.int .u64 now] 23)) := ((Ext.refl w).alloc _).alloc _
  have C0 := bclone (w := (w.alloc (.cells #[.int .i64 size] 3)).alloc (.cells #[.int .u64 now] 23)) (c := c) (fun i b hb => (h i b hb).ext hx0) h1 hl
  have hs0 := (Blk.new w #[.int .i64 size] 3).alloc (.cells #[.int .u64 now] 23)
  have hs1 := Blk.new (w.alloc (.cells #[.int .i64 size] 3)) #[.int .u64 now] 23
  rw [alloc_size] at hs1
  have C := Lib.hid C0
  have HS0 := Lib.hid hs0
  have HS1 := Lib.hid hs1
  have HX0 := Lib.hid hx0
  have hkl : (k : Int) < (l.length : Int) := by omega
  clear h hx0 hs0 hs1 C0
  have HL := Lib.hid (show l[k]? = some l[k] from List.getElem?_eq_getElem hk)
  generalize hb : l[k] = b at *
  clear hb
  go_enter Tryz.func113, Tryz.ntmps113
  go_wp2_with (go_at_call 114; go_in)
  refine C.out.mono ?_
  rintro e w1 ⟨g, c', cur, rfl, hrow, hg, hx⟩
  obtain ⟨d0, d1, d2, d3⟩ := hrow.cells k _ HL.out
  have f0 : w1.frozen? ⟨g, k * 4, none⟩ = false := hrow.blk.free _
  have f1 : w1.frozen? ⟨g, k * 4 + 1, none⟩ = false := hrow.blk.free _
  have f2 : w1.frozen? ⟨g, k * 4 + 2, none⟩ = false := hrow.blk.free _
  have s0 : w1.cell? ⟨w.heap.size, 0, none⟩ = some (.int .i64 size) := (HS0.out.ext hx).cell 0 rfl
  have s1 : w1.cell? ⟨w.heap.size + 1, 0, none⟩ = some (.int .u64 now) := (HS1.out.ext hx).cell 0 rfl
  have hg1 : w.heap.size + 2 ≤ g := by simpa only [alloc_size] using hg
  have hge : w.heap.size ≤ g := by omega
  have ng0 : ¬ g = w.heap.size := by omega
  have ng0' : ¬ w.heap.size = g := by omega
  have ng1 : ¬ g = w.heap.size + 1 := by omega
  have ng1' : ¬ w.heap.size + 1 = g := by omega
  have HR := Lib.hid hrow
  have HX := Lib.hid (HX0.out.trans hx)
  have gl := hrow.blk.lt
  clear hrow hx hg hg1 C
  go_wp2_with go_in
  go_quiet (fail)
  go_wp2
  go_ret2
  have hsz := HR.out.size k hk
  refine changePost (cur := ((cur.setIfInBounds (k * 4 + 0) (.int .i64 (b.used + 1))).setIfInBounds (k * 4 + 1) (.int .i64 (b.live + 1))).setIfInBounds (k * 4 + 2) (.int .u64 now)) (BandRow.store HR.out k _ hk ((((HR.out.blk.drewN _).set (k * 4 + 0) _).set (k * 4 + 1) _).set (k * 4 + 2) _) ?_ ?_ ?_ ?_ ?_) (Keep.set_new (Keep.set_new (Keep.set_new (HX.out.drewN _) hge _ _) hge _ _) hge _ _) (by simp)
  · intro i hi j hj
    rw [set_ne4 _ _ _ _ _ _ (by decide) hi hj, set_ne4 _ _ _ _ _ _ (by decide) hi hj, set_ne4 _ _ _ _ _ _ (by decide) hi hj]
  · rw [set_other _ _ _ _ (by omega), set_other _ _ _ _ (by omega)]; exact set_eq4 _ _ _ (by omega)
  · rw [set_other _ _ _ _ (by omega)]; exact set_eq4 _ _ _ (by simp; omega)
  · exact set_eq4 _ _ _ (by simp; omega)
  · rw [set_other _ _ _ _ (by omega), set_other _ _ _ _ (by omega), set_other _ _ _ _ (by omega)]; exact (HR.out.cell k _ HL.out).2.2.2
end Go.Proofs.YthhcooljjhdjbaaGreat
