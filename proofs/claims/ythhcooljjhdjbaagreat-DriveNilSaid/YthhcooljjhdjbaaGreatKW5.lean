/- Contracts: media, new and cloned; the cache, new. -/
import Derived.Test.YthhcooljjhdjbaaGreatKW4
set_option linter.unusedVariables false
set_option linter.unusedSimpArgs false
namespace Go.Proofs.YthhcooljjhdjbaaGreat
open Go.RowKit

theorem Tryz.info162 : (Tryz.prog.info? 162).map (fun i => (i.size, i.bytes)) = some (6, 64) := by kernel_rfl

/-- Sectors as 'make' leaves them. -/
theorem SecCells.made (w : World) (n : Nat) : SecCells w (madeCells #[.int .i64 0, .slice none 0 0] (n * 2)).toList (List.replicate n .blank) := by
  refine ⟨by simp [madeCells], fun i s hs => ?_⟩
  rw [List.getElem?_replicate] at hs
  split at hs
  · rename_i hlt
    cases hs
    refine ⟨.slice none 0 0, ?_, ?_, rfl⟩
    · simp only [Array.getElem?_toList, madeCells, Array.getElem?_map, Array.getElem?_range]
      rw [if_pos (by omega)]
      simp [Sec.state]
    · simp only [Array.getElem?_toList, madeCells, Array.getElem?_map, Array.getElem?_range]
      rw [if_pos (by omega)]
      simp [Nat.add_mod]
  · cases hs

theorem geoFacts {w : World} {b : Nat} {g : Geo} (h : Blk w b 42 (geoCells g)) :
    w.cell? ⟨b, 0, none⟩ = some (.int .i64 g.random) ∧ w.cell? ⟨b, 1, none⟩ = some (.int .i64 g.bands) ∧ w.cell? ⟨b, 2, none⟩ = some (.int .i64 g.tracks) ∧
    w.cell? ⟨b, 3, none⟩ = some (.int .i64 g.sectors) ∧ w.cell? ⟨b, 4, none⟩ = some (.int .i64 g.overlap) :=
  ⟨h.cell 0 rfl, h.cell 1 rfl, h.cell 2 rfl, h.cell 3 rfl, h.cell 4 rfl⟩
/-- A new medium over a row of sectors. -/
theorem MediaAt.made {B : Nat} {w : World} {sd cap : Nat} {g : Geo} {secs : List Sec} {cells : List Value} (hl : secs.length = g.size)
    (row : w.ownsRow B 196 2 (.slice (some ⟨sd, 0, none⟩) g.size cap) g.size cells) (sc : SecCells w cells secs) :
    MediaAt B (w.alloc (.cells (mediaCells g sd cap) 162)) w.heap.size sd cap g secs :=
  ⟨Blk.new _ _ _, hl, cells, row.alloc _, sc.keep ((Ext.refl w).alloc _) (by simp)⟩
theorem mediaMade {B : Nat} (w : World) (g : Geo) (hB : B ≤ w.heap.size) (hg : g.size ≤ 120) :
    MediaAt B ((w.alloc (.cells (madeCells #[.int .i64 0, .slice none 0 0] (g.size * 2)) 196)).alloc (.cells (mediaCells g w.heap.size g.size) 162)) (w.heap.size + 1) w.heap.size g.size g (List.replicate g.size .blank) := by
  have h := MediaAt.made (B := B) (w := w.alloc (.cells (madeCells #[.int .i64 0, .slice none 0 0] (g.size * 2)) 196)) (sd := w.heap.size) (cap := g.size) (g := g) (secs := List.replicate g.size .blank)
    (by simp) (World.ownsRow_lit w _ g.size hB (by unfold maxLen; omega) (by simp [madeCells])) (SecCells.made _ _)
  rw [World.size_alloc] at h
  exact h
set_option maxHeartbeats 2000000 in
theorem mnew {B : Nat} (g : Geo) (hg : g.Ok) (w : World) (hB : B ≤ w.heap.size) : Calls Tryz.prog 83 #[geoV g] w fun e w' =>
    ∃ m sd, e = .returned (.tuple #[.pointer (some ⟨m, 0, none⟩), .int .i64 0]) ∧ MediaAt B w' m sd g.size g (List.replicate g.size .blank) ∧ Ext w w' := by
  have V := fun w => gvalid g hg w
  have S := fun w => gsize g hg w
  have hsz := hg.size_le
  obtain ⟨i0, hi, hz0, hz1, hz2⟩ := info_parts Tryz.info196
  have mk := fun w => run_make (P := Tryz.prog) w 160 196 i0 (.agg #[.int .i64 0, .slice none 0 0]) Tryz.underlying160 hi hz0 .i64 .i64 (g.size : Int) (g.size : Int) (by omega) (by omega) (by rw [hz2]; omega) (by omega)
  rw [hz1] at mk
  simp only [Int.toNat_natCast, Value.cells] at mk
  clear hi hz0 hz1 hz2
  unfold geoV at *
  go_enter Tryz.func83, Tryz.ntmps83
  go_upto_region 3 with (go_at_call 91; refine (V _).mono ?_; rintro e w1 ⟨rfl, hx⟩; have hb1 : Blk w1 w.heap.size 42 (geoCells g) := (Blk.new _ _ _).ext hx; obtain ⟨p0, p1, p2, p3, p4⟩ := geoFacts hb1)
  have HB1 := Lib.hid hb1
  have ls1 := hb1.lt
  clear hb1
  go_cut [2, 3] (fun s2 s3 wx => ∃ m sd, s2 = .pointer (some ⟨m, 0, none⟩) ∧ s3 = .int .i64 0 ∧ MediaAt B wx m sd g.size g (List.replicate g.size .blank) ∧ Ext w1 wx)
  case first =>
    go_region_with (go_at_call 58; refine (S _).mono ?_; rintro e w2 ⟨rfl, hx2⟩; have hb2 := HB1.out.drew.ext hx2; obtain ⟨q0, q1, q2, q3, q4⟩ := geoFacts hb2; have ls2 := hb2.lt; clear hb2)
    all_goals (go_wp2_with fail; go_meet; case rel => exact ⟨w2.heap.size + 1, w2.heap.size, rfl, rfl, mediaMade w2 g (by omega) hsz, (((Ext.refl w1).drew.trans hx2).alloc _).alloc _⟩)
  case rest =>
    obtain ⟨m, sd, rfl, rfl, hm, hk⟩ := hcut
    go_wp2
    go_ret2
    exact ⟨m, sd, rfl, hm, (((Ext.refl _).alloc _).trans hx).trans hk⟩

theorem mediaFacts {B : Nat} {w : World} {m sd cap : Nat} {g : Geo} {secs : List Sec} (h : MediaAt B w m sd cap g secs) :
    w.cell? ⟨m, 0, none⟩ = some (.int .i64 g.random) ∧ w.cell? ⟨m, 1, none⟩ = some (.int .i64 g.bands) ∧ w.cell? ⟨m, 2, none⟩ = some (.int .i64 g.tracks) ∧
    w.cell? ⟨m, 3, none⟩ = some (.int .i64 g.sectors) ∧ w.cell? ⟨m, 4, none⟩ = some (.int .i64 g.overlap) ∧ w.cell? ⟨m, 5, none⟩ = some (.slice (some ⟨sd, 0, none⟩) g.size cap) :=
  ⟨h.blk.cell 0 rfl, h.blk.cell 1 rfl, h.blk.cell 2 rfl, h.blk.cell 3 rfl, h.blk.cell 4 rfl, h.blk.cell 5 rfl⟩
theorem SecBytes.oneCell {w : World} {s : Sec} {y : Value} (h : SecBytes w s y) : y.oneCell' = true := by
  cases s with
  | data b => exact oneCell_of_Bytes h
  | _ => have h : y = .slice none 0 0 := h; subst h; rfl
theorem SecCells.oneCell {w : World} {cells : List Value} {secs : List Sec} (h : SecCells w cells secs) : ∀ u ∈ cells, u.oneCell' = true := by
  intro u hu
  obtain ⟨j, hj, rfl⟩ := List.getElem_of_mem hu
  have hl := h.1
  obtain ⟨y, h1, h2, h3⟩ := h.2 (j / 2) (secs[j / 2]'(by omega)) (by simp)
  by_cases he : j % 2 = 0
  · have e : j / 2 * 2 = j := by omega
    rw [e, List.getElem?_eq_getElem hj] at h1
    rw [Option.some.inj h1]; rfl
  · have e : j / 2 * 2 + 1 = j := by omega
    rw [e, List.getElem?_eq_getElem hj] at h2
    rw [Option.some.inj h2]; exact h3.oneCell
set_option maxHeartbeats 2000000 in
theorem mclone {B B' : Nat} {w : World} {m sd cap : Nat} {g : Geo} {secs : List Sec} (h : MediaAt B w m sd cap g secs) (hg : g.Ok) (hB : B' ≤ w.heap.size) :
    Calls Tryz.prog 117 #[.pointer (some ⟨m, 0, none⟩)] w fun e w' => ∃ m' sd' cap', e = .returned (.pointer (some ⟨m', 0, none⟩)) ∧ MediaAt B' w' m' sd' cap' g secs ∧ Ext w w' ∧ w.heap.size ≤ m' ∧ w.heap.size ≤ sd' := by
  obtain ⟨g0, g1, g2, g3, g4, g5⟩ := mediaFacts h
  obtain ⟨cells, row, sc⟩ := h.row
  have hsz := hg.size_le
  have hm := h.blk.lt
  have hlen := h.len
  have CL := fun w' (hx : Ext w w') => clone196 ⟨sd, 0, none⟩ g.size cap cells w' row.1 (fun j u hj => hx.cell (row.cells (g := sd) rfl j u hj)) sc.oneCell (by omega)
  have HM := Lib.hid h
  have SC := Lib.hid sc
  clear h row sc hlen
  go_enter Tryz.func117, Tryz.ntmps117
  go_upto_region 3 with fail
  go_cut [2] (fun s2 wx => ∃ m' sd' cap', s2 = .pointer (some ⟨m', 0, none⟩) ∧ MediaAt B' wx m' sd' cap' g secs ∧ Ext w wx ∧ w.heap.size ≤ m' ∧ w.heap.size ≤ sd')
  case first =>
    go_region_with (go_at_call 151; refine (CL _ (Ext.refl _).drew).mono ?_; rintro e w2 ⟨q, c', rfl, hown, hx2⟩; have hx3 := (Ext.refl w).drew.trans hx2; obtain ⟨q0, q1, q2, q3, q4, q5⟩ := mediaFacts (HM.out.keep hx3 (by simp) (by simp) (by simp)); have ls2 := Nat.lt_of_lt_of_le hm hx3.size)
    all_goals (go_wp2_with fail; go_meet; case rel => exact ⟨w2.heap.size, q, c', rfl, MediaAt.made HM.out.len (ownsRow_base hown hB) (SC.out.keep hx3 (by simp)), hx3.alloc _, hx3.size, by rcases ownsRow_shape hown with ⟨h, _⟩ | ⟨q', c'', h, h'⟩; (exact absurd h (by simp)); (simp at h; rw [h.1]; exact h')⟩)
  case rest =>
    obtain ⟨m', sd', cap', rfl, hm', hk, h1, h2⟩ := hcut
    go_wp2
    go_ret
    exact ⟨m', sd', cap', rfl, hm', hk, h1, h2⟩
end Go.Proofs.YthhcooljjhdjbaaGreat
