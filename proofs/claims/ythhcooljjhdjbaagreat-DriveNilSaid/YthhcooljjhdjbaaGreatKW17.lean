/- Contract: a disk is made. -/
import Derived.Test.YthhcooljjhdjbaaGreatKW16
set_option linter.unusedVariables false
set_option linter.unusedSimpArgs false
namespace Go.Proofs.YthhcooljjhdjbaaGreat
open Go.RowKit

def DnewPost (B : Nat) (w : World) (ap : Nat) (d : Dsk) (e : Ending) (w' : World) : Prop :=
  ∃ ad, e = .returned (.tuple #[.pointer (some ⟨ad, 0, none⟩), .int .i64 0]) ∧ DskAt B w' ad ap d ∧ Ext w w' ∧ w.heap.size ≤ ad
theorem dskMade {B : Nat} (g : Geo) (l : List Flt) (p : Pow) (cn ap : Nat) (fv : Value) (w : World) (hc : CacheAt B w cn g (List.replicate g.size .blank) (List.replicate g.size .blank) []) (hf : FaultsAt w fv l)
    (hp : Blk w ap 132 (powCells p)) (hap : B ≤ ap) (hB : B ≤ w.heap.size) : DskAt B (w.alloc (.cells (dskCells (Dsk.new g l p) cn ap fv) 109)) w.heap.size ap (Dsk.new g l p) := by
  have hx : Ext w (w.alloc (.cells (dskCells (Dsk.new g l p) cn ap fv) 109)) := (Ext.refl _).alloc _
  exact ⟨cn, fv, Blk.new _ _ _, hB, hp.ext hx, hap, hc.ext hx, hf.keep hx (by simp)⟩
set_option maxHeartbeats 2000000 in
theorem dnew {B : Nat} {w : World} (g : Geo) (hg : g.Ok) {v : Value} {l : List Flt} (h : FltRead w v l) (hok : FltOk l) (hl : l.length ≤ 4096) {ap : Nat} {p : Pow} (hp : Blk w ap 132 (powCells p)) (hap : B ≤ ap) (hB : B ≤ w.heap.size) :
    Calls Tryz.prog 44 #[geoV g, v, .pointer (some ⟨ap, 0, none⟩)] w (DnewPost B w ap (Dsk.new g l p)) := by
  have hx0 : Ext w (w.alloc (.cells (geoCells g) 42)) := (Ext.refl _).alloc _
  have M := mnew (B := B) g hg (w.alloc (.cells (geoCells g) 42)) (Nat.le_trans hB hx0.size)
  have H := Lib.hid h
  have HOK := Lib.hid hok
  have HP := Lib.hid hp
  have HX0 := Lib.hid hx0
  have HB0 := Lib.hid (Blk.new w (geoCells g) 42)
  clear h hok hp hx0
  unfold geoV at *
  unfold geoCells at M
  go_enter Tryz.func44, Tryz.ntmps44
  go_wp2_with fail
  refine M.mono ?_
  rintro e w1 ⟨m, sd, rfl, hm, hx1⟩
  have hx2 : Ext w w1 := HX0.out.trans hx1
  have FV := fvalid (H.out.ext hx2) HOK.out hl
  have HM := Lib.hid hm
  have HX2 := Lib.hid hx2
  have HX1 := Lib.hid hx1
  clear M hm hx1 hx2
  go_wp2_with fail
  refine FV.mono ?_
  rintro e w2 ⟨rfl, hx3⟩
  have HX3 := Lib.hid (HX2.out.trans hx3)
  have hb2 := HB0.out.ext (HX1.out.trans hx3)
  obtain ⟨g0, g1, g2, g3, g4⟩ := geoFacts hb2
  have p3 : w2.cell? ⟨ap, 3, none⟩ = some (.int .i64 p.fails) := (HP.out.ext HX3.out).cell 3 rfl
  have CN := cnew (B := B) (w := w2.drew) (HM.out.keep hx3.drew (by simp) (by simp) (by simp)) hg (by have := HX3.out.size; simp; omega)
  have l1 := hb2.lt
  have l2 := (HP.out.ext HX3.out).lt
  have HB2 := Lib.hid hb2
  clear FV hx3 hb2
  go_upto_region 4 with fail
  go_cut [6, 7] (fun s6 s7 wx => ∃ ad, s6 = .pointer (some ⟨ad, 0, none⟩) ∧ s7 = .int .i64 0 ∧ DskAt B wx ad ap (Dsk.new g l p) ∧ Ext w2 wx ∧ w.heap.size ≤ ad)
  case first =>
    go_region_with (first
      | (go_at_call 85; refine CN.mono ?_; rintro e w3 ⟨cn, rfl, hc3, hx4, hge⟩; have hx5 := (Ext.refl w2).drew.trans hx4; obtain ⟨q0, q1, q2, q3, q4⟩ := geoFacts (HB2.out.ext hx5); have r3 : w3.cell? ⟨ap, 3, none⟩ = some (.int .i64 p.fails) := (HP.out.ext (HX3.out.trans hx5)).cell 3 rfl; have l3 := Nat.lt_of_lt_of_le l1 hx5.size; have l4 := Nat.lt_of_lt_of_le l2 hx5.size)
      | (go_at_call 86; refine (cloneFaults (H.out.ext (HX3.out.trans hx5)) hl).mono ?_; rintro e w4 ⟨fa, fc, rfl, hf4, hx6⟩; have hx7 := hx5.trans hx6; obtain ⟨q0', q1', q2', q3', q4'⟩ := geoFacts (HB2.out.ext hx7); have r3' : w4.cell? ⟨ap, 3, none⟩ = some (.int .i64 p.fails) := (HP.out.ext (HX3.out.trans hx7)).cell 3 rfl; have l3' := Nat.lt_of_lt_of_le l1 hx7.size; have l4' := Nat.lt_of_lt_of_le l2 hx7.size))
    all_goals (go_wp2_with fail; go_meet)
    all_goals (case rel => exact ⟨w4.heap.size, rfl, rfl, dskMade g l p cn ap _ w4 (hc3.ext hx6) hf4 (HP.out.ext (HX3.out.trans hx7)) hap (by have := HX3.out.size; have := hx7.size; omega), hx7.alloc _, by have := HX3.out.size; have := hx7.size; omega⟩)
  case rest =>
    obtain ⟨ad, rfl, rfl, hd, hx8, hge⟩ := hcut
    go_wp2
    go_ret2
    exact ⟨ad, rfl, hd, HX3.out.trans hx8, hge⟩
end Go.Proofs.YthhcooljjhdjbaaGreat
