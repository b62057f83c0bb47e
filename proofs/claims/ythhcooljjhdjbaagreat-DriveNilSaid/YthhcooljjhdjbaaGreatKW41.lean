/- Contract: a new drive: all bands are erased, the disk is flushed. -/
import Derived.Test.YthhcooljjhdjbaaGreatKW40
import Derived.Test.YthhcooljjhdjbaaGreatKW39
set_option linter.unusedVariables false
set_option linter.unusedSimpArgs false
namespace Go.Proofs.YthhcooljjhdjbaaGreat
open Go.RowKit

def eraseFrom (key : Int) : Nat → Nat → Dsk → Dsk × Int
  | 0, _, d => (d, 0)
  | n + 1, k, d => if (d.eraseAll key k).2 = 0 then eraseFrom key n (k + 1) (d.eraseAll key k).1 else d.eraseAll key k
def newFin (key : Int) (n : Nat) (r : Dsk × Int) : Dsk × Option Drv × Int :=
  if r.2 = 0 then
    if (r.1.flushAll key).2 = 0 then ((r.1.flushAll key).1, some (Drv.new key n r.1.geo.bands), 0) else ((r.1.flushAll key).1, none, (r.1.flushAll key).2)
  else (r.1, none, r.2)
def newRun (d : Dsk) (key : Int) (n : Nat) : Dsk × Option Drv × Int := newFin key n (eraseFrom key d.geo.bands 0 d)
def DrvOpt (B : Nat) (w : World) (ad : Nat) (v : Value) : Option Drv → Prop
  | none => v = .pointer none
  | some x => ∃ vd, v = .pointer (some ⟨vd, 0, none⟩) ∧ DrvAt B w vd ad x
def NewPost (B : Nat) (w : World) (ad ap : Nat) (r : Dsk × Option Drv × Int) (e : Ending) (w' : World) : Prop :=
  ∃ pv, e = .returned (.tuple #[pv, .int .i64 r.2.2]) ∧ DskAt B w' ad ap r.1 ∧ DrvOpt w.heap.size w' ad pv r.2.1 ∧ Keep B DT w w'
theorem DrvIn.base {B B' : Nat} {w : World} {vd ad : Nat} {v : Drv} {eb ce : Nat} {bv : Value} (h : DrvIn B w vd ad v eb ce bv) (hb : B' ≤ B) : DrvIn B' w vd ad v eb ce bv :=
  ⟨h.blk, Nat.le_trans hb h.ge, h.ents, Nat.le_trans hb h.gee, h.bands⟩
theorem DrvAt.base {B B' : Nat} {w : World} {vd ad : Nat} {v : Drv} (h : DrvAt B w vd ad v) (hb : B' ≤ B) : DrvAt B' w vd ad v :=
  let ⟨eb, ce, bv, h⟩ := h
  ⟨eb, ce, bv, h.base hb⟩

set_option maxHeartbeats 4000000 in
theorem vnew {B : Nat} {w : World} {ad ap m : Nat} {d : Dsk} (h : DskAt B w ad ap d) (hi : DInv m d) (hm : m + 100 ≤ 60000) (hB : B ≤ w.heap.size) (key : Int) (n : Nat) (h1 : 1 ≤ n) (hr : n + 3 * d.geo.band ≤ d.geo.bands * d.geo.band) :
    Calls Tryz.prog 34 #[.pointer (some ⟨ad, 0, none⟩), .int .u64 key, .int .i64 n] w (NewPost B w ad ap (newRun d key n)) := by
  obtain ⟨W0, hW0⟩ : ∃ W0, W0 = (w.alloc (.cells #[.pointer (some ⟨ad, 0, none⟩)] 54)).alloc (.cells #[.int .u64 key] 23) := ⟨_, rfl⟩
  have hx0 : Ext w W0 := by rw [hW0]; exact ((Ext.refl _).alloc _).alloc _
  have hb1 : Blk W0 w.heap.size 54 #[.pointer (some ⟨ad, 0, none⟩)] := by rw [hW0]; exact (Blk.new _ _ _).alloc _
  have hb2 : Blk W0 (w.heap.size + 1) 23 #[.int .u64 key] := by
    have := Blk.new (w.alloc (.cells #[.pointer (some ⟨ad, 0, none⟩)] 54)) #[.int .u64 key] 23
    rw [World.size_alloc, ← hW0] at this; exact this
  have C := vcreate (h.ext hx0) hi.geo key n h1 hr
  rw [hW0] at C
  have C := Lib.hid C
  have HD0 := Lib.hid (h.ext hx0)
  have HI0 := Lib.hid hi
  have HB1 := Lib.hid hb1
  have HB2 := Lib.hid hb2
  have HX0 := Lib.hid hx0
  have hbs := hi.geo.bands
  have hbs2 : (d.geo.bands : Int) ≤ 64 := by omega
  have HR := Lib.hid (show newRun d key n = newFin key n (eraseFrom key d.geo.bands 0 d) from rfl)
  have HW0 := Lib.hid hW0
  clear hb1 hb2 hx0 hW0 hr h1
  clear h hi
  generalize newRun d key n = res at *
  go_enter Tryz.func34, Tryz.ntmps34
  go_wp2_with fail
  refine C.out.mono ?_
  rintro e w1 ⟨vd, rfl, hv, hx1⟩
  have e0 := HW0.out
  rw [← e0] at hv hx1
  clear e0
  have HV := Lib.hid (hv.base (B' := w.heap.size) HX0.out.size)
  obtain ⟨eb, ce, bv, hv⟩ := hv
  obtain ⟨g, c, cu, hbv, row⟩ := hv.bands
  have c3 : w1.cell? ⟨vd, 3, none⟩ = some bv := hv.blk.cell 3 rfl
  subst hbv
  rw [show (Drv.new key n d.geo.bands).bands.length = d.geo.bands from List.length_replicate ..] at c3
  have HX1 := Lib.hid hx1
  clear hx1 hv row C
  go_wp2_with fail
  go_loopw [28] (fun i wr => ∃ (k : Nat) (d' : Dsk), k ≤ d.geo.bands ∧ i = .int .i64 k ∧ DskAt B wr ad ap d' ∧ DInv (m + k) d' ∧ d'.geo = d.geo ∧ Keep B DT w1 wr ∧ eraseFrom key d.geo.bands 0 d = eraseFrom key (d.geo.bands - k) k d') (fun i _ => d.geo.bands - (intOf i).toNat)
  case atStart => exact ⟨0, d, Nat.zero_le _, rfl, HD0.out.ext HX1.out, HI0.out, rfl, Keep.refl _ _ _, rfl⟩
  case round =>
    obtain ⟨k, d', hk, rfl, hd, hi, hgeo, hkp, hrun⟩ := hrel
    have hbd := (HB1.out.ext HX1.out).keep hkp (by simp)
    have hbk := (HB2.out.ext HX1.out).keep hkp (by simp)
    have b0 : wr.cell? ⟨w.heap.size, 0, none⟩ = some (.pointer (some ⟨ad, 0, none⟩)) := hbd.cell 0 rfl
    have b1 : wr.cell? ⟨w.heap.size + 1, 0, none⟩ = some (.int .u64 key) := hbk.cell 0 rfl
    have hge : B ≤ wr.heap.size := Nat.le_trans hB (Nat.le_trans HX0.out.size (Nat.le_trans HX1.out.size hkp.size))
    by_cases hlt : k < d.geo.bands
    · have hsucc : d.geo.bands - k = (d.geo.bands - (k + 1)) + 1 := by omega
      rw [hsucc] at hrun
      have hxa : Ext wr (wr.alloc (.cells #[.int .i64 (k : Int)] 3)) := (Ext.refl _).alloc _
      have E := newEraseAll (B := B) (w0 := wr) (m := m + k) (key := key) (k := k) (by omega) d' (wr.alloc (.cells #[.int .i64 (k : Int)] 3)) ⟨hd.ext hxa, hi, by rw [hgeo]; exact hlt, hbd.ext hxa, hbk.ext hxa, Blk.new _ _ _, hxa.keep _ _, Nat.le_trans hge hxa.size⟩
      have E := Lib.hid E
      have hlt2 : (k : Int) < (d.geo.bands : Int) := by omega
      have HRUN := Lib.hid (show eraseFrom key d.geo.bands 0 d = if (d'.eraseAll key k).2 = 0 then eraseFrom key (d.geo.bands - (k + 1)) (k + 1) (d'.eraseAll key k).1 else d'.eraseAll key k from hrun)
      have HI := Lib.hid (hi.eraseAll key k (by rw [hgeo]; exact hlt))
      have HG := Lib.hid (show (d'.eraseAll key k).1.geo = d.geo by
        rcases d'.eraseAll_cases key k (by rw [hgeo]; exact hlt) with ⟨_, s⟩ | ⟨_, s⟩
        · exact s.geo.trans hgeo
        · exact s.geo.trans hgeo)
      have HK := Lib.hid hkp
      clear hd hi hgeo hkp hrun hbd hbk hsucc hxa
      generalize d'.eraseAll key k = r at *
      go_wp2_with fail
      refine E.out.mono ?_
      rintro e w2 ⟨rfl, p⟩
      have HD2 := Lib.hid p.dsk
      have HK2 := Lib.hid p.keep
      clear p E
      by_cases hz : r.2 = 0
      · have hzb : (r.2 != 0) = false := by simp [hz]
        have hr := HRUN.out
        rw [if_pos hz] at hr
        have HR2 := Lib.hid hr
        clear hr hz
        go_wp2_with fail
        go_roundw
        case rel => exact ⟨k + 1, r.1, by omega, by go_num, HD2.out, HI.out, HG.out, HK.out.trans HK2.out, HR2.out⟩
        case measure => simp [intOf]; omega
      · have hzb : (r.2 != 0) = true := by simpa [bne] using hz
        have hr := HRUN.out
        rw [if_neg hz] at hr
        have hres : res = (r.1, none, r.2) := by rw [HR.out, hr]; unfold newFin; rw [if_neg hz]
        clear hr hz
        subst hres
        go_wp2_with fail
        go_ret2
        exact ⟨.pointer none, rfl, HD2.out, rfl, (HX0.out.trans HX1.out).keep B DT |>.trans (HK.out.trans HK2.out)⟩
    · have hkb : k = d.geo.bands := by omega
      subst hkb
      rw [Nat.sub_self] at hrun
      have hfin : res = newFin key n (d', 0) := by rw [HR.out, hrun]; rfl
      have F := Lib.hid (newFlushAll (w0 := wr) d' wr ⟨hd, hi.ok (by omega), hbd, hbk, Keep.refl _ _ _, hge⟩)
      have HF : Hid (res = if (d'.flushAll key).2 = 0 then ((d'.flushAll key).1, some (Drv.new key n d.geo.bands), 0) else ((d'.flushAll key).1, none, (d'.flushAll key).2)) := Lib.hid (by rw [hfin]; unfold newFin; rw [if_pos rfl]; dsimp only; rw [hgeo])
      have HK := Lib.hid hkp
      have HV2 := Lib.hid (HV.out.keep hkp (by simp) (by simp) (by simp))
      clear hd hi hgeo hkp hrun hbd hbk hfin HI0
      generalize d'.flushAll key = r at *
      go_wp2_with fail
      refine F.out.mono ?_
      rintro e w2 ⟨rfl, p⟩
      have HD2 := Lib.hid p.dsk
      have HK2 := Lib.hid p.keep
      clear p F
      by_cases hz : r.2 = 0
      · have hzb : (r.2 != 0) = false := by simp [hz]
        have hr := HF.out
        rw [if_pos hz] at hr
        subst hr
        clear hz
        go_wp2_with fail
        go_ret2
        exact ⟨_, rfl, HD2.out, ⟨vd, rfl, HV2.out.keep HK2.out (by simp) (by simp) (by simp)⟩, (HX0.out.trans HX1.out).keep B DT |>.trans (HK.out.trans HK2.out)⟩
      · have hzb : (r.2 != 0) = true := by simpa [bne] using hz
        have hr := HF.out
        rw [if_neg hz] at hr
        subst hr
        clear hz
        go_wp2_with fail
        go_ret2
        exact ⟨.pointer none, rfl, HD2.out, rfl, (HX0.out.trans HX1.out).keep B DT |>.trans (HK.out.trans HK2.out)⟩
end Go.Proofs.YthhcooljjhdjbaaGreat
