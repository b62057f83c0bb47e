/- Contract: the band that takes appends. Contract: the band that takes appends, one band being spared. -/
import Derived.Test.YthhcooljjhdjbaaGreatKW35
import Derived.Test.YthhcooljjhdjbaaGreatKW25
set_option linter.unusedVariables false
set_option linter.unusedSimpArgs false
namespace Go.Proofs.YthhcooljjhdjbaaGreat
open Go.RowKit

def Drv.openList (g : Geo) (v : Drv) (ex : Int) : List Band :=
  if 0 ≤ ex then v.bands.set ex.toNat ⟨g.band, (v.bands.getD ex.toNat .zero).live, (v.bands.getD ex.toNat .zero).age, (v.bands.getD ex.toNat .zero).wear⟩ else v.bands
def openAns (l : List Band) (size : Int) : Int × Int :=
  if 0 ≤ openBand l size then (openBand l size, 0) else if least l < 0 then (0, 11) else (least l, 0)

set_option maxHeartbeats 2000000 in
theorem vopen0 {B B' : Nat} {w : World} {vd ad ap : Nat} {v : Drv} {d : Dsk} (h : DrvAt B w vd ad v) (hd : DskAt B' w ad ap d) (hg : d.geo.Ok) (hok : BandsOk v.bands d.geo.band) (ex : Int) (hex : ex < 0) :
    Calls Tryz.prog 109 #[.pointer (some ⟨vd, 0, none⟩), .int .i64 ex] w fun e w' => e = .returned (.tuple #[.int .i64 (openAns v.bands d.geo.band).1, .int .i64 (openAns v.bands d.geo.band).2]) ∧ Ext w w' := by
  have S := Lib.hid (fun w' (hx : Ext w w') => vsize (h.ext hx) (hd.ext hx) hg)
  obtain ⟨eb, ce, bv, h⟩ := h
  obtain ⟨g, c, cu, hbv, row⟩ := h.bands
  have c3 : w.cell? ⟨vd, 3, none⟩ = some bv := h.blk.cell 3 rfl
  subst hbv
  have C := Lib.hid (bclone (w := w) (c := c) row.cells hok.one hok.most)
  have HOK := Lib.hid hok
  have hexb : decide (0 ≤ ex) = false := by simp; omega
  have HA := Lib.hid (show openAns v.bands d.geo.band = if 0 ≤ openBand v.bands d.geo.band then (openBand v.bands d.geo.band, 0) else if least v.bands < 0 then (0, 11) else (least v.bands, 0) from rfl)
  have HL := Lib.hid (show leastV v.bands = if least v.bands < 0 then #[.int .i64 0, .int .i64 9] else #[.int .i64 (least v.bands), .int .i64 0] from rfl)
  clear h hd row hok
  generalize openAns v.bands d.geo.band = oa at *
  generalize least v.bands = m at *
  go_enter Tryz.func109, Tryz.ntmps109
  go_wp2_with fail
  refine C.out.mono ?_
  rintro e w1 ⟨q, c', cur, rfl, hrow, hge, hx⟩
  have SW := Lib.hid (S.out w1 hx)
  have HR := Lib.hid hrow
  have HX := Lib.hid hx
  clear C hrow hx
  go_wp2_with fail
  refine SW.out.mono ?_
  rintro e w2 ⟨rfl, hx2⟩
  have O := Lib.hid (bopen (w := w2) (v := .slice (some ⟨q, 0, none⟩) v.bands.length c') (BandsIn.ext ⟨q, c', rfl, HR.out.cells⟩ hx2) HOK.out)
  have HX2 := Lib.hid (HX.out.trans hx2)
  have HX12 := Lib.hid hx2
  clear hx2 SW
  go_wp2_with fail
  refine O.out.mono ?_
  rintro e w3 ⟨rfl, hx3⟩
  have W := Lib.hid (wleast (w := w3) (v := .slice (some ⟨q, 0, none⟩) v.bands.length c') (BandsIn.ext ⟨q, c', rfl, HR.out.cells⟩ (HX12.out.trans hx3)) HOK.out.most)
  have HX3 := Lib.hid (HX2.out.trans hx3)
  clear hx3 O
  generalize openBand v.bands d.geo.band = k at *
  by_cases hk : 0 ≤ k
  · have ho : oa = (k, 0) := by rw [HA.out, if_pos hk]
    subst ho
    go_wp2_with fail
    go_ret2
    exact ⟨rfl, HX3.out⟩
  · by_cases hl : m < 0
    · have ho : oa = (0, 11) := by rw [HA.out, if_neg hk, if_pos hl]
      have hv : leastV v.bands = #[.int .i64 0, .int .i64 9] := by rw [HL.out, if_pos hl]
      subst ho
      rw [hv] at W
      clear hl hv
      go_wp2_with fail
      refine W.out.mono ?_
      rintro e w4 ⟨rfl, hx4⟩
      have HX4 := Lib.hid (HX3.out.trans hx4)
      clear hx4 W
      go_wp2_with fail
      go_ret2
      exact ⟨rfl, HX4.out⟩
    · have ho : oa = (m, 0) := by rw [HA.out, if_neg hk, if_neg hl]
      have hv : leastV v.bands = #[.int .i64 m, .int .i64 0] := by rw [HL.out, if_neg hl]
      subst ho
      rw [hv] at W
      clear hl hv
      go_wp2_with fail
      refine W.out.mono ?_
      rintro e w4 ⟨rfl, hx4⟩
      have HX4 := Lib.hid (HX3.out.trans hx4)
      clear hx4 W
      go_wp2_with fail
      go_ret2
      exact ⟨rfl, HX4.out⟩
end Go.Proofs.YthhcooljjhdjbaaGreat
namespace Go.Proofs.YthhcooljjhdjbaaGreat
open Go.RowKit

set_option maxHeartbeats 2000000 in
theorem vopen1 {B B' : Nat} {w : World} {vd ad ap : Nat} {v : Drv} {d : Dsk} (h : DrvAt B w vd ad v) (hd : DskAt B' w ad ap d) (hg : d.geo.Ok) (hok : BandsOk v.bands d.geo.band) (ex : Nat) (hex : ex < v.bands.length) :
    Calls Tryz.prog 109 #[.pointer (some ⟨vd, 0, none⟩), .int .i64 ex] w fun e w' => e = .returned (.tuple #[.int .i64 (openAns (v.openList d.geo ex) d.geo.band).1, .int .i64 (openAns (v.openList d.geo ex) d.geo.band).2]) ∧ Ext w w' := by
  have S := Lib.hid (fun w' (hx : Ext w w') => vsize (h.ext hx) (hd.ext hx) hg)
  obtain ⟨eb, ce, bv, h⟩ := h
  obtain ⟨g, c, cu, hbv, row⟩ := h.bands
  have c3 : w.cell? ⟨vd, 3, none⟩ = some bv := h.blk.cell 3 rfl
  subst hbv
  have C := Lib.hid (bclone (w := w) (c := c) row.cells hok.one hok.most)
  have HOK := Lib.hid hok
  have hexl : (ex : Int) < (v.bands.length : Int) := by omega
  have hlen : (v.openList d.geo ex).length = v.bands.length := by unfold Drv.openList; split <;> simp
  have hset : v.openList d.geo ex = v.bands.set ex ⟨d.geo.band, v.bands[ex].live, v.bands[ex].age, v.bands[ex].wear⟩ := by
    unfold Drv.openList
    rw [if_pos (by omega), Int.toNat_natCast, List.getD_eq_getElem?_getD, List.getElem?_eq_getElem hex]; rfl
  have HOL := Lib.hid (show BandsOk (v.openList d.geo ex) d.geo.band from ⟨by rw [hlen]; exact hok.one, by rw [hlen]; exact hok.most, hok.size1, by
    rw [hset]
    intro x hx
    rcases List.mem_or_eq_of_mem_set hx with h | rfl
    · exact hok.ok x h
    · have := hok.ok _ (List.getElem_mem hex)
      exact ⟨this.1, Int.le_trans this.2.1 this.2.2, Int.le_refl _⟩⟩)
  have HSET := Lib.hid hset
  have HLEN := Lib.hid hlen
  have HBX := Lib.hid (show v.bands[ex]? = some v.bands[ex] from List.getElem?_eq_getElem hex)
  have HEX := Lib.hid hex
  clear hset hlen
  have HA := Lib.hid (show openAns (v.openList d.geo ex) d.geo.band = if 0 ≤ openBand (v.openList d.geo ex) d.geo.band then (openBand (v.openList d.geo ex) d.geo.band, 0) else if least (v.openList d.geo ex) < 0 then (0, 11) else (least (v.openList d.geo ex), 0) from rfl)
  have HL := Lib.hid (show leastV (v.openList d.geo ex) = if least (v.openList d.geo ex) < 0 then #[.int .i64 0, .int .i64 9] else #[.int .i64 (least (v.openList d.geo ex)), .int .i64 0] from rfl)
  clear h hd row hok
  generalize openAns (v.openList d.geo ex) d.geo.band = oa at *
  generalize least (v.openList d.geo ex) = m at *
  go_enter Tryz.func109, Tryz.ntmps109
  go_wp2_with fail
  refine C.out.mono ?_
  rintro e w1 ⟨q, c', cur, rfl, hrow, hge, hx⟩
  have SW := Lib.hid (S.out w1 hx)
  have HR := Lib.hid hrow
  have HX := Lib.hid hx
  clear C hrow hx
  generalize hbx : v.bands[ex] = bx at *
  clear hbx hex
  go_wp2_with fail
  refine SW.out.mono ?_
  rintro e w2 ⟨rfl, hx2⟩
  have hr2 : BandRow w2 q v.bands cur := ⟨HR.out.blk.ext hx2, HR.out.cell⟩
  obtain ⟨d0, d1, d2, d3⟩ := hr2.cells ex _ HBX.out
  have f0 : w2.frozen? ⟨q, ex * 4, none⟩ = false := hr2.blk.free _
  have hsz := hr2.size ex HEX.out
  have k2 : Ext w (w2.setCell ⟨q, ex * 4 + 0, none⟩ (.int .i64 d.geo.band)) := Keep.set_new (HX.out.trans hx2) hge _ _
  have hrow2 : BandRow (w2.setCell ⟨q, ex * 4 + 0, none⟩ (.int .i64 d.geo.band)) q (v.openList d.geo ex) (cur.setIfInBounds (ex * 4 + 0) (.int .i64 d.geo.band)) := by
    rw [HSET.out]
    refine BandRow.store hr2 ex _ HEX.out (hr2.blk.set _ _) ?_ ?_ ?_ ?_ ?_
    · intro i hi j hj; rw [set_ne4 _ _ _ _ _ _ (by decide) hi hj]
    · exact set_eq4 _ _ _ (by omega)
    · rw [set_other _ _ _ _ (by omega)]; exact (hr2.cell ex _ HBX.out).2.1
    · rw [set_other _ _ _ _ (by omega)]; exact (hr2.cell ex _ HBX.out).2.2.1
    · rw [set_other _ _ _ _ (by omega)]; exact (hr2.cell ex _ HBX.out).2.2.2
  have HR2 := Lib.hid hrow2
  have HK2 := Lib.hid k2
  have SW2 := Lib.hid (S.out _ k2)
  clear hr2 hrow2 k2 SW hx2 hsz
  go_wp2_with fail
  refine SW2.out.mono ?_
  rintro e w3 ⟨rfl, hx3⟩
  have O := Lib.hid (bopen (w := w3) (v := .slice (some ⟨q, 0, none⟩) v.bands.length c') (BandsIn.ext ⟨q, c', by rw [HLEN.out], HR2.out.cells⟩ hx3) HOL.out)
  have HX2 := Lib.hid (HK2.out.trans hx3)
  have HX12 := Lib.hid hx3
  clear hx3 SW2 d0 d1 d2 d3 f0
  go_wp2_with fail
  refine O.out.mono ?_
  rintro e w4 ⟨rfl, hx3⟩
  have W := Lib.hid (wleast (w := w4) (v := .slice (some ⟨q, 0, none⟩) v.bands.length c') (BandsIn.ext ⟨q, c', by rw [HLEN.out], HR2.out.cells⟩ (HX12.out.trans hx3)) HOL.out.most)
  have HX3 := Lib.hid (HX2.out.trans hx3)
  clear hx3 O
  generalize openBand (v.openList d.geo ex) d.geo.band = k at *
  by_cases hk : 0 ≤ k
  · have ho : oa = (k, 0) := by rw [HA.out, if_pos hk]
    subst ho
    go_wp2_with fail
    go_ret2
    exact ⟨rfl, HX3.out⟩
  · by_cases hl : m < 0
    · have ho : oa = (0, 11) := by rw [HA.out, if_neg hk, if_pos hl]
      have hv : leastV (v.openList d.geo ex) = #[.int .i64 0, .int .i64 9] := by rw [HL.out, if_pos hl]
      subst ho
      rw [hv] at W
      clear hl hv
      go_wp2_with fail
      refine W.out.mono ?_
      rintro e w5 ⟨rfl, hx4⟩
      have HX4 := Lib.hid (HX3.out.trans hx4)
      clear hx4 W
      go_wp2_with fail
      go_ret2
      exact ⟨rfl, HX4.out⟩
    · have ho : oa = (m, 0) := by rw [HA.out, if_neg hk, if_neg hl]
      have hv : leastV (v.openList d.geo ex) = #[.int .i64 m, .int .i64 0] := by rw [HL.out, if_neg hl]
      subst ho
      rw [hv] at W
      clear hl hv
      go_wp2_with fail
      refine W.out.mono ?_
      rintro e w5 ⟨rfl, hx4⟩
      have HX4 := Lib.hid (HX3.out.trans hx4)
      clear hx4 W
      go_wp2_with fail
      go_ret2
      exact ⟨rfl, HX4.out⟩
end Go.Proofs.YthhcooljjhdjbaaGreat
