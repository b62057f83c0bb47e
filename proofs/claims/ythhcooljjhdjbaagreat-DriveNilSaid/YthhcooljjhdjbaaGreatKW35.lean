/- Contract: the newest entry of a block is unlinked. -/
import Derived.Test.YthhcooljjhdjbaaGreatKW34
set_option linter.unusedVariables false
set_option linter.unusedSimpArgs false
namespace Go.Proofs.YthhcooljjhdjbaaGreat
open Go.RowKit

set_option maxRecDepth 8000 in
set_option maxHeartbeats 4000000 in
theorem vunlink {B B' : Nat} {w : World} {vd ad ap : Nat} {v : Drv} {d : Dsk} (h : DrvAt B w vd ad v) (hd : DskAt B' w ad ap d) (hg : d.geo.Ok) (b : Nat) (hb : b < v.entries.length)
    (h1 : 1 ≤ v.bands.length) (h64 : v.bands.length ≤ 64)
    (ha : ∀ a, (v.entries.getD b .none).address = a → 0 ≤ a → (d.geo.random : Int) ≤ a ∧ a < 4096 ∧ d.geo.bandOf a < v.bands.length ∧ 1 ≤ (v.bands.getD (d.geo.bandOf a) .zero).live ∧ (v.bands.getD (d.geo.bandOf a) .zero).live ≤ 4096) :
    Calls Tryz.prog 78 #[.pointer (some ⟨vd, 0, none⟩), .int .i64 b] w fun e w' => e = .returned (.tuple #[]) ∧ DrvAt B w' vd ad (v.unlink d.geo b) ∧ Keep B [87, 84] w w' := by
  have VB := fun a h1 h2 w' (hx : Ext w w') => vband (h.ext hx) (hd.ext hx) hg a h1 h2
  obtain ⟨eb, ce, bv, h⟩ := h
  have c2 : w.cell? ⟨vd, 2, none⟩ = some (.slice (some ⟨eb, 0, none⟩) v.entries.length ce) := h.blk.cell 2 rfl
  obtain ⟨cur, r⟩ := h.ents
  have hbe : v.entries[b]? = some (v.entries.getD b .none) := by rw [List.getD_eq_getElem?_getD, List.getElem?_eq_getElem hb]; rfl
  obtain ⟨e0, e1, e2⟩ := r.cells b _ hbe
  have HBE := Lib.hid hbe
  have hbl : (b : Int) < (v.entries.length : Int) := by omega
  have H := Lib.hid h
  have HVB := Lib.hid VB
  have HA := Lib.hid ha
  have HU := Lib.hid (show v.unlink d.geo b = { v with bands := v.bandsWithout d.geo b, entries := v.entries.set b .none } from rfl)
  have HW := Lib.hid (show v.bandsWithout d.geo b = if 0 ≤ (v.entries.getD b .none).address then v.bands.set (d.geo.bandOf (v.entries.getD b .none).address) (v.bands.getD (d.geo.bandOf (v.entries.getD b .none).address) .zero).unl else v.bands from rfl)
  clear h VB ha hd hg r hbe
  generalize v.unlink d.geo b = vu at *
  generalize v.bandsWithout d.geo b = bw at *
  generalize hn : v.entries.getD b .none = n at *
  clear hn
  by_cases hz : 0 ≤ n.address
  · obtain ⟨q1, q2, q3, q4, q5⟩ := HA.out _ rfl hz
    have hzb : decide (0 ≤ n.address) = true := by simpa using hz
    have hw : bw = v.bands.set (d.geo.bandOf n.address) (v.bands.getD (d.geo.bandOf n.address) .zero).unl := by rw [HW.out, if_pos hz]
    have V1 := Lib.hid (HVB.out _ q1 q2 w.drew (Ext.refl w).drew)
    obtain ⟨cur, r⟩ := H.out.ents
    obtain ⟨g, c, cu, hbv, row⟩ := H.out.bands
    have c3 : w.cell? ⟨vd, 3, none⟩ = some bv := H.out.blk.cell 3 rfl
    have f3 : w.frozen? ⟨vd, 3, none⟩ = false := H.out.blk.free 3
    have vl := H.out.blk.lt
    subst hbv
    have e : v.bands.getD (d.geo.bandOf n.address) .zero = v.bands[d.geo.bandOf n.address] := by rw [List.getD_eq_getElem?_getD, List.getElem?_eq_getElem q3]; rfl
    have UN := fun w' (hx : Ext w w') => bunlink (w := w') (v := .slice (some ⟨g, 0, none⟩) v.bands.length c) ((BandsAt.into ⟨g, c, cu, rfl, row⟩).ext hx) h1 h64 (d.geo.bandOf n.address) q3 (by rw [← e]; exact ⟨q4, q5⟩)
    rw [e] at hw
    have hw : bw = v.bands.set (d.geo.bandOf n.address) ⟨v.bands[d.geo.bandOf n.address].used, v.bands[d.geo.bandOf n.address].live - 1, v.bands[d.geo.bandOf n.address].age, v.bands[d.geo.bandOf n.address].wear⟩ := hw
    rw [← hw] at UN
    have HUN := Lib.hid UN
    have hlb : bw.length = v.bands.length := by rw [hw]; simp
    clear UN r row e q4 q5 q1 q2 hw
    generalize d.geo.bandOf n.address = k at *
    go_enter Tryz.func78, Tryz.ntmps78
    go_upto_region 2 with fail
    go_cut [] (fun wx => ∃ bv', DrvIn B wx vd ad { v with bands := bw } eb ce bv' ∧ Keep B [87] w wx)
    case first =>
      go_region_with (first
        | (go_at_call 75; refine V1.out.mono ?_; rintro e w2 ⟨rfl, hx⟩; have hx2 := (Ext.refl w).drew.trans hx; have c3' : w2.cell? ⟨vd, 3, none⟩ = some (.slice (some ⟨g, 0, none⟩) v.bands.length c) := Keep.cell hx2 c3; have HX2 := Lib.hid hx2; clear hx hx2)
        | (go_at_call 108; refine (HUN.out _ HX2.out).mono ?_; rintro e w3 ⟨g', c', rfl, hb', hx3⟩; have hx4 := HX2.out.trans hx3; have H4 := H.out.keep hx4 (by simp) (by simp) (by simp); have f3' : w3.frozen? ⟨vd, 3, none⟩ = false := H4.blk.free 3; have c3'' : w3.cell? ⟨vd, 3, none⟩ = some (.slice (some ⟨g, 0, none⟩) v.bands.length c) := H4.blk.cell 3 rfl; have vl' := H4.blk.lt; have HX4 := Lib.hid hx4; have HB4 := Lib.hid hb'; have HH4 := Lib.hid H4; clear hx3 hx4 hb' H4))
      all_goals (go_wp2_with fail; go_meet)
      all_goals (case rel =>
        obtain ⟨s1, s2⟩ := HH4.out.setBands _ bw HB4.out
        rw [hlb] at s1 s2
        exact ⟨_, s1, (HX4.out.keep B [87]).trans s2⟩)
    case rest =>
      obtain ⟨bv', hd2, hk2⟩ := hcut
      clear c2 e0 e1 e2 c3 f3 vl
      have c2 : wc.cell? ⟨vd, 2, none⟩ = some (.slice (some ⟨eb, 0, none⟩) v.entries.length ce) := hd2.blk.cell 2 rfl
      obtain ⟨cur, r⟩ := hd2.ents
      obtain ⟨e0, e1, e2⟩ := r.cells b _ HBE.out
      have f0 : wc.frozen? ⟨eb, b * 3, none⟩ = false := r.blk.free _
      have f1 : wc.frozen? ⟨eb, b * 3 + 1, none⟩ = false := r.blk.free _
      have f2 : wc.frozen? ⟨eb, b * 3 + 2, none⟩ = false := r.blk.free _
      have HD := Lib.hid hd2
      have HK := Lib.hid hk2
      clear r hd2 hk2
      go_wp2
      go_end0
      rw [HU.out]
      obtain ⟨s1, s2⟩ := HD.out.setEntry b .none hb
      exact ⟨rfl, ⟨eb, ce, _, s1⟩, (HK.out.mono (Nat.le_refl _) (by simp)).trans (s2.mono (Nat.le_refl _) (by simp))⟩
  · have hw : bw = v.bands := by rw [HW.out, if_neg hz]
    have hzb : decide (0 ≤ n.address) = false := by simp; omega
    subst hw
    obtain ⟨cur, r⟩ := H.out.ents
    have f0 : w.frozen? ⟨eb, b * 3, none⟩ = false := r.blk.free _
    have f1 : w.frozen? ⟨eb, b * 3 + 1, none⟩ = false := r.blk.free _
    have f2 : w.frozen? ⟨eb, b * 3 + 2, none⟩ = false := r.blk.free _
    clear r
    go_enter Tryz.func78, Tryz.ntmps78
    go_wp2
    go_end0
    rw [HU.out]
    obtain ⟨s1, s2⟩ := H.out.setEntry b .none hb
    exact ⟨rfl, ⟨eb, ce, _, s1⟩, s2.mono (Nat.le_refl _) (by simp)⟩
end Go.Proofs.YthhcooljjhdjbaaGreat
