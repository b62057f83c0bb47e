/- Contracts: a band has one live entry less; a band is reset. -/
import Derived.Test.YthhcooljjhdjbaaGreatKW26
set_option linter.unusedVariables false
set_option linter.unusedSimpArgs false
namespace Go.Proofs.YthhcooljjhdjbaaGreat
open Go.RowKit

set_option maxHeartbeats 2000000 in
theorem bunlink {w : World} {v : Value} {l : List Band} (h : BandsIn w v l) (h1 : 1 ≤ l.length) (hl : l.length ≤ 64) (k : Nat) (hk : k < l.length) (hv : 1 ≤ l[k].live ∧ l[k].live ≤ 4096) :
    Calls Tryz.prog 108 #[v, .int .i64 k] w (ChangePost w (l.set k ⟨l[k].used, l[k].live - 1, l[k].age, l[k].wear⟩)) := by
  obtain ⟨q, c, rfl, h⟩ := h
  have C := Lib.hid (bclone (c := c) h h1 hl)
  have hkl : (k : Int) < (l.length : Int) := by omega
  clear h
  have HL := Lib.hid (show l[k]? = some l[k] from List.getElem?_eq_getElem hk)
  generalize hb : l[k] = b at *
  clear hb
  obtain ⟨hv1, hv2⟩ := hv
  have hvb : decide (b.live < 1) = false := by simp; omega
  go_enter Tryz.func108, Tryz.ntmps108
  go_wp2_with (go_at_call 114; go_in)
  refine C.out.mono ?_
  rintro e w1 ⟨g, c', cur, rfl, hrow, hg, hx⟩
  obtain ⟨d0, d1, d2, d3⟩ := hrow.cells k _ HL.out
  have f1 : w1.frozen? ⟨g, k * 4 + 1, none⟩ = false := hrow.blk.free _
  have HR := Lib.hid hrow
  have HX := Lib.hid hx
  have gl := hrow.blk.lt
  clear hrow hx C
  go_wp2_with go_in
  go_ret2
  have hsz := HR.out.size k hk
  refine changePost (cur := cur.setIfInBounds (k * 4 + 1) (.int .i64 (b.live - 1))) (BandRow.store HR.out k _ hk (HR.out.blk.set (k * 4 + 1) _) ?_ ?_ ?_ ?_ ?_) (Keep.set_new HX.out hg _ _) (by simp)
  · intro i hi j hj
    rw [set_ne4 _ _ _ _ _ _ (by decide) hi hj]
  · rw [set_other _ _ _ _ (by omega)]; exact (HR.out.cell k _ HL.out).1
  · exact set_eq4 _ _ _ (by omega)
  · rw [set_other _ _ _ _ (by omega)]; exact (HR.out.cell k _ HL.out).2.2.1
  · rw [set_other _ _ _ _ (by omega)]; exact (HR.out.cell k _ HL.out).2.2.2

set_option maxHeartbeats 2000000 in
theorem breset {w : World} {v : Value} {l : List Band} (h : BandsIn w v l) (h1 : 1 ≤ l.length) (hl : l.length ≤ 64) (k : Nat) (hk : k < l.length) :
    Calls Tryz.prog 82 #[v, .int .i64 k] w (ChangePost w (l.set k ⟨0, 0, 0, IntKind.u64.wrap (l[k].wear + 1)⟩)) := by
  obtain ⟨q, c, rfl, h⟩ := h
  have C := Lib.hid (bclone (c := c) h h1 hl)
  have hkl : (k : Int) < (l.length : Int) := by omega
  clear h
  have HL := Lib.hid (show l[k]? = some l[k] from List.getElem?_eq_getElem hk)
  generalize hb : l[k] = b at *
  clear hb
  go_enter Tryz.func82, Tryz.ntmps82
  go_wp2_with (go_at_call 114; go_in)
  refine C.out.mono ?_
  rintro e w1 ⟨g, c', cur, rfl, hrow, hg, hx⟩
  obtain ⟨d0, d1, d2, d3⟩ := hrow.cells k _ HL.out
  have f0 : w1.frozen? ⟨g, k * 4, none⟩ = false := hrow.blk.free _
  have f1 : w1.frozen? ⟨g, k * 4 + 1, none⟩ = false := hrow.blk.free _
  have f2 : w1.frozen? ⟨g, k * 4 + 2, none⟩ = false := hrow.blk.free _
  have f3 : w1.frozen? ⟨g, k * 4 + 3, none⟩ = false := hrow.blk.free _
  have HR := Lib.hid hrow
  have HX := Lib.hid hx
  have gl := hrow.blk.lt
  clear hrow hx C
  go_wp2_with go_in
  go_ret2
  have hsz := HR.out.size k hk
  refine changePost (cur := (((cur.setIfInBounds (k * 4 + 0) (.int .i64 0)).setIfInBounds (k * 4 + 1) (.int .i64 0)).setIfInBounds (k * 4 + 2) (.int .u64 0)).setIfInBounds (k * 4 + 3) (.int .u64 (IntKind.u64.wrap (b.wear + 1)))) (BandRow.store HR.out k _ hk (((((HR.out.blk).set (k * 4 + 0) _).set (k * 4 + 1) _).set (k * 4 + 2) _).set (k * 4 + 3) _) ?_ ?_ ?_ ?_ ?_) (Keep.set_new (Keep.set_new (Keep.set_new (Keep.set_new HX.out hg _ _) hg _ _) hg _ _) hg _ _) (by simp)
  · intro i hi j hj
    rw [set_ne4 _ _ _ _ _ _ (by decide) hi hj, set_ne4 _ _ _ _ _ _ (by decide) hi hj, set_ne4 _ _ _ _ _ _ (by decide) hi hj, set_ne4 _ _ _ _ _ _ (by decide) hi hj]
  · rw [set_other _ _ _ _ (by omega), set_other _ _ _ _ (by omega), set_other _ _ _ _ (by omega)]; exact set_eq4 _ _ _ (by omega)
  · rw [set_other _ _ _ _ (by omega), set_other _ _ _ _ (by omega)]; exact set_eq4 _ _ _ (by simp; omega)
  · rw [set_other _ _ _ _ (by omega)]; exact set_eq4 _ _ _ (by simp; omega)
  · exact set_eq4 _ _ _ (by simp; omega)
end Go.Proofs.YthhcooljjhdjbaaGreat
