/- Contract: the band of an address. Contract: the newest entry of a block is unlinked. -/
import Derived.Test.YthhcooljjhdjbaaGreatKW29
set_option linter.unusedVariables false
set_option linter.unusedSimpArgs false
namespace Go.Proofs.YthhcooljjhdjbaaGreat
open Go.RowKit

theorem run_field {P : Program} {t ft : TypeId} {k off : Nat} {xs : Array Value} {v : Value} {w : World} {n : IntKind} (hu : P.underlying t = some (.struct (P.fieldsOf t))) (hf : ((P.fieldsOf t)[k]?).map (fun f => (f.type, f.offset)) = some (ft, off))
    (ht : P.underlying ft = some (.int n)) (hv : xs[off]? = some v) : (Instr.field t (.agg xs) k).run P w = .ok v w := by
  cases hk : (P.fieldsOf t)[k]? with
  | none => rw [hk] at hf; cases hf
  | some f =>
    rw [hk] at hf
    obtain ⟨h1, h2⟩ := Prod.mk.inj (Option.some.inj hf)
    simp [Instr.field, run_underlying hu, hk, asAgg, part, isAgg, h1, h2, run_underlying ht, hv]
@[go_sem] theorem field42_0 (a b c d e : Int) (w : World) : (Instr.field 42 (.agg #[.int .i64 a, .int .i64 b, .int .i64 c, .int .i64 d, .int .i64 e]) 0).run Tryz.prog w = .ok (.int .i64 a) w :=
  run_field (by kernel_rfl) (ft := 3) (off := 0) (by kernel_rfl) Tryz.underlying3 rfl
def Geo.bandOf (g : Geo) (a : Int) : Nat := ((a - g.random) / g.band).toNat
set_option maxRecDepth 8000 in
set_option maxHeartbeats 1000000 in
theorem vband {B B' : Nat} {w : World} {vd ad ap : Nat} {v : Drv} {d : Dsk} (h : DrvAt B w vd ad v) (hd : DskAt B' w ad ap d) (hg : d.geo.Ok) (a : Int) (ha : (d.geo.random : Int) ≤ a) (ha2 : a < 4096) :
    Calls Tryz.prog 75 #[.pointer (some ⟨vd, 0, none⟩), .int .i64 a] w fun e w' => e = .returned (.int .i64 (d.geo.bandOf a)) ∧ Ext w w' := by
  have S := fun w' (hx : Ext w w') => vsize (h.ext hx) (hd.ext hx) hg
  obtain ⟨eb, ce, bv, h⟩ := h
  have c0 : w.cell? ⟨vd, 0, none⟩ = some (.pointer (some ⟨ad, 0, none⟩)) := h.blk.cell 0 rfl
  have D := Lib.hid (dgeo hd)
  have HS := Lib.hid S
  have hb1 := hg.band1
  have hb2 := hg.band_le
  have hbn : (1 : Int) ≤ (d.geo.band : Int) := by omega
  have hbz : ¬ ((d.geo.band : Int) = 0) := by omega
  have hq : (a - (d.geo.random : Int)).tdiv (d.geo.band : Int) = (d.geo.bandOf a : Int) := by
    unfold Geo.bandOf
    rw [Int.tdiv_eq_ediv_of_nonneg (by omega), Int.toNat_of_nonneg (Int.ediv_nonneg (by omega) (by omega))]
  have hq2 : (a - (d.geo.random : Int)) / (d.geo.band : Int) = (d.geo.bandOf a : Int) := by
    rw [← Int.tdiv_eq_ediv_of_nonneg (by omega)]; exact hq
  have hk4 : (d.geo.bandOf a : Int) ≤ 4096 := by
    have h1 : (a - (d.geo.random : Int)) / (d.geo.band : Int) ≤ a - (d.geo.random : Int) := Int.ediv_le_self _ (by omega)
    omega
  have hr := hg.random
  have hr0 : (d.geo.random : Int) ≤ 120 := by omega
  clear h hd S hg hq2
  unfold geoV at D
  clear hb1 hb2 hr
  generalize d.geo.bandOf a = k at *
  generalize d.geo.band = bs at *
  have HQ := Lib.hid hq
  have HBN := Lib.hid hbn
  have HBZ := Lib.hid hbz
  clear hq hbn hbz
  go_enter Tryz.func75, Tryz.ntmps75
  go_wp2_with fail
  refine D.out.mono ?_
  rintro e w1 ⟨rfl, hx⟩
  have SW := Lib.hid (HS.out w1 hx)
  have HX := Lib.hid hx
  clear hx D HS
  go_wp2_with fail
  refine SW.out.mono ?_
  rintro e w2 ⟨rfl, hx2⟩
  have HX2 := Lib.hid (HX.out.trans hx2)
  have hq := HQ.out
  have hbn := HBN.out
  have hbz := HBZ.out
  clear hx2 SW
  have hda : (0 : Int) ≤ (d.geo.random : Int) := by omega
  go_wp2
  go_ret
  exact ⟨by simp [wrap64], HX2.out⟩
end Go.Proofs.YthhcooljjhdjbaaGreat
namespace Go.Proofs.YthhcooljjhdjbaaGreat
open Go.RowKit

def Band.unl (b : Band) : Band := ⟨b.used, b.live - 1, b.age, b.wear⟩
def Drv.bandsWithout (g : Geo) (v : Drv) (b : Nat) : List Band :=
  if 0 ≤ (v.entries.getD b .none).address then v.bands.set (g.bandOf (v.entries.getD b .none).address) (v.bands.getD (g.bandOf (v.entries.getD b .none).address) .zero).unl else v.bands
def Drv.unlink (g : Geo) (v : Drv) (b : Nat) : Drv := { v with bands := v.bandsWithout g b, entries := v.entries.set b .none }
theorem NwRow.store {w w' : World} {g : Nat} {l : List Nw} {cur : Array Value} (h : NwRow w g l cur) (k : Nat) (n : Nw) (hk : k < l.length)
    (hw : Blk w' g 84 (((cur.setIfInBounds (k * 3 + 0) (.int .i64 n.kind)).setIfInBounds (k * 3 + 1) (.int .u64 n.version)).setIfInBounds (k * 3 + 2) (.int .i64 n.address))) :
    NwRow w' g (l.set k n) (((cur.setIfInBounds (k * 3 + 0) (.int .i64 n.kind)).setIfInBounds (k * 3 + 1) (.int .u64 n.version)).setIfInBounds (k * 3 + 2) (.int .i64 n.address)) := by
  have hsz : k * 3 + 2 < cur.size := (Array.getElem?_eq_some_iff.1 (h.cell k l[k] (List.getElem?_eq_getElem hk)).2.2).1
  refine ⟨hw, fun i x hx => ?_⟩
  rw [List.getElem?_set] at hx
  by_cases e : k = i
  · subst e
    rw [if_pos rfl, if_pos hk] at hx
    cases hx
    refine ⟨?_, ?_, ?_⟩
    · rw [set_other _ _ _ _ (by omega), set_other _ _ _ _ (by omega)]; exact set_eq4 _ _ _ (by omega)
    · rw [set_other _ _ _ _ (by omega)]; exact set_eq4 _ _ _ (by simp; omega)
    · exact set_eq4 _ _ _ (by simp; omega)
  · rw [if_neg e] at hx
    obtain ⟨c0, c1, c2⟩ := h.cell i x hx
    refine ⟨?_, ?_, ?_⟩
    · rw [set_other _ _ _ _ (by omega), set_other _ _ _ _ (by omega), set_other _ _ _ _ (by omega)]; exact c0
    · rw [set_other _ _ _ _ (by omega), set_other _ _ _ _ (by omega), set_other _ _ _ _ (by omega)]; exact c1
    · rw [set_other _ _ _ _ (by omega), set_other _ _ _ _ (by omega), set_other _ _ _ _ (by omega)]; exact c2
/-- The bands' slice of a drive is set. -/
theorem DrvIn.setBands {B : Nat} {w : World} {vd ad : Nat} {v : Drv} {eb ce : Nat} {bv : Value} (h : DrvIn B w vd ad v eb ce bv) (bv' : Value) (l : List Band) (hb : BandsAt w bv' l) :
    DrvIn B (w.setCell ⟨vd, 3, none⟩ bv') vd ad { v with bands := l } eb ce bv' ∧ Keep B [87] w (w.setCell ⟨vd, 3, none⟩ bv') := by
  have k : Keep B [87] w (w.setCell ⟨vd, 3, none⟩ bv') := (Keep.refl _ _ _).set h.blk h.ge (by simp) _ _
  obtain ⟨cur, r⟩ := h.ents
  exact ⟨⟨h.blk.set 3 _, h.ge, ⟨cur, r.keep k (by simp)⟩, h.gee, hb.keep k (by simp)⟩, k⟩
/-- One of a drive's entries is set. -/
theorem DrvIn.setEntry {B : Nat} {w : World} {vd ad : Nat} {v : Drv} {eb ce : Nat} {bv : Value} (h : DrvIn B w vd ad v eb ce bv) (b : Nat) (n : Nw) (hb : b < v.entries.length) :
    DrvIn B (((w.setCell ⟨eb, b * 3 + 0, none⟩ (.int .i64 n.kind)).setCell ⟨eb, b * 3 + 1, none⟩ (.int .u64 n.version)).setCell ⟨eb, b * 3 + 2, none⟩ (.int .i64 n.address)) vd ad { v with entries := v.entries.set b n } eb ce bv ∧
    Keep B [84] w (((w.setCell ⟨eb, b * 3 + 0, none⟩ (.int .i64 n.kind)).setCell ⟨eb, b * 3 + 1, none⟩ (.int .u64 n.version)).setCell ⟨eb, b * 3 + 2, none⟩ (.int .i64 n.address)) := by
  obtain ⟨cur, r⟩ := h.ents
  have b1 := r.blk.set (b * 3 + 0) (.int .i64 n.kind)
  have b2 := b1.set (b * 3 + 1) (.int .u64 n.version)
  have b3 := b2.set (b * 3 + 2) (.int .i64 n.address)
  have k : Keep B [84] w (((w.setCell ⟨eb, b * 3 + 0, none⟩ (.int .i64 n.kind)).setCell ⟨eb, b * 3 + 1, none⟩ (.int .u64 n.version)).setCell ⟨eb, b * 3 + 2, none⟩ (.int .i64 n.address)) :=
    (((Keep.refl B [84] w).set r.blk h.gee (by simp) _ _).trans ((Keep.refl B [84] _).set b1 h.gee (by simp) _ _)).trans ((Keep.refl B [84] _).set b2 h.gee (by simp) _ _)
  refine ⟨⟨?_, h.ge, ⟨_, r.store b n hb b3⟩, h.gee, h.bands.keep k (by simp)⟩, k⟩
  have := h.blk.keep k (by simp)
  unfold drvCells at this ⊢
  simpa using this
end Go.Proofs.YthhcooljjhdjbaaGreat
