/- A drive in memory. Contracts: its state, its failing, the size of a band, the band of an address, whether it has a block. -/
import Derived.Test.YthhcooljjhdjbaaGreatKW28
import Derived.Test.YthhcooljjhdjbaaGreatKW15
import Derived.Test.YthhcooljjhdjbaaGreatKW27
set_option linter.unusedVariables false
set_option linter.unusedSimpArgs false
namespace Go.Proofs.YthhcooljjhdjbaaGreat
open Go.RowKit

/-- A row of newest entries, a block of its own. -/
structure NwRow (w : World) (g : Nat) (l : List Nw) (cur : Array Value) : Prop where
  blk : Blk w g 84 cur
  cell : ∀ (i : Nat) (n : Nw), l[i]? = some n → cur[i * 3]? = some (.int .i64 n.kind) ∧ cur[i * 3 + 1]? = some (.int .u64 n.version) ∧ cur[i * 3 + 2]? = some (.int .i64 n.address)
theorem NwRow.keep {B : Nat} {Ts : List TypeId} {w w' : World} {g : Nat} {l : List Nw} {cur : Array Value} (h : NwRow w g l cur) (hk : Keep B Ts w w') (hT : 84 ∉ Ts) : NwRow w' g l cur := ⟨h.blk.keep hk hT, h.cell⟩
structure NwCell (w : World) (q o : Nat) (n : Nw) : Prop where
  c0 : w.cell? ⟨q, o, none⟩ = some (.int .i64 n.kind)
  c1 : w.cell? ⟨q, o + 1, none⟩ = some (.int .u64 n.version)
  c2 : w.cell? ⟨q, o + 2, none⟩ = some (.int .i64 n.address)
theorem NwRow.cells {w : World} {g : Nat} {l : List Nw} {cur : Array Value} (h : NwRow w g l cur) (i : Nat) (n : Nw) (hn : l[i]? = some n) : NwCell w g (i * 3) n :=
  let ⟨h0, h1, h2⟩ := h.cell i n hn
  ⟨h.blk.cell _ h0, h.blk.cell _ h1, h.blk.cell _ h2⟩
theorem BandsIn.keep {B : Nat} {Ts : List TypeId} {w w' : World} {v : Value} {l : List Band} (h : BandsIn w v l) (hk : ∀ q c, v = .slice (some ⟨q, 0, none⟩) l.length c → ∀ i x, w.cell? ⟨q, i, none⟩ = some x → w'.cell? ⟨q, i, none⟩ = some x) : BandsIn w' v l :=
  let ⟨q, c, hv, h⟩ := h
  ⟨q, c, hv, fun i b hb => let ⟨h0, h1, h2, h3⟩ := h i b hb; ⟨hk q c hv _ _ h0, hk q c hv _ _ h1, hk q c hv _ _ h2, hk q c hv _ _ h3⟩⟩
def drvCells (v : Drv) (ad eb ce : Nat) (bv : Value) : Array Value :=
  #[.pointer (some ⟨ad, 0, none⟩), .int .u64 v.key, .slice (some ⟨eb, 0, none⟩) v.entries.length ce, bv, .int .u64 v.time, .int .i64 v.failed]
structure DrvIn (B : Nat) (w : World) (vd ad : Nat) (v : Drv) (eb ce : Nat) (bv : Value) : Prop where
  blk : Blk w vd 87 (drvCells v ad eb ce bv)
  ge : B ≤ vd
  ents : ∃ cur, NwRow w eb v.entries cur
  gee : B ≤ eb
  bands : BandsAt w bv v.bands
def DrvAt (B : Nat) (w : World) (vd ad : Nat) (v : Drv) : Prop := ∃ eb ce bv, DrvIn B w vd ad v eb ce bv
theorem DrvIn.keep {B B' : Nat} {Ts : List TypeId} {w w' : World} {vd ad : Nat} {v : Drv} {eb ce : Nat} {bv : Value} (h : DrvIn B w vd ad v eb ce bv) (hk : Keep B' Ts w w') (h1 : 87 ∉ Ts) (h2 : 84 ∉ Ts) (h3 : 76 ∉ Ts) : DrvIn B w' vd ad v eb ce bv :=
  let ⟨cur, r⟩ := h.ents
  ⟨h.blk.keep hk h1, h.ge, ⟨cur, r.keep hk h2⟩, h.gee, h.bands.keep hk h3⟩
theorem DrvAt.keep {B B' : Nat} {Ts : List TypeId} {w w' : World} {vd ad : Nat} {v : Drv} (h : DrvAt B w vd ad v) (hk : Keep B' Ts w w') (h1 : 87 ∉ Ts) (h2 : 84 ∉ Ts) (h3 : 76 ∉ Ts) : DrvAt B w' vd ad v :=
  let ⟨eb, ce, bv, h⟩ := h
  ⟨eb, ce, bv, h.keep hk h1 h2 h3⟩
theorem DrvAt.ext {B : Nat} {w w' : World} {vd ad : Nat} {v : Drv} (h : DrvAt B w vd ad v) (hk : Ext w w') : DrvAt B w' vd ad v := h.keep hk (by simp) (by simp) (by simp)
/-- The types of the blocks that a drive's operation writes. -/
abbrev VT : List TypeId := 87 :: 84 :: DT

theorem vstate {B : Nat} {w : World} {vd ad : Nat} {v : Drv} (h : DrvAt B w vd ad v) : Calls Tryz.prog 38 #[.pointer (some ⟨vd, 0, none⟩)] w fun e w' => e = .returned (.int .i64 v.failed) ∧ w' = w := by
  obtain ⟨eb, ce, bv, h⟩ := h
  have c5 : w.cell? ⟨vd, 5, none⟩ = some (.int .i64 v.failed) := h.blk.cell 5 rfl
  clear h
  go_enter Tryz.func38, Tryz.ntmps38
  go_wp2
  go_ret
  exact ⟨rfl, rfl⟩
theorem vstate_nil (w : World) : Calls Tryz.prog 38 #[.pointer none] w fun e w' => e = .returned (.int .i64 8) ∧ w' = w := by
  go_enter Tryz.func38, Tryz.ntmps38
  go_wp2
  go_ret
  exact ⟨rfl, rfl⟩
def Drv.fail (v : Drv) (e : Int) : Drv := if e = 0 then v else { v with failed := e }
theorem vfail {B : Nat} {w : World} {vd ad : Nat} {v : Drv} (h : DrvAt B w vd ad v) (n : Int) : Calls Tryz.prog 40 #[.pointer (some ⟨vd, 0, none⟩), .int .i64 n] w fun e w' => e = .returned (.int .i64 n) ∧ DrvAt B w' vd ad (v.fail n) ∧ Keep B [87] w w' := by
  obtain ⟨eb, ce, bv, h⟩ := h
  have H := Lib.hid h
  have c5 : w.cell? ⟨vd, 5, none⟩ = some (.int .i64 v.failed) := h.blk.cell 5 rfl
  have f5 : w.frozen? ⟨vd, 5, none⟩ = false := h.blk.free 5
  by_cases hn : n = 0
  · have hnb : (n != 0) = false := by simp [hn]
    have hv : v.fail n = v := by unfold Drv.fail; rw [if_pos hn]
    rw [hv]
    clear h hn hv
    go_enter Tryz.func40, Tryz.ntmps40
    go_wp2
    go_ret
    exact ⟨rfl, ⟨eb, ce, bv, H.out⟩, Keep.refl _ _ _⟩
  · have hnb : (n != 0) = true := by simpa [bne] using hn
    have hv : v.fail n = { v with failed := n } := by unfold Drv.fail; rw [if_neg hn]
    have hk : Keep B [87] w (w.setCell ⟨vd, 5, none⟩ (.int .i64 n)) := (Keep.refl _ _ _).set h.blk h.ge (by simp) _ _
    have HN : DrvIn B (w.setCell ⟨vd, 5, none⟩ (.int .i64 n)) vd ad { v with failed := n } eb ce bv := by
      obtain ⟨cur, r⟩ := h.ents
      exact ⟨h.blk.set 5 _, h.ge, ⟨cur, r.keep hk (by simp)⟩, h.gee, h.bands.keep hk (by simp)⟩
    rw [hv]
    have HN := Lib.hid HN
    have HK := Lib.hid hk
    clear h hn hv hk
    go_enter Tryz.func40, Tryz.ntmps40
    go_wp2
    go_ret
    exact ⟨rfl, ⟨eb, ce, bv, HN.out⟩, HK.out⟩
theorem vsize {B B' : Nat} {w : World} {vd ad ap : Nat} {v : Drv} {d : Dsk} (h : DrvAt B w vd ad v) (hd : DskAt B' w ad ap d) (hg : d.geo.Ok) : Calls Tryz.prog 72 #[.pointer (some ⟨vd, 0, none⟩)] w fun e w' => e = .returned (.int .i64 d.geo.band) ∧ Ext w w' := by
  obtain ⟨eb, ce, bv, h⟩ := h
  have c0 : w.cell? ⟨vd, 0, none⟩ = some (.pointer (some ⟨ad, 0, none⟩)) := h.blk.cell 0 rfl
  have D := Lib.hid (dgeo hd)
  clear h hd
  have Bd := fun w => gband d.geo hg w
  go_enter Tryz.func72, Tryz.ntmps72
  go_wp2_with fail
  refine D.out.mono ?_
  rintro e w1 ⟨rfl, hx⟩
  have HX := Lib.hid hx
  have BW := Lib.hid (Bd w1)
  clear hx D Bd
  go_wp2_with fail
  refine BW.out.mono ?_
  rintro e w2 ⟨rfl, hx2⟩
  have HX2 := Lib.hid (HX.out.trans hx2)
  clear hx2 BW
  go_wp2
  go_ret
  exact ⟨rfl, HX2.out⟩
theorem vhas {B : Nat} {w : World} {vd ad : Nat} {v : Drv} (h : DrvAt B w vd ad v) (b : Int) : Calls Tryz.prog 37 #[.pointer (some ⟨vd, 0, none⟩), .int .i64 b] w fun e w' => e = .returned (.bool (decide (0 ≤ b ∧ b < v.entries.length))) ∧ w' = w := by
  obtain ⟨eb, ce, bv, h⟩ := h
  have c2 : w.cell? ⟨vd, 2, none⟩ = some (.slice (some ⟨eb, 0, none⟩) v.entries.length ce) := h.blk.cell 2 rfl
  clear h
  by_cases h0 : 0 ≤ b
  · by_cases h1 : b < v.entries.length
    · have hr : decide (0 ≤ b ∧ b < v.entries.length) = true := by simp [h0, h1]
      rw [hr]
      go_enter Tryz.func37, Tryz.ntmps37
      go_wp2
      go_ret
      exact ⟨rfl, rfl⟩
    · have hr : decide (0 ≤ b ∧ b < v.entries.length) = false := by simp [h1]
      rw [hr]
      go_enter Tryz.func37, Tryz.ntmps37
      go_wp2
      go_ret
      exact ⟨rfl, rfl⟩
  · have hr : decide (0 ≤ b ∧ b < v.entries.length) = false := by simp [h0]
    rw [hr]
    go_enter Tryz.func37, Tryz.ntmps37
    go_wp2
    go_ret
    exact ⟨rfl, rfl⟩
end Go.Proofs.YthhcooljjhdjbaaGreat
