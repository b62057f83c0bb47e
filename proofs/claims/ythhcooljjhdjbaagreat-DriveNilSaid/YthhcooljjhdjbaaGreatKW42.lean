/- Contract: the newest entry of a block is fetched. -/
import Derived.Test.YthhcooljjhdjbaaGreatKW40
import Derived.Test.YthhcooljjhdjbaaGreatKP2
import Derived.Test.YthhcooljjhdjbaaGreatKW22
set_option linter.unusedVariables false
set_option linter.unusedSimpArgs false
namespace Go.Proofs.YthhcooljjhdjbaaGreat
open Go.RowKit

def FetchPost (B : Nat) (w : World) (ad ap vd : Nat) (v : Drv) (r : Dsk × Ent × Int) (e : Ending) (w' : World) : Prop :=
  e = .returned (.tuple #[entV r.2.1, .int .i64 r.2.2]) ∧ DskAt B w' ad ap r.1 ∧ DrvAt B w' vd ad v ∧ Keep B DT w w'
theorem DrvIn.entry {B : Nat} {w : World} {vd ad : Nat} {v : Drv} {eb ce : Nat} {bv : Value} (h : DrvIn B w vd ad v eb ce bv) (b : Nat) (hb : b < v.entries.length) : NwCell w eb (b * 3) (v.at b) :=
  let ⟨_, r⟩ := h.ents
  r.cells b _ (v.at_in b hb)
theorem BytesAt.bytes {w : World} {q n c : Nat} {b : List UInt8} (h : BytesAt w (.slice (some ⟨q, 0, none⟩) n c) b) (hn : b.length = n) (hne : b ≠ []) : n ≤ c ∧ ∀ (i : Nat) (x : UInt8), b[i]? = some x → w.cell? ⟨q, 0 + i, none⟩ = some (.int .u8 (x.toNat : Int)) := by
  subst hn
  refine ⟨?_, fun i x hx => ?_⟩
  · rcases h.2 with ⟨h, _⟩ | ⟨g, cap, cur, hv, _, _, hc, _⟩
    · cases h
    · obtain ⟨_, h2⟩ := Value.slice.inj hv
      omega
  · have hi := (List.getElem?_eq_some_iff.1 hx).1
    rw [Nat.zero_add, World.ownsRow.cellAt h i (by omega), List.getElem?_map, hx]; rfl
theorem cells11 {B : Nat} {Ts : List TypeId} {w w1 : World} {q : Nat} {z0 z1 z2 z3 z4 z5 z6 z7 z8 z9 z10 : Value} (hb : Blk w1 q 89 #[z0, z1, z2, z3, z4, z5, z6, z7, z8, z9, z10]) (hk : Keep B Ts w w1) (hq : w.heap.size ≤ q) (x0 x1 x2 x3 x4 x5 x6 x7 x8 x9 x10 : Value) :
    Blk (((((((((((w1.setCell ⟨q, 0, none⟩ x0).setCell ⟨q, 1, none⟩ x1).setCell ⟨q, 2, none⟩ x2).setCell ⟨q, 3, none⟩ x3).setCell ⟨q, 4, none⟩ x4).setCell ⟨q, 5, none⟩ x5).setCell ⟨q, 6, none⟩ x6).setCell ⟨q, 7, none⟩ x7).setCell ⟨q, 8, none⟩ x8).setCell ⟨q, 9, none⟩ x9).setCell ⟨q, 10, none⟩ x10) q 89 #[x0, x1, x2, x3, x4, x5, x6, x7, x8, x9, x10] ∧ Keep B Ts w (((((((((((w1.setCell ⟨q, 0, none⟩ x0).setCell ⟨q, 1, none⟩ x1).setCell ⟨q, 2, none⟩ x2).setCell ⟨q, 3, none⟩ x3).setCell ⟨q, 4, none⟩ x4).setCell ⟨q, 5, none⟩ x5).setCell ⟨q, 6, none⟩ x6).setCell ⟨q, 7, none⟩ x7).setCell ⟨q, 8, none⟩ x8).setCell ⟨q, 9, none⟩ x9).setCell ⟨q, 10, none⟩ x10) ∧ Keep 0 [89] w1 (((((((((((w1.setCell ⟨q, 0, none⟩ x0).setCell ⟨q, 1, none⟩ x1).setCell ⟨q, 2, none⟩ x2).setCell ⟨q, 3, none⟩ x3).setCell ⟨q, 4, none⟩ x4).setCell ⟨q, 5, none⟩ x5).setCell ⟨q, 6, none⟩ x6).setCell ⟨q, 7, none⟩ x7).setCell ⟨q, 8, none⟩ x8).setCell ⟨q, 9, none⟩ x9).setCell ⟨q, 10, none⟩ x10) := by
  refine ⟨?_, ?_, ?_⟩
  · have := (((((((((((hb.set 0 x0).set 1 x1).set 2 x2).set 3 x3).set 4 x4).set 5 x5).set 6 x6).set 7 x7).set 8 x8).set 9 x9).set 10 x10)
    simp only [List.setIfInBounds_toArray, List.set_cons_succ, List.set_cons_zero] at this
    exact this
  · exact (Keep.set_new (Keep.set_new (Keep.set_new (Keep.set_new (Keep.set_new (Keep.set_new (Keep.set_new (Keep.set_new (Keep.set_new (Keep.set_new (Keep.set_new hk hq 0 _) hq 1 _) hq 2 _) hq 3 _) hq 4 _) hq 5 _) hq 6 _) hq 7 _) hq 8 _) hq 9 _) hq 10 _)
  · have b0 := hb
    have b1 := b0.set 0 x0
    have b2 := b1.set 1 x1
    have b3 := b2.set 2 x2
    have b4 := b3.set 3 x3
    have b5 := b4.set 4 x4
    have b6 := b5.set 5 x5
    have b7 := b6.set 6 x6
    have b8 := b7.set 7 x7
    have b9 := b8.set 8 x8
    have b10 := b9.set 9 x9
    have b11 := b10.set 10 x10
    exact ((((((((((((Keep.refl 0 [89] w1).set b0 (Nat.zero_le _) (by simp) 0 x0).set b1 (Nat.zero_le _) (by simp) 1 x1).set b2 (Nat.zero_le _) (by simp) 2 x2).set b3 (Nat.zero_le _) (by simp) 3 x3).set b4 (Nat.zero_le _) (by simp) 4 x4).set b5 (Nat.zero_le _) (by simp) 5 x5).set b6 (Nat.zero_le _) (by simp) 6 x6).set b7 (Nat.zero_le _) (by simp) 7 x7).set b8 (Nat.zero_le _) (by simp) 8 x8).set b9 (Nat.zero_le _) (by simp) 9 x9).set b10 (Nat.zero_le _) (by simp) 10 x10)
set_option maxRecDepth 8000 in
set_option maxHeartbeats 8000000 in
theorem vfetch {B m : Nat} {w : World} {vd ad ap : Nat} {v : Drv} {d : Dsk} (h : DrvAt B w vd ad v) (hd : DskAt B w ad ap d) (hi : DInv m d) (hm : m ≤ 60000) (b : Nat) (hb : b < v.entries.length) :
    Calls Tryz.prog 39 #[.pointer (some ⟨vd, 0, none⟩), .int .i64 b] w (FetchPost B w ad ap vd v (fetchRun v d b)) := by
  obtain ⟨W0, hW0⟩ : ∃ W0, W0 = (w.alloc (.cells #[.int .i64 0, .int .i64 0, .int .u64 0, .int .u8 0, .int .u8 0, .int .u8 0, .int .u8 0, .int .u8 0, .int .u8 0, .int .u8 0, .int .u8 0] 89)).alloc (.cells #[.int .i64 (v.at b).kind, .int .u64 (v.at b).version, .int .i64 (v.at b).address] 84) := ⟨_, rfl⟩
  have hx0 : Ext w W0 := by rw [hW0]; exact ((Ext.refl _).alloc _).alloc _
  have hb1 : Blk W0 w.heap.size 89 #[.int .i64 0, .int .i64 0, .int .u64 0, .int .u8 0, .int .u8 0, .int .u8 0, .int .u8 0, .int .u8 0, .int .u8 0, .int .u8 0, .int .u8 0] := by rw [hW0]; exact (Blk.new _ _ _).alloc _
  have hb2 : Blk W0 (w.heap.size + 1) 84 #[.int .i64 (v.at b).kind, .int .u64 (v.at b).version, .int .i64 (v.at b).address] := by
    have := Blk.new (w.alloc (.cells #[.int .i64 0, .int .i64 0, .int .u64 0, .int .u8 0, .int .u8 0, .int .u8 0, .int .u8 0, .int .u8 0, .int .u8 0, .int .u8 0, .int .u8 0] 89)) #[.int .i64 (v.at b).kind, .int .u64 (v.at b).version, .int .i64 (v.at b).address] 84
    rw [World.size_alloc, ← hW0] at this; exact this
  have S := vsector (h.ext hx0) (hd.ext hx0) hi.geo hi.faults hi.short (v.at b).address
  obtain ⟨hs1, hs2⟩ := hi.sector v.key (v.at b).address
  have HR := Lib.hid (show fetchRun v d b = ((d.sector v.key (v.at b).address).1.1, fetchAns (v.at b) b (d.sector v.key (v.at b).address)) from rfl)
  obtain ⟨eb, ce, bv, h⟩ := h
  have c2 : w.cell? ⟨vd, 2, none⟩ = some (.slice (some ⟨eb, 0, none⟩) v.entries.length ce) := h.blk.cell 2 rfl
  obtain ⟨e0, e1, e2⟩ := h.entry b hb
  have vl := cell_lt c2
  have el := cell_lt e0
  have hbl : (b : Int) < (v.entries.length : Int) := by omega
  rw [hW0] at S
  replace S := Lib.hid S
  have HB1 := Lib.hid hb1
  have HB2 := Lib.hid hb2
  have HX0 := Lib.hid hx0
  have HS2 := Lib.hid hs2
  have HW0 := Lib.hid hW0
  clear h hd hi hs1 hs2 hb1 hb2 hx0 hW0 hb
  generalize fetchRun v d b = res at *
  generalize d.sector v.key (v.at b).address = r at *
  generalize v.at b = n at *
  go_enter Tryz.func39, Tryz.ntmps39
  go_wp2_with fail
  refine S.out.mono ?_
  rintro e w1 ⟨ya, yn, yc, rfl, hd1, hv1, hy, hk1⟩
  have e0 := HW0.out
  rw [← e0] at hk1
  clear e0
  have hk0 : Keep B DT w w1 := (HX0.out.keep _ _).trans hk1
  have hb1 := HB1.out.keep hk1 (by simp)
  have hb2 := HB2.out.keep hk1 (by simp)
  have f0 : w1.frozen? ⟨w.heap.size, 0, none⟩ = false := hb1.free 0
  have f1 : w1.frozen? ⟨w.heap.size, 1, none⟩ = false := hb1.free 1
  have f2 : w1.frozen? ⟨w.heap.size, 2, none⟩ = false := hb1.free 2
  have f3 : w1.frozen? ⟨w.heap.size, 3, none⟩ = false := hb1.free 3
  have f4 : w1.frozen? ⟨w.heap.size, 4, none⟩ = false := hb1.free 4
  have f5 : w1.frozen? ⟨w.heap.size, 5, none⟩ = false := hb1.free 5
  have f6 : w1.frozen? ⟨w.heap.size, 6, none⟩ = false := hb1.free 6
  have f7 : w1.frozen? ⟨w.heap.size, 7, none⟩ = false := hb1.free 7
  have f8 : w1.frozen? ⟨w.heap.size, 8, none⟩ = false := hb1.free 8
  have f9 : w1.frozen? ⟨w.heap.size, 9, none⟩ = false := hb1.free 9
  have f10 : w1.frozen? ⟨w.heap.size, 10, none⟩ = false := hb1.free 10
  have g0 : w1.cell? ⟨w.heap.size, 0, none⟩ = some (.int .i64 0) := hb1.cell 0 rfl
  have g1 : w1.cell? ⟨w.heap.size, 1, none⟩ = some (.int .i64 0) := hb1.cell 1 rfl
  have g2 : w1.cell? ⟨w.heap.size, 2, none⟩ = some (.int .u64 0) := hb1.cell 2 rfl
  have g3 : w1.cell? ⟨w.heap.size, 3, none⟩ = some (.int .u8 0) := hb1.cell 3 rfl
  have g4 : w1.cell? ⟨w.heap.size, 4, none⟩ = some (.int .u8 0) := hb1.cell 4 rfl
  have g5 : w1.cell? ⟨w.heap.size, 5, none⟩ = some (.int .u8 0) := hb1.cell 5 rfl
  have g6 : w1.cell? ⟨w.heap.size, 6, none⟩ = some (.int .u8 0) := hb1.cell 6 rfl
  have g7 : w1.cell? ⟨w.heap.size, 7, none⟩ = some (.int .u8 0) := hb1.cell 7 rfl
  have g8 : w1.cell? ⟨w.heap.size, 8, none⟩ = some (.int .u8 0) := hb1.cell 8 rfl
  have g9 : w1.cell? ⟨w.heap.size, 9, none⟩ = some (.int .u8 0) := hb1.cell 9 rfl
  have g10 : w1.cell? ⟨w.heap.size, 10, none⟩ = some (.int .u8 0) := hb1.cell 10 rfl
  have hl1 := hb1.lt
  have HD := Lib.hid hd1
  have HV := Lib.hid hv1
  have HY := Lib.hid hy
  have HK := Lib.hid hk0
  have HB1a := Lib.hid hb1
  have HB2a := Lib.hid hb2
  clear hd1 hv1 hy hk0 hk1 hb1 hb2 S c2 e1 e2
  have hn0 : w1.cell? ⟨w.heap.size + 1, 0, none⟩ = some (.int .i64 n.kind) := HB2a.out.cell 0 rfl
  have hn1 : w1.cell? ⟨w.heap.size + 1, 1, none⟩ = some (.int .u64 n.version) := HB2a.out.cell 1 rfl
  have hl2 := HB2a.out.lt
  clear e0 HB1 HB2 HX0 HW0 vl el hbl
  by_cases hz : r.2 = 0
  · have hzb : (r.2 != 0) = false := by simp [hz]
    obtain ⟨bs, h1, _, hen⟩ := HS2.out.resolve_left (fun h => h hz)
    obtain ⟨hp, hok, _, _⟩ := hen.parts
    have hy := HY.out
    rw [h1] at hy
    obtain ⟨q, c', hyv, hba, hne, _⟩ := hy
    obtain ⟨ha1, ha2, ha3⟩ := Value.slice.inj hyv
    have hl37 := hp.len
    obtain ⟨hcap, hby⟩ := BytesAt.bytes hba rfl hne
    rw [hl37] at hcap ha2
    subst ha1 ha2 ha3
    have hres : res = (r.1.1, if (decEnt bs).kind = n.kind ∧ (decEnt bs).block = b ∧ (decEnt bs).version = n.version then (decEnt bs, 0) else (.zero, 15)) := by
      rw [HR.out]; unfold fetchAns; rw [if_neg (fun h => h hz), h1]; rfl
    have D := edecode hby hcap hp hok
    clear hp hba hby hyv hne hl37 hcap hen h1
    generalize decTime bs = tm at *
    generalize decEnt bs = en at *
    obtain ⟨k, bl, x, l⟩ := en
    obtain ⟨d0, d1, d2, d3, d4, d5, d6, d7, hdl⟩ := len8 hok.len
    have hdl : l = [d0, d1, d2, d3, d4, d5, d6, d7] := hdl
    subst hdl
    unfold DecPost entV at D
    rw [entCells8] at D
    have HRES := Lib.hid hres
    have DH := Lib.hid D
    clear hres D hok HR HS2 HY hz
    clear g0 f0
    clear g1 f1
    clear g2 f2
    clear g3 f3
    clear g4 f4
    clear g5 f5
    clear g6 f6
    clear g7 f7
    clear g8 f8
    clear g9 f9
    clear g10 f10
    clear hn0 hn1 hl2 hl1
    go_wp2_with fail
    refine DH.out.mono ?_
    rintro e w2 ⟨rfl, hx2⟩
    have hb1 := HB1a.out.ext hx2
    have hb2 := HB2a.out.ext hx2
    have g0 : w2.cell? ⟨w.heap.size, 0, none⟩ = some (.int .i64 0) := hb1.cell 0 rfl
    have f0 : w2.frozen? ⟨w.heap.size, 0, none⟩ = false := hb1.free 0
    have g1 : w2.cell? ⟨w.heap.size, 1, none⟩ = some (.int .i64 0) := hb1.cell 1 rfl
    have f1 : w2.frozen? ⟨w.heap.size, 1, none⟩ = false := hb1.free 1
    have g2 : w2.cell? ⟨w.heap.size, 2, none⟩ = some (.int .u64 0) := hb1.cell 2 rfl
    have f2 : w2.frozen? ⟨w.heap.size, 2, none⟩ = false := hb1.free 2
    have g3 : w2.cell? ⟨w.heap.size, 3, none⟩ = some (.int .u8 0) := hb1.cell 3 rfl
    have f3 : w2.frozen? ⟨w.heap.size, 3, none⟩ = false := hb1.free 3
    have g4 : w2.cell? ⟨w.heap.size, 4, none⟩ = some (.int .u8 0) := hb1.cell 4 rfl
    have f4 : w2.frozen? ⟨w.heap.size, 4, none⟩ = false := hb1.free 4
    have g5 : w2.cell? ⟨w.heap.size, 5, none⟩ = some (.int .u8 0) := hb1.cell 5 rfl
    have f5 : w2.frozen? ⟨w.heap.size, 5, none⟩ = false := hb1.free 5
    have g6 : w2.cell? ⟨w.heap.size, 6, none⟩ = some (.int .u8 0) := hb1.cell 6 rfl
    have f6 : w2.frozen? ⟨w.heap.size, 6, none⟩ = false := hb1.free 6
    have g7 : w2.cell? ⟨w.heap.size, 7, none⟩ = some (.int .u8 0) := hb1.cell 7 rfl
    have f7 : w2.frozen? ⟨w.heap.size, 7, none⟩ = false := hb1.free 7
    have g8 : w2.cell? ⟨w.heap.size, 8, none⟩ = some (.int .u8 0) := hb1.cell 8 rfl
    have f8 : w2.frozen? ⟨w.heap.size, 8, none⟩ = false := hb1.free 8
    have g9 : w2.cell? ⟨w.heap.size, 9, none⟩ = some (.int .u8 0) := hb1.cell 9 rfl
    have f9 : w2.frozen? ⟨w.heap.size, 9, none⟩ = false := hb1.free 9
    have g10 : w2.cell? ⟨w.heap.size, 10, none⟩ = some (.int .u8 0) := hb1.cell 10 rfl
    have f10 : w2.frozen? ⟨w.heap.size, 10, none⟩ = false := hb1.free 10
    have hn0 : w2.cell? ⟨w.heap.size + 1, 0, none⟩ = some (.int .i64 n.kind) := hb2.cell 0 rfl
    have hn1 : w2.cell? ⟨w.heap.size + 1, 1, none⟩ = some (.int .u64 n.version) := hb2.cell 1 rfl
    have hl1 := hb1.lt
    have hl2 := hb2.lt
    have hne1 : ¬ w2.heap.size = w.heap.size := by omega
    have hne2 : ¬ w.heap.size = w2.heap.size := by omega
    have HB2 := Lib.hid hb1
    have HK2 := Lib.hid (HK.out.trans (hx2.keep _ _))
    have HD2 := Lib.hid (HD.out.ext hx2)
    have HV2 := Lib.hid (HV.out.ext hx2)
    clear hb1 hb2 hx2 HB1a HB2a HK HD HV DH
    by_cases e1 : k = n.kind
    · have e1b : (k != n.kind) = false := by simp [e1]
      by_cases e2 : bl = (b : Int)
      · have e2b : (bl != (b : Int)) = false := by simp [e2]
        by_cases e3 : x = n.version
        · have e3b : (x != n.version) = false := by simp [e3]
          have hr := HRES.out
          rw [if_pos ⟨e1, e2, e3⟩] at hr
          subst hr
          clear e1 e2 e3
          have hent : entV ⟨k, bl, x, [d0, d1, d2, d3, d4, d5, d6, d7]⟩ = .agg #[.int .i64 k, .int .i64 bl, .int .u64 x, .int .u8 (d0.toNat : Int), .int .u8 (d1.toNat : Int), .int .u8 (d2.toNat : Int), .int .u8 (d3.toNat : Int), .int .u8 (d4.toNat : Int), .int .u8 (d5.toNat : Int), .int .u8 (d6.toNat : Int), .int .u8 (d7.toNat : Int)] := rfl
          have HENT := Lib.hid hent
          clear hent
          go_wp2_with fail
          have CS := cells11 HB2.out HK2.out (Nat.le_refl _) (.int .i64 k) (.int .i64 bl) (.int .u64 x) (.int .u8 (d0.toNat : Int)) (.int .u8 (d1.toNat : Int)) (.int .u8 (d2.toNat : Int)) (.int .u8 (d3.toNat : Int)) (.int .u8 (d4.toNat : Int)) (.int .u8 (d5.toNat : Int)) (.int .u8 (d6.toNat : Int)) (.int .u8 (d7.toNat : Int))
          generalize (((((((((((w2.setCell ⟨w.heap.size, 0, none⟩ (.int .i64 k)).setCell ⟨w.heap.size, 1, none⟩ (.int .i64 bl)).setCell ⟨w.heap.size, 2, none⟩ (.int .u64 x)).setCell ⟨w.heap.size, 3, none⟩ (.int .u8 (d0.toNat : Int))).setCell ⟨w.heap.size, 4, none⟩ (.int .u8 (d1.toNat : Int))).setCell ⟨w.heap.size, 5, none⟩ (.int .u8 (d2.toNat : Int))).setCell ⟨w.heap.size, 6, none⟩ (.int .u8 (d3.toNat : Int))).setCell ⟨w.heap.size, 7, none⟩ (.int .u8 (d4.toNat : Int))).setCell ⟨w.heap.size, 8, none⟩ (.int .u8 (d5.toNat : Int))).setCell ⟨w.heap.size, 9, none⟩ (.int .u8 (d6.toNat : Int))).setCell ⟨w.heap.size, 10, none⟩ (.int .u8 (d7.toNat : Int))) = wf0 at CS ⊢
          obtain ⟨s1, s2, s3⟩ := CS
          have hxa : Ext wf0 (wf0.alloc (.cells #[.int .i64 k, .int .i64 bl, .int .u64 x, .int .u8 (d0.toNat : Int), .int .u8 (d1.toNat : Int), .int .u8 (d2.toNat : Int), .int .u8 (d3.toNat : Int), .int .u8 (d4.toNat : Int), .int .u8 (d5.toNat : Int), .int .u8 (d6.toNat : Int), .int .u8 (d7.toNat : Int)] 89)) := (Ext.refl _).alloc _
          replace s1 := s1.ext hxa
          replace s2 := s2.trans (hxa.keep _ _)
          replace s3 := s3.trans (hxa.keep _ _)
          generalize wf0.alloc (.cells #[.int .i64 k, .int .i64 bl, .int .u64 x, .int .u8 (d0.toNat : Int), .int .u8 (d1.toNat : Int), .int .u8 (d2.toNat : Int), .int .u8 (d3.toNat : Int), .int .u8 (d4.toNat : Int), .int .u8 (d5.toNat : Int), .int .u8 (d6.toNat : Int), .int .u8 (d7.toNat : Int)] 89) = wf at *
          have q0 : wf.cell? ⟨w.heap.size, 0, none⟩ = some (.int .i64 k) := s1.cell 0 rfl
          have q1 : wf.cell? ⟨w.heap.size, 1, none⟩ = some (.int .i64 bl) := s1.cell 1 rfl
          have q2 : wf.cell? ⟨w.heap.size, 2, none⟩ = some (.int .u64 x) := s1.cell 2 rfl
          have q3 : wf.cell? ⟨w.heap.size, 3, none⟩ = some (.int .u8 (d0.toNat : Int)) := s1.cell 3 rfl
          have q4 : wf.cell? ⟨w.heap.size, 4, none⟩ = some (.int .u8 (d1.toNat : Int)) := s1.cell 4 rfl
          have q5 : wf.cell? ⟨w.heap.size, 5, none⟩ = some (.int .u8 (d2.toNat : Int)) := s1.cell 5 rfl
          have q6 : wf.cell? ⟨w.heap.size, 6, none⟩ = some (.int .u8 (d3.toNat : Int)) := s1.cell 6 rfl
          have q7 : wf.cell? ⟨w.heap.size, 7, none⟩ = some (.int .u8 (d4.toNat : Int)) := s1.cell 7 rfl
          have q8 : wf.cell? ⟨w.heap.size, 8, none⟩ = some (.int .u8 (d5.toNat : Int)) := s1.cell 8 rfl
          have q9 : wf.cell? ⟨w.heap.size, 9, none⟩ = some (.int .u8 (d6.toNat : Int)) := s1.cell 9 rfl
          have q10 : wf.cell? ⟨w.heap.size, 10, none⟩ = some (.int .u8 (d7.toNat : Int)) := s1.cell 10 rfl
          exact bodyPost_ret (v := .tuple #[.agg #[.int .i64 k, .int .i64 bl, .int .u64 x, .int .u8 (d0.toNat : Int), .int .u8 (d1.toNat : Int), .int .u8 (d2.toNat : Int), .int .u8 (d3.toNat : Int), .int .u8 (d4.toNat : Int), .int .u8 (d5.toNat : Int), .int .u8 (d6.toNat : Int), .int .u8 (d7.toNat : Int)], .int .i64 0]) (by simp [results, Tryz.results39, go_sem, q0, q1, q2, q3, q4, q5, q6, q7, q8, q9, q10]) rfl ⟨rfl, HD2.out.keep s3 (by simp), HV2.out.keep s3 (by simp) (by simp) (by simp), s2⟩
        · have e3b : (x != n.version) = true := by simpa [bne] using e3
          have hr := HRES.out
          rw [if_neg (fun h => e3 h.2.2)] at hr
          subst hr
          clear e1 e2 e3
          go_wp2_with fail
          have CS := cells11 HB2.out HK2.out (Nat.le_refl _) (.int .i64 0) (.int .i64 0) (.int .u64 0) (.int .u8 0) (.int .u8 0) (.int .u8 0) (.int .u8 0) (.int .u8 0) (.int .u8 0) (.int .u8 0) (.int .u8 0)
          generalize (((((((((((w2.setCell ⟨w.heap.size, 0, none⟩ (.int .i64 0)).setCell ⟨w.heap.size, 1, none⟩ (.int .i64 0)).setCell ⟨w.heap.size, 2, none⟩ (.int .u64 0)).setCell ⟨w.heap.size, 3, none⟩ (.int .u8 0)).setCell ⟨w.heap.size, 4, none⟩ (.int .u8 0)).setCell ⟨w.heap.size, 5, none⟩ (.int .u8 0)).setCell ⟨w.heap.size, 6, none⟩ (.int .u8 0)).setCell ⟨w.heap.size, 7, none⟩ (.int .u8 0)).setCell ⟨w.heap.size, 8, none⟩ (.int .u8 0)).setCell ⟨w.heap.size, 9, none⟩ (.int .u8 0)).setCell ⟨w.heap.size, 10, none⟩ (.int .u8 0)) = wf0 at CS ⊢
          obtain ⟨s1, s2, s3⟩ := CS
          have hxa : Ext wf0 (wf0.alloc (.cells #[.int .i64 k, .int .i64 bl, .int .u64 x, .int .u8 (d0.toNat : Int), .int .u8 (d1.toNat : Int), .int .u8 (d2.toNat : Int), .int .u8 (d3.toNat : Int), .int .u8 (d4.toNat : Int), .int .u8 (d5.toNat : Int), .int .u8 (d6.toNat : Int), .int .u8 (d7.toNat : Int)] 89)) := (Ext.refl _).alloc _
          replace s1 := s1.ext hxa
          replace s2 := s2.trans (hxa.keep _ _)
          replace s3 := s3.trans (hxa.keep _ _)
          generalize wf0.alloc (.cells #[.int .i64 k, .int .i64 bl, .int .u64 x, .int .u8 (d0.toNat : Int), .int .u8 (d1.toNat : Int), .int .u8 (d2.toNat : Int), .int .u8 (d3.toNat : Int), .int .u8 (d4.toNat : Int), .int .u8 (d5.toNat : Int), .int .u8 (d6.toNat : Int), .int .u8 (d7.toNat : Int)] 89) = wf at *
          have q0 : wf.cell? ⟨w.heap.size, 0, none⟩ = some (.int .i64 0) := s1.cell 0 rfl
          have q1 : wf.cell? ⟨w.heap.size, 1, none⟩ = some (.int .i64 0) := s1.cell 1 rfl
          have q2 : wf.cell? ⟨w.heap.size, 2, none⟩ = some (.int .u64 0) := s1.cell 2 rfl
          have q3 : wf.cell? ⟨w.heap.size, 3, none⟩ = some (.int .u8 0) := s1.cell 3 rfl
          have q4 : wf.cell? ⟨w.heap.size, 4, none⟩ = some (.int .u8 0) := s1.cell 4 rfl
          have q5 : wf.cell? ⟨w.heap.size, 5, none⟩ = some (.int .u8 0) := s1.cell 5 rfl
          have q6 : wf.cell? ⟨w.heap.size, 6, none⟩ = some (.int .u8 0) := s1.cell 6 rfl
          have q7 : wf.cell? ⟨w.heap.size, 7, none⟩ = some (.int .u8 0) := s1.cell 7 rfl
          have q8 : wf.cell? ⟨w.heap.size, 8, none⟩ = some (.int .u8 0) := s1.cell 8 rfl
          have q9 : wf.cell? ⟨w.heap.size, 9, none⟩ = some (.int .u8 0) := s1.cell 9 rfl
          have q10 : wf.cell? ⟨w.heap.size, 10, none⟩ = some (.int .u8 0) := s1.cell 10 rfl
          exact bodyPost_ret (v := .tuple #[entV .zero, .int .i64 15]) (by simp [results, Tryz.results39, go_sem, q0, q1, q2, q3, q4, q5, q6, q7, q8, q9, q10]; rfl) rfl ⟨rfl, HD2.out.keep s3 (by simp), HV2.out.keep s3 (by simp) (by simp) (by simp), s2⟩
      · have e2b : (bl != (b : Int)) = true := by simpa [bne] using e2
        have hr := HRES.out
        rw [if_neg (fun h => e2 h.2.1)] at hr
        subst hr
        clear e1 e2
        go_wp2_with fail
        have CS := cells11 HB2.out HK2.out (Nat.le_refl _) (.int .i64 0) (.int .i64 0) (.int .u64 0) (.int .u8 0) (.int .u8 0) (.int .u8 0) (.int .u8 0) (.int .u8 0) (.int .u8 0) (.int .u8 0) (.int .u8 0)
        generalize (((((((((((w2.setCell ⟨w.heap.size, 0, none⟩ (.int .i64 0)).setCell ⟨w.heap.size, 1, none⟩ (.int .i64 0)).setCell ⟨w.heap.size, 2, none⟩ (.int .u64 0)).setCell ⟨w.heap.size, 3, none⟩ (.int .u8 0)).setCell ⟨w.heap.size, 4, none⟩ (.int .u8 0)).setCell ⟨w.heap.size, 5, none⟩ (.int .u8 0)).setCell ⟨w.heap.size, 6, none⟩ (.int .u8 0)).setCell ⟨w.heap.size, 7, none⟩ (.int .u8 0)).setCell ⟨w.heap.size, 8, none⟩ (.int .u8 0)).setCell ⟨w.heap.size, 9, none⟩ (.int .u8 0)).setCell ⟨w.heap.size, 10, none⟩ (.int .u8 0)) = wf0 at CS ⊢
        obtain ⟨s1, s2, s3⟩ := CS
        have hxa : Ext wf0 (wf0.alloc (.cells #[.int .i64 k, .int .i64 bl, .int .u64 x, .int .u8 (d0.toNat : Int), .int .u8 (d1.toNat : Int), .int .u8 (d2.toNat : Int), .int .u8 (d3.toNat : Int), .int .u8 (d4.toNat : Int), .int .u8 (d5.toNat : Int), .int .u8 (d6.toNat : Int), .int .u8 (d7.toNat : Int)] 89)) := (Ext.refl _).alloc _
        replace s1 := s1.ext hxa
        replace s2 := s2.trans (hxa.keep _ _)
        replace s3 := s3.trans (hxa.keep _ _)
        generalize wf0.alloc (.cells #[.int .i64 k, .int .i64 bl, .int .u64 x, .int .u8 (d0.toNat : Int), .int .u8 (d1.toNat : Int), .int .u8 (d2.toNat : Int), .int .u8 (d3.toNat : Int), .int .u8 (d4.toNat : Int), .int .u8 (d5.toNat : Int), .int .u8 (d6.toNat : Int), .int .u8 (d7.toNat : Int)] 89) = wf at *
        have q0 : wf.cell? ⟨w.heap.size, 0, none⟩ = some (.int .i64 0) := s1.cell 0 rfl
        have q1 : wf.cell? ⟨w.heap.size, 1, none⟩ = some (.int .i64 0) := s1.cell 1 rfl
        have q2 : wf.cell? ⟨w.heap.size, 2, none⟩ = some (.int .u64 0) := s1.cell 2 rfl
        have q3 : wf.cell? ⟨w.heap.size, 3, none⟩ = some (.int .u8 0) := s1.cell 3 rfl
        have q4 : wf.cell? ⟨w.heap.size, 4, none⟩ = some (.int .u8 0) := s1.cell 4 rfl
        have q5 : wf.cell? ⟨w.heap.size, 5, none⟩ = some (.int .u8 0) := s1.cell 5 rfl
        have q6 : wf.cell? ⟨w.heap.size, 6, none⟩ = some (.int .u8 0) := s1.cell 6 rfl
        have q7 : wf.cell? ⟨w.heap.size, 7, none⟩ = some (.int .u8 0) := s1.cell 7 rfl
        have q8 : wf.cell? ⟨w.heap.size, 8, none⟩ = some (.int .u8 0) := s1.cell 8 rfl
        have q9 : wf.cell? ⟨w.heap.size, 9, none⟩ = some (.int .u8 0) := s1.cell 9 rfl
        have q10 : wf.cell? ⟨w.heap.size, 10, none⟩ = some (.int .u8 0) := s1.cell 10 rfl
        exact bodyPost_ret (v := .tuple #[entV .zero, .int .i64 15]) (by simp [results, Tryz.results39, go_sem, q0, q1, q2, q3, q4, q5, q6, q7, q8, q9, q10]; rfl) rfl ⟨rfl, HD2.out.keep s3 (by simp), HV2.out.keep s3 (by simp) (by simp) (by simp), s2⟩
    · have e1b : (k != n.kind) = true := by simpa [bne] using e1
      have hr := HRES.out
      rw [if_neg (fun h => e1 h.1)] at hr
      subst hr
      clear e1
      go_wp2_with fail
      have CS := cells11 HB2.out HK2.out (Nat.le_refl _) (.int .i64 0) (.int .i64 0) (.int .u64 0) (.int .u8 0) (.int .u8 0) (.int .u8 0) (.int .u8 0) (.int .u8 0) (.int .u8 0) (.int .u8 0) (.int .u8 0)
      generalize (((((((((((w2.setCell ⟨w.heap.size, 0, none⟩ (.int .i64 0)).setCell ⟨w.heap.size, 1, none⟩ (.int .i64 0)).setCell ⟨w.heap.size, 2, none⟩ (.int .u64 0)).setCell ⟨w.heap.size, 3, none⟩ (.int .u8 0)).setCell ⟨w.heap.size, 4, none⟩ (.int .u8 0)).setCell ⟨w.heap.size, 5, none⟩ (.int .u8 0)).setCell ⟨w.heap.size, 6, none⟩ (.int .u8 0)).setCell ⟨w.heap.size, 7, none⟩ (.int .u8 0)).setCell ⟨w.heap.size, 8, none⟩ (.int .u8 0)).setCell ⟨w.heap.size, 9, none⟩ (.int .u8 0)).setCell ⟨w.heap.size, 10, none⟩ (.int .u8 0)) = wf0 at CS ⊢
      obtain ⟨s1, s2, s3⟩ := CS
      have hxa : Ext wf0 (wf0.alloc (.cells #[.int .i64 k, .int .i64 bl, .int .u64 x, .int .u8 (d0.toNat : Int), .int .u8 (d1.toNat : Int), .int .u8 (d2.toNat : Int), .int .u8 (d3.toNat : Int), .int .u8 (d4.toNat : Int), .int .u8 (d5.toNat : Int), .int .u8 (d6.toNat : Int), .int .u8 (d7.toNat : Int)] 89)) := (Ext.refl _).alloc _
      replace s1 := s1.ext hxa
      replace s2 := s2.trans (hxa.keep _ _)
      replace s3 := s3.trans (hxa.keep _ _)
      generalize wf0.alloc (.cells #[.int .i64 k, .int .i64 bl, .int .u64 x, .int .u8 (d0.toNat : Int), .int .u8 (d1.toNat : Int), .int .u8 (d2.toNat : Int), .int .u8 (d3.toNat : Int), .int .u8 (d4.toNat : Int), .int .u8 (d5.toNat : Int), .int .u8 (d6.toNat : Int), .int .u8 (d7.toNat : Int)] 89) = wf at *
      have q0 : wf.cell? ⟨w.heap.size, 0, none⟩ = some (.int .i64 0) := s1.cell 0 rfl
      have q1 : wf.cell? ⟨w.heap.size, 1, none⟩ = some (.int .i64 0) := s1.cell 1 rfl
      have q2 : wf.cell? ⟨w.heap.size, 2, none⟩ = some (.int .u64 0) := s1.cell 2 rfl
      have q3 : wf.cell? ⟨w.heap.size, 3, none⟩ = some (.int .u8 0) := s1.cell 3 rfl
      have q4 : wf.cell? ⟨w.heap.size, 4, none⟩ = some (.int .u8 0) := s1.cell 4 rfl
      have q5 : wf.cell? ⟨w.heap.size, 5, none⟩ = some (.int .u8 0) := s1.cell 5 rfl
      have q6 : wf.cell? ⟨w.heap.size, 6, none⟩ = some (.int .u8 0) := s1.cell 6 rfl
      have q7 : wf.cell? ⟨w.heap.size, 7, none⟩ = some (.int .u8 0) := s1.cell 7 rfl
      have q8 : wf.cell? ⟨w.heap.size, 8, none⟩ = some (.int .u8 0) := s1.cell 8 rfl
      have q9 : wf.cell? ⟨w.heap.size, 9, none⟩ = some (.int .u8 0) := s1.cell 9 rfl
      have q10 : wf.cell? ⟨w.heap.size, 10, none⟩ = some (.int .u8 0) := s1.cell 10 rfl
      exact bodyPost_ret (v := .tuple #[entV .zero, .int .i64 15]) (by simp [results, Tryz.results39, go_sem, q0, q1, q2, q3, q4, q5, q6, q7, q8, q9, q10]; rfl) rfl ⟨rfl, HD2.out.keep s3 (by simp), HV2.out.keep s3 (by simp) (by simp) (by simp), s2⟩
  · have hzb : (r.2 != 0) = true := by simpa [bne] using hz
    have hres : res = (r.1.1, .zero, r.2) := by rw [HR.out]; unfold fetchAns; rw [if_pos hz]
    clear hz
    subst hres
    go_wp2_with fail
    have CS := cells11 HB1a.out HK.out (Nat.le_refl _) (.int .i64 0) (.int .i64 0) (.int .u64 0) (.int .u8 0) (.int .u8 0) (.int .u8 0) (.int .u8 0) (.int .u8 0) (.int .u8 0) (.int .u8 0) (.int .u8 0)
    generalize (((((((((((w1.setCell ⟨w.heap.size, 0, none⟩ (.int .i64 0)).setCell ⟨w.heap.size, 1, none⟩ (.int .i64 0)).setCell ⟨w.heap.size, 2, none⟩ (.int .u64 0)).setCell ⟨w.heap.size, 3, none⟩ (.int .u8 0)).setCell ⟨w.heap.size, 4, none⟩ (.int .u8 0)).setCell ⟨w.heap.size, 5, none⟩ (.int .u8 0)).setCell ⟨w.heap.size, 6, none⟩ (.int .u8 0)).setCell ⟨w.heap.size, 7, none⟩ (.int .u8 0)).setCell ⟨w.heap.size, 8, none⟩ (.int .u8 0)).setCell ⟨w.heap.size, 9, none⟩ (.int .u8 0)).setCell ⟨w.heap.size, 10, none⟩ (.int .u8 0)) = wf at CS ⊢
    obtain ⟨s1, s2, s3⟩ := CS
    have q0 : wf.cell? ⟨w.heap.size, 0, none⟩ = some (.int .i64 0) := s1.cell 0 rfl
    have q1 : wf.cell? ⟨w.heap.size, 1, none⟩ = some (.int .i64 0) := s1.cell 1 rfl
    have q2 : wf.cell? ⟨w.heap.size, 2, none⟩ = some (.int .u64 0) := s1.cell 2 rfl
    have q3 : wf.cell? ⟨w.heap.size, 3, none⟩ = some (.int .u8 0) := s1.cell 3 rfl
    have q4 : wf.cell? ⟨w.heap.size, 4, none⟩ = some (.int .u8 0) := s1.cell 4 rfl
    have q5 : wf.cell? ⟨w.heap.size, 5, none⟩ = some (.int .u8 0) := s1.cell 5 rfl
    have q6 : wf.cell? ⟨w.heap.size, 6, none⟩ = some (.int .u8 0) := s1.cell 6 rfl
    have q7 : wf.cell? ⟨w.heap.size, 7, none⟩ = some (.int .u8 0) := s1.cell 7 rfl
    have q8 : wf.cell? ⟨w.heap.size, 8, none⟩ = some (.int .u8 0) := s1.cell 8 rfl
    have q9 : wf.cell? ⟨w.heap.size, 9, none⟩ = some (.int .u8 0) := s1.cell 9 rfl
    have q10 : wf.cell? ⟨w.heap.size, 10, none⟩ = some (.int .u8 0) := s1.cell 10 rfl
    exact bodyPost_ret (v := .tuple #[entV .zero, .int .i64 r.2]) (by simp [results, Tryz.results39, go_sem, q0, q1, q2, q3, q4, q5, q6, q7, q8, q9, q10]; rfl) rfl ⟨rfl, HD.out.keep s3 (by simp), HV.out.keep s3 (by simp) (by simp) (by simp), s2⟩
end Go.Proofs.YthhcooljjhdjbaaGreat
