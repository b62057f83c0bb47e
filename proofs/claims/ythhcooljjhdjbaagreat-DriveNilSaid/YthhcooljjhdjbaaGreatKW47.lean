/- Contract: an entry is put while two bands are free. Contracts: the small methods of a drive. -/
import Derived.Test.YthhcooljjhdjbaaGreatKW45
import Derived.Test.YthhcooljjhdjbaaGreatKW44
set_option linter.unusedVariables false
set_option linter.unusedSimpArgs false
namespace Go.Proofs.YthhcooljjhdjbaaGreat
open Go.RowKit

theorem entV8 (k b x : Int) (d0 d1 d2 d3 d4 d5 d6 d7 : UInt8) : entV ⟨k, b, x, [d0, d1, d2, d3, d4, d5, d6, d7]⟩ = entAgg k b x d0 d1 d2 d3 d4 d5 d6 d7 := rfl
theorem putHead_zero {v : Drv} {x : Ent} (h : putHead v x = 0) : v.failed = 0 ∧ (0 ≤ x.block ∧ x.block < v.entries.length) ∧ ¬ (x.version = 0 ∨ x.version < (v.at x.block.toNat).version) := by
  unfold putHead at h
  by_cases h1 : v.failed = 0
  · rw [if_neg (fun h => h h1)] at h
    by_cases h2 : 0 ≤ x.block ∧ x.block < v.entries.length
    · rw [if_neg (fun h => h h2)] at h
      refine ⟨h1, h2, fun h3 => ?_⟩
      rw [if_pos h3] at h; cases h
    · rw [if_pos h2] at h; cases h
  · rw [if_pos h1] at h; exact absurd h h1
set_option maxRecDepth 8000 in
set_option maxHeartbeats 4000000 in
theorem vput0 {B m : Nat} {w : World} {vd ad ap : Nat} {v : Drv} {d : Dsk} (h : DrvAt B w vd ad v) (hd : DskAt B w ad ap d) (hi : DInv m d) (hm : m + 1 ≤ 60000) (hv : VOk d.geo v) (hB : B ≤ w.heap.size)
    (k b x : Int) (d0 d1 d2 d3 d4 d5 d6 d7 : UInt8) (hx : Ent.Ok ⟨k, b, x, [d0, d1, d2, d3, d4, d5, d6, d7]⟩) (he : putHead v ⟨k, b, x, [d0, d1, d2, d3, d4, d5, d6, d7]⟩ = 0) (hfree : 2 ≤ freeN v.bands) :
    Calls Tryz.prog 46 #[.pointer (some ⟨vd, 0, none⟩), entAgg k b x d0 d1 d2 d3 d4 d5 d6 d7] w (AppendPost B w ad ap vd (appendRun v d ⟨k, b, x, [d0, d1, d2, d3, d4, d5, d6, d7]⟩ (-1))) := by
  obtain ⟨W0, hW0⟩ : ∃ W0, W0 = w.alloc (.cells #[.int .i64 k, .int .i64 b, .int .u64 x, .int .u8 (d0.toNat : Int), .int .u8 (d1.toNat : Int), .int .u8 (d2.toNat : Int), .int .u8 (d3.toNat : Int), .int .u8 (d4.toNat : Int), .int .u8 (d5.toNat : Int), .int .u8 (d6.toNat : Int), .int .u8 (d7.toNat : Int)] 89) := ⟨_, rfl⟩
  have hx0 : Ext w W0 := by rw [hW0]; exact (Ext.refl _).alloc _
  have h0 := h.ext hx0
  have S := vstate h0
  have H := vhas h0 b
  have hb2 : Blk W0 w.heap.size 89 (entCells ⟨k, b, x, [d0, d1, d2, d3, d4, d5, d6, d7]⟩) := by rw [hW0]; exact Blk.new _ _ _
  have q1 : W0.cell? ⟨w.heap.size, 1, none⟩ = some (.int .i64 b) := hb2.cell 1 rfl
  have q2 : W0.cell? ⟨w.heap.size, 2, none⟩ = some (.int .u64 x) := hb2.cell 2 rfl
  have HW0 := Lib.hid hW0
  rw [hW0] at S H
  obtain ⟨z1, z2, z3⟩ := putHead_zero he
  have z2 : 0 ≤ b ∧ b < v.entries.length := z2
  have z3 : ¬ (x = 0 ∨ x < (v.at b.toNat).version) := z3
  obtain ⟨n, rfl⟩ : ∃ n : Nat, b = (n : Int) := ⟨b.toNat, by omega⟩
  have hbb : decide (0 ≤ (n : Int) ∧ (n : Int) < v.entries.length) = true := by simpa using z2
  rw [hbb] at H
  rw [z1] at S
  rw [Int.toNat_natCast] at z3
  have hxb : (x == 0) = false := by simp; exact fun h => z3 (.inl h)
  have hxl : decide (x < (v.at n).version) = false := by simp; have := fun h => z3 (.inr h); omega
  have AP := fun w' (hk : Ext w w') => vappend (h.ext hk) (hd.ext hk) hi hm hv (Nat.le_trans hB hk.size) ⟨k, n, x, [d0, d1, d2, d3, d4, d5, d6, d7]⟩ hx z2.2 (-1) (.inl rfl)
  have FR := fun w' (hk : Ext w w') (eb ce : Nat) (bw : Value) (hdr : DrvIn B w vd ad v eb ce bw) => bfree ((hdr.keep hk (by simp) (by simp) (by simp)).bands.into) hv.ok.most
  have hnl : (n : Int) < (v.entries.length : Int) := z2.2
  obtain ⟨eb, ce, bw, hdr0⟩ := h
  have hdr := hdr0.keep hx0 (by simp) (by simp) (by simp)
  obtain ⟨_, e1, _⟩ := hdr.entry n (by omega)
  obtain ⟨g, cb, cu, hbv, row⟩ := hdr0.bands
  subst hbv
  have c2 : W0.cell? ⟨vd, 2, none⟩ = some (.slice (some ⟨eb, 0, none⟩) v.entries.length ce) := hdr.blk.cell 2 rfl
  have c3 : W0.cell? ⟨vd, 3, none⟩ = some (.slice (some ⟨g, 0, none⟩) v.bands.length cb) := hdr.blk.cell 3 rfl
  have l1 := cell_lt q1
  have l2 := cell_lt c2
  have l3 := cell_lt e1
  have HFR := Lib.hid (fun w' (hk : Ext w w') => FR w' hk eb ce _ hdr0)
  have hfb : decide (freeN v.bands < 2) = false := by simp; omega
  have HB2 := Lib.hid hb2
  have HX0 := Lib.hid hx0
  have HAP := Lib.hid AP
  have HXO := Lib.hid hx
  replace S := Lib.hid S
  replace H := Lib.hid H
  generalize (v.at n).version = nv at *
  generalize freeN v.bands = fr at *
  unfold entAgg
  unfold entV at HAP
  rw [entCells8] at HAP
  generalize appendRun v d ⟨k, n, x, [d0, d1, d2, d3, d4, d5, d6, d7]⟩ (-1) = res at *
  clear h0 hb2 hd hi hv hB hx he hfree z1 z2 z3 hbb AP FR row hdr hdr0 hx0 hW0
  go_enter Tryz.func46, Tryz.ntmps46
  go_wp2_with fail
  refine S.out.mono ?_
  rintro e w1 ⟨rfl, rfl⟩
  go_wp2_with fail
  refine H.out.mono ?_
  rintro e w1 ⟨rfl, rfl⟩
  go_wp2_with fail
  have e0 := HW0.out
  rw [← e0]
  clear e0
  go_quiet (fail)
  go_wp2_with fail
  refine wp_loop_once ?_
  go_wp2_with fail
  have hxn : Ext w (W0.drewN nq) := HX0.out.drewN _
  have F := Lib.hid (HFR.out _ hxn)
  have hb3 := HB2.out.drewN nq
  have HXN := Lib.hid hxn
  clear hxn HFR
  refine F.out.mono ?_
  rintro e w2 ⟨rfl, hx2⟩
  have hb4 := hb3.ext hx2
  obtain ⟨p0, p1, p2, p3, p4, p5, p6, p7, p8, p9, p10⟩ := entFacts hb4
  have hx3 := HXN.out.trans hx2
  have AP := Lib.hid (HAP.out w2 hx3)
  have HX3 := Lib.hid hx3
  clear hb3 hb4 hx2 hx3 F HAP q1 q2 c2 c3 e1 l1 l2 l3
  go_wp2_with fail
  refine AP.out.mono ?_
  rintro e w3 ⟨rfl, a1, a2, a3⟩
  have HA := Lib.hid (And.intro a1 (And.intro a2 (HX3.out.keep B VT |>.trans a3)))
  clear a1 a2 a3 AP
  go_wp2
  go_ret
  exact ⟨rfl, HA.out⟩
end Go.Proofs.YthhcooljjhdjbaaGreat
namespace Go.Proofs.YthhcooljjhdjbaaGreat
open Go.RowKit

def Told (R : Int → World → Prop) (e : Ending) (w : World) : Prop := ∃ r, e = .returned (.int .i64 r) ∧ R r w
set_option maxRecDepth 8000 in
set_option maxHeartbeats 1000000 in
theorem vwrite (v : Value) (n x : Int) (d0 d1 d2 d3 d4 d5 d6 d7 : UInt8) (w : World) (R : Int → World → Prop)
    (h : ∀ w', Ext w w' → Calls Tryz.prog 46 #[v, entAgg 1 n x d0 d1 d2 d3 d4 d5 d6 d7] w' (Told R)) :
    Calls Tryz.prog 19 #[v, .int .i64 n, .int .u64 x, .agg #[.int .u8 (d0.toNat : Int), .int .u8 (d1.toNat : Int), .int .u8 (d2.toNat : Int), .int .u8 (d3.toNat : Int), .int .u8 (d4.toNat : Int), .int .u8 (d5.toNat : Int), .int .u8 (d6.toNat : Int), .int .u8 (d7.toNat : Int)]] w (Told R) := by
  have H := Lib.hid (h _ ((Ext.refl w).alloc (.cells #[.int .u8 (d0.toNat : Int), .int .u8 (d1.toNat : Int), .int .u8 (d2.toNat : Int), .int .u8 (d3.toNat : Int), .int .u8 (d4.toNat : Int), .int .u8 (d5.toNat : Int), .int .u8 (d6.toNat : Int), .int .u8 (d7.toNat : Int)] 27)))
  unfold entAgg at H
  clear h
  go_enter Tryz.func19, Tryz.ntmps19
  go_wp2_with fail
  refine H.out.mono ?_
  rintro e w1 ⟨r, rfl, hr⟩
  have HR := Lib.hid hr
  clear hr H
  go_wp2
  go_ret
  exact ⟨r, rfl, HR.out⟩
set_option maxRecDepth 8000 in
set_option maxHeartbeats 1000000 in
theorem vtrim (v : Value) (n x : Int) (w : World) (R : Int → World → Prop)
    (h : Calls Tryz.prog 46 #[v, entAgg 2 n x 0 0 0 0 0 0 0 0] w (Told R)) :
    Calls Tryz.prog 20 #[v, .int .i64 n, .int .u64 x] w (Told R) := by
  have H : Hid (Calls Tryz.prog 46 #[v, .agg #[.int .i64 2, .int .i64 n, .int .u64 x, .int .u8 0, .int .u8 0, .int .u8 0, .int .u8 0, .int .u8 0, .int .u8 0, .int .u8 0, .int .u8 0]] w (Told R)) := Lib.hid h
  clear h
  go_enter Tryz.func20, Tryz.ntmps20
  go_wp2_with fail
  refine H.out.mono ?_
  rintro e w1 ⟨r, rfl, hr⟩
  have HR := Lib.hid hr
  clear hr H
  go_wp2
  go_ret
  exact ⟨r, rfl, HR.out⟩
def zeroBlock : Value := .agg #[.int .u8 0, .int .u8 0, .int .u8 0, .int .u8 0, .int .u8 0, .int .u8 0, .int .u8 0, .int .u8 0]
theorem vblocks_nil (w : World) : Calls Tryz.prog 17 #[.pointer none] w fun e w' => e = .returned (.int .i64 0) ∧ w' = w := by
  go_enter Tryz.func17, Tryz.ntmps17
  go_wp2
  go_ret
  exact ⟨rfl, rfl⟩
theorem vinfo_nil (w : World) : Calls Tryz.prog 18 #[.pointer none] w fun e w' => e = .returned (.slice none 0 0) ∧ w' = w := by
  go_enter Tryz.func18, Tryz.ntmps18
  go_wp2
  go_ret
  exact ⟨rfl, rfl⟩
theorem vversion_nil (n : Int) (w : World) : Calls Tryz.prog 13 #[.pointer none, .int .i64 n] w fun e w' => e = .returned (.tuple #[.int .u64 0, .bool false]) ∧ w' = w := by
  go_enter Tryz.func13, Tryz.ntmps13
  go_wp2
  go_ret2
  exact ⟨rfl, rfl⟩
theorem vflush_nil (w : World) : Calls Tryz.prog 21 #[.pointer none] w fun e w' => e = .returned (.int .i64 8) ∧ Ext w w' := by
  have S := fun w => vstate_nil w
  go_enter Tryz.func21, Tryz.ntmps21
  go_wp2_with fail
  refine (S _).mono ?_
  rintro e w1 ⟨rfl, rfl⟩
  go_wp2
  go_ret
  exact ⟨rfl, (Ext.refl _).alloc _⟩
theorem vclean_nil (w : World) : Calls Tryz.prog 15 #[.pointer none] w fun e w' => e = .returned (.tuple #[.int .i64 0, .int .i64 8]) ∧ Ext w w' := by
  have S := fun w => vstate_nil w
  go_enter Tryz.func15, Tryz.ntmps15
  go_wp2_with fail
  refine (S _).mono ?_
  rintro e w1 ⟨rfl, rfl⟩
  go_wp2
  go_ret2
  exact ⟨rfl, Ext.refl _⟩
end Go.Proofs.YthhcooljjhdjbaaGreat
