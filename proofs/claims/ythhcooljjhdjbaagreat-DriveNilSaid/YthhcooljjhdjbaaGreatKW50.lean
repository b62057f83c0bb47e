/- The example of the document holds. The methods of a nil drive return the specified results: the walk. -/
import Derived.Test.YthhcooljjhdjbaaGreatKP3
import Derived.Test.YthhcooljjhdjbaaGreatKW17
set_option linter.unusedVariables false
set_option linter.unusedSimpArgs false
namespace Go.Proofs.YthhcooljjhdjbaaGreat
open Go.RowKit

theorem aGeo : aD.geo = g5 := rfl
theorem aI0 : DInv 0 aD := DInv.new g5Ok [] (by decide) (fun f hf => by cases hf) Pow.new
theorem aI1 : DInv 64 aN.1 ∧ aN.1.geo = g5 := by
  obtain ⟨a, b⟩ := newRun_ok aI0 0 4
  exact ⟨a, b⟩
theorem aV1 : VOk g5 aV := VOk.new g5 g5Ok 0 4 (by decide) (by decide)
theorem aI2 : VOk g5 aA.1.1 ∧ DInv 65 aA.1.2 ∧ aA.1.2.geo = g5 := by
  have h : VOk aN.1.geo aV := by rw [aI1.2]; exact aV1
  obtain ⟨a, b, c⟩ := append_ok aI1.1 h x1 x1Ok (by decide) (-1) (by rw [aI1.2]; decide)
  rw [aI1.2] at a c
  exact ⟨a, b, c⟩
theorem aI3 : VOk g5 aR.1.1 ∧ DInv 65 aR.1.2 ∧ aR.1.2.geo = g5 := by
  obtain ⟨h1, h2, h3⟩ := aI2
  obtain ⟨a, b, c⟩ := read_ok h2 (by rw [h3]; exact h1) 1
  rw [h3] at a c
  exact ⟨a, b, c⟩
theorem aL3 : aR.1.1.entries.length = 4 := by kernel_rfl
theorem aI4 : VOk g5 aB.1.1 ∧ DInv 66 aB.1.2 ∧ aB.1.2.geo = g5 := by
  obtain ⟨h1, h2, h3⟩ := aI3
  obtain ⟨a, b, c⟩ := append_ok h2 (by rw [h3]; exact h1) x2 x2Ok (by rw [aL3]; decide) (-1) (by rw [h3]; decide)
  rw [h3] at a c
  exact ⟨a, b, c⟩
/-- What the walk needs to know of the example. -/
structure Example (N : Dsk × Option Drv × Int) (V : Drv) (A : (Drv × Dsk) × Int) (R : (Drv × Dsk) × Int × List UInt8 × Int) (B : (Drv × Dsk) × Int) (S : (Drv × Dsk) × Int × List UInt8 × Int) : Prop where
  n : newRun aD 0 4 = N
  a : appendRun V N.1 ⟨1, 1, 5, [7, 0, 0, 0, 0, 0, 0, 0]⟩ (-1) = A
  r : readRun A.1.1 A.1.2 1 = R
  b : appendRun R.1.1 R.1.2 ⟨2, 1, 6, [0, 0, 0, 0, 0, 0, 0, 0]⟩ (-1) = B
  s : readRun B.1.1 B.1.2 1 = S
  n2 : N.2 = (some V, 0)
  a2 : A.2 = 0
  r2 : R.2 = (5, [7, 0, 0, 0, 0, 0, 0, 0], 0)
  b2 : B.2 = 0
  s2 : S.2 = (0, zero8, 9)
  h1 : putHead V ⟨1, 1, 5, [7, 0, 0, 0, 0, 0, 0, 0]⟩ = 0
  h2 : putHead R.1.1 ⟨1, 1, 4, [0, 0, 0, 0, 0, 0, 0, 0]⟩ = 1
  h3 : putHead R.1.1 ⟨2, 1, 6, [0, 0, 0, 0, 0, 0, 0, 0]⟩ = 0
  f1 : 2 ≤ freeN V.bands
  f2 : 2 ≤ freeN R.1.1.bands
  v1 : VOk N.1.geo V
  v3 : VOk R.1.2.geo R.1.1
  i1 : DInv 64 N.1
  i2 : DInv 65 A.1.2
  i3 : DInv 65 R.1.2
  i4 : DInv 66 B.1.2
theorem anExample : Example aN aV aA aR aB aS :=
  ⟨rfl, rfl, rfl, rfl, rfl, aN2, aA2, aR2, aB2, aS2, aH1, aH2, aH3, by rw [aF1]; decide, by rw [aF2]; decide, by rw [aI1.2]; exact aV1, by rw [aI3.2.2]; exact aI3.1, aI1.1, aI2.2.1, aI3.2.1, aI4.2.1⟩
set_option maxRecDepth 8000 in
set_option maxHeartbeats 8000000 in
theorem awakeWalk {N : Dsk × Option Drv × Int} {V : Drv} {A : (Drv × Dsk) × Int} {R : (Drv × Dsk) × Int × List UInt8 × Int} {B : (Drv × Dsk) × Int} {S : (Drv × Dsk) × Int × List UInt8 × Int} (E : Example N V A R B S) (w : World) :
    Calls Tryz.prog 16 #[] w fun e w' => e = .returned (.bool true) ∧ Ext w w' := by
  have PN := pnew w
  have heq : ∀ w, (Op.equalIn 10000 27 (.agg #[.int .u8 7, .int .u8 0, .int .u8 0, .int .u8 0, .int .u8 0, .int .u8 0, .int .u8 0, .int .u8 0]) (.agg #[.int .u8 7, .int .u8 0, .int .u8 0, .int .u8 0, .int .u8 0, .int .u8 0, .int .u8 0, .int .u8 0])).run Tryz.prog w = .ok true w := fun w => run_eq27 9998 [7, 0, 0, 0, 0, 0, 0, 0] [7, 0, 0, 0, 0, 0, 0, 0] w rfl rfl
  have HEQ := Lib.hid heq
  have HE := Lib.hid E
  clear heq E
  go_enter Tryz.func16, Tryz.ntmps16
  go_wp2_with fail
  refine PN.mono ?_
  rintro e w1 ⟨ap, rfl, hp, hx1, hap⟩
  have DN : Calls Tryz.prog 44 #[.agg #[.int .i64 0, .int .i64 5, .int .i64 2, .int .i64 4, .int .i64 1], .slice none 0 0, .pointer (some ⟨ap, 0, none⟩)] w1 (DnewPost w.heap.size w1 ap aD) :=
    dnew (B := w.heap.size) g5 g5Ok (v := .slice none 0 0) (l := []) (.inl ⟨rfl, rfl⟩) (fun i f h => by simp at h) (by decide) hp (by omega) hx1.size
  have HDN := Lib.hid DN
  have HX1 := Lib.hid hx1
  clear DN hp hx1 PN hap
  go_wp2_with fail
  refine HDN.out.mono ?_
  rintro e w2 ⟨ad, rfl, hd2, hx2, _⟩
  have hw2 : Ext w w2 := HX1.out.trans hx2
  have NW : Calls Tryz.prog 34 #[.pointer (some ⟨ad, 0, none⟩), .int .u64 0, .int .i64 4] w2 (NewPost w.heap.size w2 ad ap N) := by
    rw [← HE.out.n]
    exact vnew hd2 aI0 (by decide) hw2.size 0 4 (by decide) (by decide)
  have HNW := Lib.hid NW
  have HX2 := Lib.hid hw2
  clear NW hd2 hx2 hw2 HX1 HDN
  go_wp2_with fail
  refine HNW.out.mono ?_
  rintro e w3 ⟨pv, rfl, hd3, hv3, hk3⟩
  rw [HE.out.n2] at hv3 ⊢
  obtain ⟨vd, rfl, hv3⟩ := hv3
  have hv3 := hv3.base (B' := w.heap.size) HX2.out.size
  have hw3 : Keep w.heap.size VT w w3 := (HX2.out.keep _ VT).trans (hk3.mono (Nat.le_refl _) (by simp))
  have WR : Calls Tryz.prog 19 #[.pointer (some ⟨vd, 0, none⟩), .int .i64 1, .int .u64 5, .agg #[.int .u8 7, .int .u8 0, .int .u8 0, .int .u8 0, .int .u8 0, .int .u8 0, .int .u8 0, .int .u8 0]] w3
      (Told fun r w' => r = 0 ∧ DskAt w.heap.size w' ad ap A.1.2 ∧ DrvAt w.heap.size w' vd ad A.1.1 ∧ Keep w.heap.size VT w w') :=
    vwrite (.pointer (some ⟨vd, 0, none⟩)) 1 5 7 0 0 0 0 0 0 0 w3 _ (fun w' hx => (vput0 (m := 64) (hv3.ext hx) (hd3.ext hx) HE.out.i1 (by decide) HE.out.v1 (Nat.le_trans hw3.size hx.size) 1 1 5 7 0 0 0 0 0 0 0 x1Ok HE.out.h1 HE.out.f1).mono
      fun e w'' ⟨h1, h2, h3, h4⟩ => by rw [HE.out.a] at h1 h2 h3; exact ⟨_, h1, HE.out.a2, h2, h3, (hw3.trans (hx.keep _ _)).trans h4⟩)
  have HWR := Lib.hid WR
  clear WR hd3 hv3 hw3 hk3 HX2 HNW
  go_wp2_with fail
  refine HWR.out.mono ?_
  rintro e w4 ⟨_, rfl, rfl, hd4, hv4, hw4⟩
  have RD : Calls Tryz.prog 14 #[.pointer (some ⟨vd, 0, none⟩), .int .i64 1] w4 (VReadPost w.heap.size w4 ad ap vd R) := by
    rw [← HE.out.r]
    exact vread hv4 hd4 HE.out.i2 (by decide) hw4.size 1
  have HRD := Lib.hid RD
  have HW4 := Lib.hid hw4
  clear RD hd4 hv4 hw4 HWR
  go_wp2_with fail
  refine HRD.out.mono ?_
  rintro e w5 ⟨he, hd5, hv5, hk5⟩
  rw [HE.out.r2] at he
  have he : e = .returned (.tuple #[.int .u64 5, .agg #[.int .u8 7, .int .u8 0, .int .u8 0, .int .u8 0, .int .u8 0, .int .u8 0, .int .u8 0, .int .u8 0], .int .i64 0]) := he
  subst he
  have hx6 : Ext w5 (w5.alloc (.cells #[.int .u8 7, .int .u8 0, .int .u8 0, .int .u8 0, .int .u8 0, .int .u8 0, .int .u8 0, .int .u8 0] 27)) := (Ext.refl _).alloc _
  have hb6 : Blk (w5.alloc (.cells #[.int .u8 7, .int .u8 0, .int .u8 0, .int .u8 0, .int .u8 0, .int .u8 0, .int .u8 0, .int .u8 0] 27)) w5.heap.size 27 #[.int .u8 7, .int .u8 0, .int .u8 0, .int .u8 0, .int .u8 0, .int .u8 0, .int .u8 0, .int .u8 0] := Blk.new _ _ _
  have hw6 : Keep w.heap.size VT w (w5.alloc (.cells #[.int .u8 7, .int .u8 0, .int .u8 0, .int .u8 0, .int .u8 0, .int .u8 0, .int .u8 0, .int .u8 0] 27)) := (HW4.out.trans hk5).trans (hx6.keep _ _)
  have WR : Calls Tryz.prog 19 #[.pointer (some ⟨vd, 0, none⟩), .int .i64 1, .int .u64 4, .agg #[.int .u8 0, .int .u8 0, .int .u8 0, .int .u8 0, .int .u8 0, .int .u8 0, .int .u8 0, .int .u8 0]] (w5.alloc (.cells #[.int .u8 7, .int .u8 0, .int .u8 0, .int .u8 0, .int .u8 0, .int .u8 0, .int .u8 0, .int .u8 0] 27))
      (Told fun r w' => r = 1 ∧ Ext (w5.alloc (.cells #[.int .u8 7, .int .u8 0, .int .u8 0, .int .u8 0, .int .u8 0, .int .u8 0, .int .u8 0, .int .u8 0] 27)) w') :=
    vwrite (.pointer (some ⟨vd, 0, none⟩)) 1 4 0 0 0 0 0 0 0 0 _ _ (fun w' hx => (vputErr ((hv5.ext hx6).ext hx) 1 1 4 0 0 0 0 0 0 0 0 (by rw [HE.out.h2]; decide)).mono
      fun e w'' ⟨h1, h2⟩ => by rw [HE.out.h2] at h1; exact ⟨1, h1, rfl, hx.trans h2⟩)
  have HWR := Lib.hid WR
  have HB6 := Lib.hid hb6
  have HW6 := Lib.hid hw6
  have HD6 := Lib.hid (hd5.ext hx6)
  have HV6 := Lib.hid (hv5.ext hx6)
  clear WR hb6 hw6 hx6 hd5 hv5 hk5 HW4 HRD
  go_wp2_with fail
  refine HWR.out.mono ?_
  rintro e w6 ⟨_, rfl, rfl, hx7⟩
  have hw7 := HW6.out.trans (hx7.keep w.heap.size VT)
  have TR : Calls Tryz.prog 20 #[.pointer (some ⟨vd, 0, none⟩), .int .i64 1, .int .u64 6] w6
      (Told fun r w' => r = 0 ∧ DskAt w.heap.size w' ad ap B.1.2 ∧ DrvAt w.heap.size w' vd ad B.1.1 ∧ Keep w.heap.size VT w6 w') :=
    vtrim (.pointer (some ⟨vd, 0, none⟩)) 1 6 w6 _ ((vput0 (m := 65) (HV6.out.ext hx7) (HD6.out.ext hx7) HE.out.i3 (by decide) HE.out.v3 hw7.size 2 1 6 0 0 0 0 0 0 0 0 x2Ok HE.out.h3 HE.out.f2).mono
      fun e w'' ⟨h1, h2, h3, h4⟩ => by rw [HE.out.b] at h1 h2 h3; exact ⟨_, h1, HE.out.b2, h2, h3, h4⟩)
  have HTR := Lib.hid TR
  have HB7 := Lib.hid (HB6.out.ext hx7)
  have HW7 := Lib.hid hw7
  clear TR hx7 hw7 HB6 HW6 HD6 HV6 HWR
  go_wp2_with fail
  refine HTR.out.mono ?_
  rintro e w7 ⟨_, rfl, rfl, hd8, hv8, hk8⟩
  have hw8 := HW7.out.trans hk8
  have RD : Calls Tryz.prog 14 #[.pointer (some ⟨vd, 0, none⟩), .int .i64 1] w7 (VReadPost w.heap.size w7 ad ap vd S) := by
    rw [← HE.out.s]
    exact vread hv8 hd8 HE.out.i4 (by decide) hw8.size 1
  have HRD := Lib.hid RD
  have HB8 := Lib.hid (HB7.out.keep hk8 (by simp))
  have HW8 := Lib.hid hw8
  clear RD hd8 hv8 hk8 hw8 HB7 HW7 HTR
  go_wp2_with fail
  refine HRD.out.mono ?_
  rintro e w8 ⟨he, _, _, hk9⟩
  rw [HE.out.s2] at he
  have he : e = .returned (.tuple #[.int .u64 0, .agg #[.int .u8 0, .int .u8 0, .int .u8 0, .int .u8 0, .int .u8 0, .int .u8 0, .int .u8 0, .int .u8 0], .int .i64 9]) := he
  subst he
  have hb9 := HB8.out.keep hk9 (by simp)
  have c0 : w8.cell? ⟨w5.heap.size, 0, none⟩ = some (.int .u8 7) := hb9.cell 0 rfl
  have c1 : w8.cell? ⟨w5.heap.size, 1, none⟩ = some (.int .u8 0) := hb9.cell 1 rfl
  have c2 : w8.cell? ⟨w5.heap.size, 2, none⟩ = some (.int .u8 0) := hb9.cell 2 rfl
  have c3 : w8.cell? ⟨w5.heap.size, 3, none⟩ = some (.int .u8 0) := hb9.cell 3 rfl
  have c4 : w8.cell? ⟨w5.heap.size, 4, none⟩ = some (.int .u8 0) := hb9.cell 4 rfl
  have c5 : w8.cell? ⟨w5.heap.size, 5, none⟩ = some (.int .u8 0) := hb9.cell 5 rfl
  have c6 : w8.cell? ⟨w5.heap.size, 6, none⟩ = some (.int .u8 0) := hb9.cell 6 rfl
  have c7 : w8.cell? ⟨w5.heap.size, 7, none⟩ = some (.int .u8 0) := hb9.cell 7 rfl
  have bl := hb9.lt
  have HW9 := Lib.hid (HW8.out.trans hk9)
  have heq := HEQ.out
  clear hb9 hk9 HB8 HW8 HRD HEQ HE
  go_wp2_with fail
  go_ret
  exact ⟨rfl, (Ext.of_below (HW9.out.below (Nat.le_refl _))).alloc _⟩
end Go.Proofs.YthhcooljjhdjbaaGreat
namespace Go.Proofs.YthhcooljjhdjbaaGreat
open Go.RowKit

set_option maxRecDepth 8000 in
set_option maxHeartbeats 4000000 in
theorem driveNil_walk (n : Int) (w : World) : Calls Tryz.prog 3 #[.int .i64 n] w fun e w' => e = .returned (.bool true) ∧ Ext w w' := by
  have V1 := Lib.hid (fun w => vversion_nil n w)
  have V2 := Lib.hid (fun w => vread_nil n w)
  have V3 := Lib.hid vclean_nil
  have V4 := Lib.hid (fun w => awakeWalk anExample w)
  have V5 := Lib.hid vblocks_nil
  have V6 := Lib.hid vinfo_nil
  have V7 : Hid (∀ w, Calls Tryz.prog 19 #[.pointer none, .int .i64 n, .int .u64 1, .agg #[.int .u8 0, .int .u8 0, .int .u8 0, .int .u8 0, .int .u8 0, .int .u8 0, .int .u8 0, .int .u8 0]] w (Told fun r w' => r = 8 ∧ Ext w w')) :=
    Lib.hid (fun w => vwrite (.pointer none) n 1 0 0 0 0 0 0 0 0 w _ (fun w' hx => (vput_nil w' 1 n 1 0 0 0 0 0 0 0 0).mono fun e w'' ⟨h1, h2⟩ => ⟨8, h1, rfl, hx.trans h2⟩))
  have V8 : Hid (∀ w, Calls Tryz.prog 20 #[.pointer none, .int .i64 n, .int .u64 1] w (Told fun r w' => r = 8 ∧ Ext w w')) :=
    Lib.hid (fun w => vtrim (.pointer none) n 1 w _ ((vput_nil w 2 n 1 0 0 0 0 0 0 0 0).mono fun e w'' ⟨h1, h2⟩ => ⟨8, h1, rfl, h2⟩))
  have V9 := Lib.hid vflush_nil
  go_enter Tryz.func3, Tryz.ntmps3
  go_wp2_with fail
  refine (V1.out _).mono ?_
  rintro e w1 ⟨rfl, rfl⟩
  go_wp2_with fail
  refine (V2.out _).mono ?_
  rintro e w2 ⟨rfl, hx2⟩
  have HX2 := Lib.hid (hx2.alloc (.cells #[.int .u8 0, .int .u8 0, .int .u8 0, .int .u8 0, .int .u8 0, .int .u8 0, .int .u8 0, .int .u8 0] 27))
  clear hx2
  go_wp2_with fail
  refine (V3.out _).mono ?_
  rintro e w3 ⟨rfl, hx3⟩
  have HX3 := Lib.hid (HX2.out.trans hx3)
  clear hx3
  go_wp2_with fail
  refine (V4.out _).mono ?_
  rintro e w4 ⟨rfl, hx4⟩
  have HX4 := Lib.hid (HX3.out.trans hx4)
  clear hx4
  go_wp2_with fail
  refine (V5.out _).mono ?_
  rintro e w5 ⟨rfl, rfl⟩
  go_wp2_with fail
  refine (V6.out _).mono ?_
  rintro e w5 ⟨rfl, rfl⟩
  go_wp2_with fail
  refine (V7.out _).mono ?_
  rintro e w6 ⟨_, rfl, rfl, hx6⟩
  have HX6 := Lib.hid (HX4.out.trans hx6)
  clear hx6
  go_wp2_with fail
  refine (V8.out _).mono ?_
  rintro e w7 ⟨_, rfl, rfl, hx7⟩
  have HX7 := Lib.hid (HX6.out.trans hx7)
  clear hx7
  go_wp2_with fail
  refine (V9.out _).mono ?_
  rintro e w8 ⟨rfl, hx8⟩
  have HX8 := Lib.hid (HX7.out.trans hx8)
  clear hx8
  go_wp2_with fail
  go_ret
  exact ⟨rfl, HX8.out⟩
end Go.Proofs.YthhcooljjhdjbaaGreat
