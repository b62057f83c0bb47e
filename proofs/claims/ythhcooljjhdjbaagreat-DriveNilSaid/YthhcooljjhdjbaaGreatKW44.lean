/- Contract: an entry is appended: the walk. -/
import Derived.Test.YthhcooljjhdjbaaGreatKW43
import Derived.Test.YthhcooljjhdjbaaGreatKN2
set_option linter.unusedVariables false
set_option linter.unusedSimpArgs false
namespace Go.Proofs.YthhcooljjhdjbaaGreat
open Go.RowKit

theorem vopen {B B' : Nat} {w : World} {vd ad ap : Nat} {v : Drv} {d : Dsk} (h : DrvAt B w vd ad v) (hd : DskAt B' w ad ap d) (hg : d.geo.Ok) (hv : VOk d.geo v) (ex : Int) (hex : ex = -1 ∨ ∃ k : Nat, k < d.geo.bands ∧ ex = k) :
    Calls Tryz.prog 109 #[.pointer (some ⟨vd, 0, none⟩), .int .i64 ex] w fun e w' => e = .returned (.tuple #[.int .i64 (openAns (v.openList d.geo ex) d.geo.band).1, .int .i64 (openAns (v.openList d.geo ex) d.geo.band).2]) ∧ Ext w w' := by
  rcases hex with rfl | ⟨k, hk, rfl⟩
  · have e : v.openList d.geo (-1) = v.bands := by unfold Drv.openList; rw [if_neg (by decide)]
    rw [e]
    exact vopen0 h hd hg hv.ok (-1) (by decide)
  · exact vopen1 h hd hg hv.ok k (by rw [hv.len]; exact hk)
/-- A drive's time is set. -/
theorem DrvIn.setTime {B : Nat} {w : World} {vd ad : Nat} {v : Drv} {eb ce : Nat} {bv : Value} (h : DrvIn B w vd ad v eb ce bv) (t : Int) :
    DrvIn B (w.setCell ⟨vd, 4, none⟩ (.int .u64 t)) vd ad { v with time := t } eb ce bv ∧ Keep B [87] w (w.setCell ⟨vd, 4, none⟩ (.int .u64 t)) := by
  have k : Keep B [87] w (w.setCell ⟨vd, 4, none⟩ (.int .u64 t)) := (Keep.refl _ _ _).set h.blk h.ge (by simp) _ _
  obtain ⟨cur, r⟩ := h.ents
  exact ⟨⟨h.blk.set 4 _, h.ge, ⟨cur, r.keep k (by simp)⟩, h.gee, h.bands.keep k (by simp)⟩, k⟩
theorem encA {B : Nat} {w1 w2 : World} {enc : List UInt8} {g c : Nat} (hl : enc.length = 37) (hown : w2.ownsRow B 5 1 (.slice (some ⟨g, 0, none⟩) 37 c) 37 (enc.map byteV)) (hx : Ext w1 w2) :
    ∃ bo q c', Value.int .i64 0 = .int .i64 0 ∧ Value.pointer (some ⟨w2.heap.size, 0, none⟩) = .pointer (some ⟨bo, 0, none⟩) ∧ Blk (w2.alloc (.cells #[.slice (some ⟨g, 0, none⟩) 37 c] 65)) bo 65 #[.slice (some ⟨q, 0, none⟩) enc.length c'] ∧
      BytesAt (w2.alloc (.cells #[.slice (some ⟨g, 0, none⟩) 37 c] 65)) (.slice (some ⟨q, 0, none⟩) enc.length c') enc ∧ Ext w1 (w2.alloc (.cells #[.slice (some ⟨g, 0, none⟩) 37 c] 65)) := by
  refine ⟨w2.heap.size, g, c, rfl, rfl, ?_, ?_, hx.alloc _⟩
  · rw [hl]; exact Blk.new _ _ _
  · unfold BytesAt; rw [hl]; exact (ownsRow_base hown (Nat.zero_le _)).alloc _
theorem encB {B : Nat} {w1 w2 : World} {enc : List UInt8} {g c b : Nat} (hl : enc.length = 37) (hown : w2.ownsRow B 5 1 (.slice (some ⟨g, 0, none⟩) 37 c) 37 (enc.map byteV)) (fb : Blk w2 b 65 #[.slice none 0 0]) (hb : w1.heap.size ≤ b) (hx : Ext w1 w2) :
    ∃ bo q c', Value.int .i64 0 = .int .i64 0 ∧ Value.pointer (some ⟨b, 0, none⟩) = .pointer (some ⟨bo, 0, none⟩) ∧ Blk (w2.setCell ⟨b, 0, none⟩ (.slice (some ⟨g, 0, none⟩) 37 c)) bo 65 #[.slice (some ⟨q, 0, none⟩) enc.length c'] ∧
      BytesAt (w2.setCell ⟨b, 0, none⟩ (.slice (some ⟨g, 0, none⟩) 37 c)) (.slice (some ⟨q, 0, none⟩) enc.length c') enc ∧ Ext w1 (w2.setCell ⟨b, 0, none⟩ (.slice (some ⟨g, 0, none⟩) 37 c)) := by
  have k : Keep 0 [65] w2 (w2.setCell ⟨b, 0, none⟩ (.slice (some ⟨g, 0, none⟩) 37 c)) := (Keep.refl _ _ _).set fb (Nat.zero_le _) (by simp) _ _
  refine ⟨b, g, c, rfl, rfl, ?_, ?_, hx.set_new hb _ _⟩
  · rw [hl]; exact fb.set 0 _
  · unfold BytesAt; rw [hl]; exact ownsRow_keep (ownsRow_base hown (Nat.zero_le _)) k (by simp)
theorem VOk.time {g : Geo} {v : Drv} (h : VOk g v) (t : Int) : VOk g { v with time := t } := ⟨h.len, h.ok, h.n1, h.nE, h.room, h.none, h.adr, h.inj, h.live⟩
def appTail (v : Drv) (d : Dsk) (x : Ent) (k : Nat) (r : Dsk × Int) : (Drv × Dsk) × Int :=
  if r.2 ≠ 0 then ((v.fail r.2, r.1), r.2) else ((({ v with time := v.stamp }.unlink d.geo x.block.toNat).link d.geo x.block.toNat x.kind x.version k, r.1), 0)
theorem appendRun_eq (v : Drv) (d : Dsk) (x : Ent) (ex : Int) (k : Nat) (ho : openAns (v.openList d.geo ex) d.geo.band = ((k : Int), 0)) :
    appendRun v d x ex = appTail v d x k (d.writeAll v.key ((d.geo.random : Int) + k * d.geo.band + (v.bnd k).used) (encode x v.stamp)) := by
  unfold appendRun appTail
  rw [ho]
  rfl
set_option maxRecDepth 8000 in
set_option maxHeartbeats 8000000 in
theorem vappend {B m : Nat} {w : World} {vd ad ap : Nat} {v : Drv} {d : Dsk} (h : DrvAt B w vd ad v) (hd : DskAt B w ad ap d) (hi : DInv m d) (hm : m + 1 ≤ 60000) (hv : VOk d.geo v) (hB : B ≤ w.heap.size) (x : Ent) (hx : x.Ok) (hxb : x.block < v.entries.length) (ex : Int) (hex : ex = -1 ∨ ∃ k : Nat, k < d.geo.bands ∧ ex = k) :
    Calls Tryz.prog 79 #[.pointer (some ⟨vd, 0, none⟩), entV x, .int .i64 ex] w (AppendPost B w ad ap vd (appendRun v d x ex)) := by
  have hbs := hi.geo.bands
  have hexl : ex < d.geo.bands := by rcases hex with rfl | ⟨k, hk, rfl⟩ <;> omega
  have O := fun w' (hx : Ext w w') => vopen (h.ext hx) (hd.ext hx) hi.geo hv ex hex
  have HSP := Lib.hid (hv.open_spec ex hexl)
  have HRUN := Lib.hid (appendRun_eq v d x ex)
  have HR0 : (openAns (v.openList d.geo ex) d.geo.band).2 ≠ 0 → appendRun v d x ex = ((v, d), (openAns (v.openList d.geo ex) d.geo.band).2) := fun h => by unfold appendRun; rw [if_pos h]
  replace HR0 := Lib.hid HR0
  have HNE := Lib.hid (@openAns_ne (v.openList d.geo ex) d.geo.band)
  have EN := Lib.hid (fun w' => eencode x hx v.stamp w')
  have HENC := Lib.hid (show IsEnc (encode x v.stamp) from ⟨x, v.stamp, hx, by unfold Drv.stamp; rw [IntKind.wrap_u64]; omega, by unfold Drv.stamp; rw [IntKind.wrap_u64]; omega, rfl⟩)
  have HX0 := Lib.hid hx
  generalize encode x v.stamp = enc at *
  generalize openAns (v.openList d.geo ex) d.geo.band = oa at *
  generalize appendRun v d x ex = res at *
  obtain ⟨eb, ce, bw, hdr⟩ := h
  have c4 : w.cell? ⟨vd, 4, none⟩ = some (.int .u64 v.time) := hdr.blk.cell 4 rfl
  have vl := hdr.blk.lt
  have HD := Lib.hid hd
  have HDR := Lib.hid hdr
  have HI := Lib.hid hi
  have HV := Lib.hid hv
  clear hd hdr hi hv hexl
  obtain ⟨kk, bb, vv, l⟩ := x
  obtain ⟨d0, d1, d2, d3, d4, d5, d6, d7, hdl⟩ := len8 hx.len
  have hdl : l = [d0, d1, d2, d3, d4, d5, d6, d7] := hdl
  subst hdl
  have hxb : bb < (v.entries.length : Int) := hxb
  have hb0 : 0 ≤ bb := hx.b0
  clear hx hex
  unfold entV at *
  rw [entCells8] at *
  obtain ⟨W0, hW0⟩ : ∃ W0, W0 = (w.alloc (.cells #[.pointer (some ⟨vd, 0, none⟩)] 22)).alloc (.cells #[.int .i64 kk, .int .i64 bb, .int .u64 vv, .int .u8 (d0.toNat : Int), .int .u8 (d1.toNat : Int), .int .u8 (d2.toNat : Int), .int .u8 (d3.toNat : Int), .int .u8 (d4.toNat : Int), .int .u8 (d5.toNat : Int), .int .u8 (d6.toNat : Int), .int .u8 (d7.toNat : Int)] 89) := ⟨_, rfl⟩
  have hx0 : Ext w W0 := by rw [hW0]; exact ((Ext.refl _).alloc _).alloc _
  have hb1 : Blk W0 w.heap.size 22 #[.pointer (some ⟨vd, 0, none⟩)] := by rw [hW0]; exact (Blk.new _ _ _).alloc _
  have hb2 : Blk W0 (w.heap.size + 1) 89 (entCells ⟨kk, bb, vv, [d0, d1, d2, d3, d4, d5, d6, d7]⟩) := by
    have := Blk.new (w.alloc (.cells #[.pointer (some ⟨vd, 0, none⟩)] 22)) (entCells ⟨kk, bb, vv, [d0, d1, d2, d3, d4, d5, d6, d7]⟩) 89
    rw [World.size_alloc] at this; rw [hW0]; exact this
  have O1 := O W0 hx0
  rw [hW0] at O1
  replace O1 := Lib.hid O1
  have HB1 := Lib.hid hb1
  have HB2 := Lib.hid hb2
  have HXW := Lib.hid hx0
  have HW0 := Lib.hid hW0
  clear hb1 hb2 hx0 hW0 O c4 vl
  go_enter Tryz.func79, Tryz.ntmps79
  go_wp2_with fail
  refine O1.out.mono ?_
  rintro e w1 ⟨rfl, hx1⟩
  have e0 := HW0.out
  rw [← e0] at hx1
  clear e0
  by_cases hz : oa.2 = 0
  · obtain ⟨k, hk, ho1, hu, hkx⟩ := HSP.out hz
    have hoa : oa = ((k : Int), 0) := by rw [← ho1, ← hz]
    subst hoa
    have hrun := HRUN.out k rfl
    have HRN := Lib.hid hrun
    clear hrun hz ho1 HSP HRUN HR0 HNE O1 HW0
    have hb1 := HB1.out.ext hx1
    have hb2 := HB2.out.ext hx1
    have b0 : w1.cell? ⟨w.heap.size, 0, none⟩ = some (.pointer (some ⟨vd, 0, none⟩)) := hb1.cell 0 rfl
    obtain ⟨q0, q1, q2, q3, q4, q5, q6, q7, q8, q9, q10⟩ := entFacts hb2
    have hdr := HDR.out.keep (HXW.out.trans hx1) (by simp) (by simp) (by simp)
    have c4 : w1.cell? ⟨vd, 4, none⟩ = some (.int .u64 v.time) := hdr.blk.cell 4 rfl
    have l1 := hb1.lt
    have l2 := hb2.lt
    have l3 := hdr.blk.lt
    have HX1 := Lib.hid hx1
    clear hb1 hb2 hdr hx1
    unfold Drv.stamp at EN
    go_upto_region 4 with fail
    go_cut [8, 9] (fun s8 s9 wx => ∃ bo q c, s8 = .int .i64 0 ∧ s9 = .pointer (some ⟨bo, 0, none⟩) ∧ Blk wx bo 65 #[.slice (some ⟨q, 0, none⟩) enc.length c] ∧ BytesAt wx (.slice (some ⟨q, 0, none⟩) enc.length c) enc ∧ Ext w1 wx)
    case first =>
      refine wp_noPanic ?_
      go_region_with (go_at_call 110; refine (EN.out _).mono ?_; rintro e w2 ⟨g, c, rfl, hl, hown, hx2⟩; try (have fb : Blk w2 w1.heap.size 65 #[.slice none 0 0] := (Blk.new w1.drew #[.slice none 0 0] 65).ext hx2; have fc : w2.cell? ⟨w1.heap.size, 0, none⟩ = some (.slice none 0 0) := fb.cell 0 rfl; have ff : w2.frozen? ⟨w1.heap.size, 0, none⟩ = false := fb.free 0; have fl := fb.lt))
      all_goals (rw [noPanic_normal]; go_wp2_with fail; go_meet)
      all_goals (case rel => first
        | exact encA hl hown ((Ext.refl w1).drew.trans hx2)
        | exact encB hl hown fb (Nat.le_refl _) (((Ext.refl w1).drew.alloc _).trans hx2))
    case rest =>
      obtain ⟨bo, q, c, rfl, rfl, hbo, hby, hxc⟩ := hcut
      have hw1 : Ext w wc := (HXW.out.trans HX1.out).trans hxc
      have hb1 := (HB1.out.ext HX1.out).ext hxc
      have hb2 := (HB2.out.ext HX1.out).ext hxc
      clear b0 q0 q1 q2 q3 q4 q5 q6 q7 q8 q9 q10 c4 l1 l2 l3
      have b0 : wc.cell? ⟨w.heap.size, 0, none⟩ = some (.pointer (some ⟨vd, 0, none⟩)) := hb1.cell 0 rfl
      have hdr := HDR.out.keep hw1 (by simp) (by simp) (by simp)
      obtain ⟨g, cb, cu, hbv, row⟩ := hdr.bands
      have c0 : wc.cell? ⟨vd, 0, none⟩ = some (.pointer (some ⟨ad, 0, none⟩)) := hdr.blk.cell 0 rfl
      have c3 : wc.cell? ⟨vd, 3, none⟩ = some bw := hdr.blk.cell 3 rfl
      subst hbv
      have hkl : k < v.bands.length := by rw [HV.out.len]; exact hk
      have hkb : v.bands[k]? = some (v.bnd k) := by unfold Drv.bnd; rw [List.getD_eq_getElem?_getD, List.getElem?_eq_getElem hkl]; rfl
      obtain ⟨u0, _, _, _⟩ := row.cells k _ hkb
      have hkl2 : (k : Int) < (v.bands.length : Int) := by omega
      have l1 := cell_lt b0
      have l2 := cell_lt c0
      have l3 := cell_lt u0
      have DG := Lib.hid (fun w' (hx : Ext wc w') => dgeo (HD.out.ext (hw1.trans hx)))
      have SZ := Lib.hid (fun w' (hx : Ext wc w') => vsize (⟨eb, ce, _, HDR.out.keep (hw1.trans hx) (by simp) (by simp) (by simp)⟩ : DrvAt B w' vd ad v) (HD.out.ext (hw1.trans hx)) HI.out.geo)
      obtain ⟨r0, r1, r2⟩ := HV.out.bndOk hk
      have hbd := HI.out.geo.band_le
      have hra := HI.out.geo.random
      have hkb2 : k * d.geo.band ≤ 120 := Nat.le_trans (Nat.mul_le_mul_right _ (Nat.le_of_lt hk)) HI.out.geo.bb_le
      have hp0 : (0 : Int) ≤ (k : Int) * d.geo.band := Int.mul_nonneg (by omega) (by omega)
      have hp1 : (k : Int) * d.geo.band ≤ 120 := by rw [← Int.natCast_mul]; omega
      have hra2 : (d.geo.random : Int) ≤ 120 := by omega
      have hus : (v.bnd k).used ≤ 120 := by omega
      have HBO := Lib.hid hbo
      have HBY := Lib.hid hby
      have HX := Lib.hid hw1
      have HB1c := Lib.hid hb1
      have HB2c := Lib.hid hb2
      clear hbo hby hw1 hb1 hb2 hdr row hkb hxc HX1 HXW HB1 HB2 EN r2 hbd hra hkb2
      unfold geoV at DG
      go_upto_region 7 with fail
      refine wp_region_alloc (by kernel_rfl) 20 1 99 (by rfl) (by kernel_rfl) (fun h => absurd h (by decide)) _ 3 #[.int .i64 0] rfl (fun a w' => by go_simp) rfl ?_
      repeat (
        refine wx_step (fun K hK => ?_)
        first
          | (rw [if_neg (by exact Bool.false_ne_true)]; refine hK _ ?_; clear hK K; simp only [Act.put, List.setIfInBounds_toArray, List.set_cons_succ, List.set_cons_zero])
          | (rw [if_pos (by rfl)]
             refine xx_val (v := ?_) (fun w' hw' => ?_) (hK _ ?_)
             rotate_left
             · obtain ⟨hc', -, hs'⟩ := hw'.facts
               go_simp
               try go_bits
               rfl
             clear hK K
             simp only [Act.put, List.setIfInBounds_toArray, List.set_cons_succ, List.set_cons_zero])
          | (rw [if_pos (by rfl)]
             refine xx_call (v := ?_) (f := ?_) (args := ?_) (fun w' => ?_) (fun w' hw' => ?_) (hK _ ?_)
             rotate_left 3
             · go_simp
               constructor <;> rfl
             · with_reducible exact DG.out _ hw'
             clear hK K
             simp only [Act.put, List.setIfInBounds_toArray, List.set_cons_succ, List.set_cons_zero])
          | (rw [if_pos (by rfl)]
             refine xx_call (v := ?_) (f := ?_) (args := ?_) (fun w' => ?_) (fun w' hw' => ?_) (hK _ ?_)
             rotate_left 3
             · go_simp
               constructor <;> rfl
             · with_reducible exact SZ.out _ hw'
             clear hK K
             simp only [Act.put, List.setIfInBounds_toArray, List.set_cons_succ, List.set_cons_zero]))
      refine wx_nil ?_
      intro ba w3 hx3 hba hage
      simp only [List.drop_succ_cons, List.drop_zero, Act.put, List.setIfInBounds_toArray, List.set_cons_succ, List.set_cons_zero]
      have hb3 := HB1c.out.ext hx3
      have hb4 := HB2c.out.ext hx3
      have hw3 : Ext w w3 := HX.out.trans hx3
      have a0 : w3.cell? ⟨ba, 0, none⟩ = some (.int .i64 0) := hba.cell 0 rfl
      have a1 : w3.frozen? ⟨ba, 0, none⟩ = false := hba.free 0
      have l4 := hba.lt
      have k4 : Keep 0 [3] w3 (w3.setCell ⟨ba, 0, none⟩ (.int .i64 ((d.geo.random : Int) + k * d.geo.band + (v.bnd k).used))) := (Keep.refl _ _ _).set hba (Nat.zero_le _) (by simp) _ _
      have hw4 : Ext w (w3.setCell ⟨ba, 0, none⟩ (.int .i64 ((d.geo.random : Int) + k * d.geo.band + (v.bnd k).used))) := hw3.set_new (Nat.le_trans HX.out.size hage) _ _
      have hA := hba.set 0 (.int .i64 ((d.geo.random : Int) + k * d.geo.band + (v.bnd k).used))
      simp only [List.setIfInBounds_toArray, List.set_cons_zero] at hA
      have hb5 := hb3.keep k4 (by simp)
      have hb6 := hb4.keep k4 (by simp)
      have hbo5 := (HBO.out.ext hx3).keep k4 (by simp)
      have hby5 := BytesAt.keep (BytesAt.keep HBY.out hx3 (by simp)) k4 (by simp)
      have hhas : d.has ((d.geo.random : Int) + k * d.geo.band + (v.bnd k).used) = true := by
        unfold Dsk.has
        have h1 : (k + 1) * d.geo.band ≤ d.geo.bands * d.geo.band := Nat.mul_le_mul_right _ hk
        rw [Nat.add_mul, Nat.one_mul] at h1
        have h2 : ((k : Int) * d.geo.band) = ((k * d.geo.band : Nat) : Int) := by rw [Int.natCast_mul]
        unfold Geo.size
        simp only [Bool.and_eq_true, decide_eq_true_eq]
        rw [h2]; omega
      have AA := Lib.hid (appendAll (w0 := w) (m := m) d _ (HD.out.ext hw4) HI.out (by omega) hhas HENC.out (⟨eb, ce, _, HDR.out.keep hw4 (by simp) (by simp) (by simp)⟩ : DrvAt B _ vd ad v) hb5 hA hbo5 hby5 (Nat.le_trans hB hw4.size))
      have HW := Lib.hid (HI.out.writeAll v.key _ enc hhas HENC.out)
      have HG := Lib.hid (show (d.writeAll v.key ((d.geo.random : Int) + k * d.geo.band + (v.bnd k).used) enc).1.geo = d.geo by
        rcases d.writeAll_cases v.key _ enc hhas (by rw [HENC.out.len]; decide) with ⟨_, s⟩ | ⟨_, s⟩
        · rcases s with s | ⟨_, _, _, _, s⟩
          · exact s.geo
          · exact s.geo
        · exact s.geo)
      have HB5 := Lib.hid hb5
      have HB6 := Lib.hid hb6
      have HX4 := Lib.hid hw4
      have HA5 := Lib.hid hA
      clear hb3 hb4 hw3 k4 hw4 hA hb5 hb6 hbo5 hby5 hhas HB1c HB2c HX HBO HBY b0 c0 c3 u0 l1 l2 l3 DG SZ hx3
      have HPL := Lib.hid (show (d.geo.random : Int) + k * d.geo.band + (v.bnd k).used = (d.geo.random : Int) + k * d.geo.band + (v.bnd k).used from rfl)
      generalize d.writeAll v.key ((d.geo.random : Int) + k * d.geo.band + (v.bnd k).used) enc = r at *
      go_wp2_with fail
      refine AA.out.mono ?_
      rintro e w4 ⟨rfl, hd4, hk4⟩
      have hw5 := (HX4.out.keep B VT).trans (hk4.mono (Nat.le_refl _) (by simp))
      have hb1 := HB5.out.keep hk4 (by simp)
      have hb2 := HB6.out.keep hk4 (by simp)
      have hba := HA5.out.keep hk4 (by simp)
      have hdr := (HDR.out.keep HX4.out (by simp) (by simp) (by simp)).keep hk4 (by simp) (by simp) (by simp)
      have b0 : w4.cell? ⟨w.heap.size, 0, none⟩ = some (.pointer (some ⟨vd, 0, none⟩)) := hb1.cell 0 rfl
      have HD4 := Lib.hid hd4
      have HK4 := Lib.hid hw5
      clear hd4 hw5 hk4 AA HX4 HB5 HB6 HA5
      by_cases hz : r.2 = 0
      · have hzb : (r.2 != 0) = false := by simp [hz]
        obtain ⟨b, rfl⟩ : ∃ b : Nat, bb = (b : Int) := ⟨bb.toNat, by omega⟩
        have hres : res = ((({ v with time := v.stamp }.unlink d.geo b).link d.geo b kk vv k, r.1), 0) := by rw [HRN.out]; unfold appTail; rw [if_neg (fun h => h hz)]; rfl
        have hbl : b < v.entries.length := by omega
        have HB1 := Lib.hid hb1
        have HB2 := Lib.hid hb2
        have HBA := Lib.hid hba
        have HRES := Lib.hid hres
        have c4 : w4.cell? ⟨vd, 4, none⟩ = some (.int .u64 v.time) := hdr.blk.cell 4 rfl
        have f4 : w4.frozen? ⟨vd, 4, none⟩ = false := hdr.blk.free 4
        obtain ⟨hd5, hk5⟩ := hdr.setTime v.stamp
        have VU0 := vunlink (b := b) (⟨eb, ce, _, hd5⟩ : DrvAt B _ vd ad { v with time := v.stamp }) (HD4.out.keep hk5 (by simp)) (by rw [HG.out]; exact HI.out.geo) hbl (by show 1 ≤ v.bands.length; exact HV.out.ok.one) HV.out.ok.most (by
          intro a ha h0
          have ha : (v.at b).address = a := ha
          obtain ⟨f1, f2, f3, f4, f5⟩ := HV.out.facts HI.out.geo (b := b) (by rw [ha]; exact h0)
          rw [ha] at f1 f2 f3 f4 f5
          have h1 := HI.out.geo.size_le
          have h2 := HI.out.geo.band_le
          rw [HG.out]
          refine ⟨f1, by omega, by show _ < v.bands.length; rw [HV.out.len]; exact f3, f4, ?_⟩
          have f5 : (v.bands.getD (d.geo.bandOf a) .zero).live ≤ d.geo.band := f5
          show (v.bands.getD (d.geo.bandOf a) .zero).live ≤ 4096
          omega)
        rw [HG.out] at VU0
        have hvl := HDR.out.blk.lt
        have hn1 : ¬ vd = w.heap.size := by omega
        have hn2 : ¬ w.heap.size = vd := by omega
        have hn3 : ¬ vd = w.heap.size + 1 := by omega
        have hn4 : ¬ w.heap.size + 1 = vd := by omega
        have b1 : w4.cell? ⟨w.heap.size + 1, 1, none⟩ = some (.int .i64 (b : Int)) := hb2.cell 1 rfl
        have VU := Lib.hid VU0
        clear VU0
        have HK5 := Lib.hid (HK4.out.trans (hk5.mono (Nat.le_refl _) (by simp)))
        have HKS := Lib.hid hk5
        have HD5 := Lib.hid (HD4.out.keep hk5 (by simp))
        have HBL := Lib.hid hbl
        clear hb1 hb2 hba hdr hz hd5 hk5 hvl hres hbl
        go_wp2_with fail
        refine VU.out.mono ?_
        rintro e w6 ⟨rfl, hv6, hk6⟩
        obtain ⟨o1, o2, o3, o4⟩ := (HV.out.time v.stamp).unlink HI.out.geo b HBL.out
        have o3 : ∀ j, ((Drv.unlink d.geo { v with time := v.stamp } b).bnd j).used = (v.bnd j).used := o3
        have o4 : (Drv.unlink d.geo { v with time := v.stamp } b).entries.length = v.entries.length := o4
        generalize Drv.unlink d.geo { v with time := v.stamp } b = v2 at *
        have hk6' := HKS.out.mono (Nat.le_refl B) (show [87] ⊆ [87, 84] by simp) |>.trans hk6
        have hb1 := HB1.out.keep hk6' (by simp)
        have hb2 := HB2.out.keep hk6' (by simp)
        have hba := HBA.out.keep hk6' (by simp)
        have hd6 := HD4.out.keep hk6' (by simp)
        have hk7 := HK4.out.trans (hk6'.mono (Nat.le_refl _) (by simp))
        obtain ⟨eb2, ce2, bw2, hdr⟩ := hv6
        obtain ⟨g2, cb2, cu2, hbv2, row2⟩ := hdr.bands
        have c3 : w6.cell? ⟨vd, 3, none⟩ = some bw2 := hdr.blk.cell 3 rfl
        subst hbv2
        clear c4 f4 b1 b0
        have c4 : w6.cell? ⟨vd, 4, none⟩ = some (.int .u64 v2.time) := hdr.blk.cell 4 rfl
        have b0 : w6.cell? ⟨w.heap.size, 0, none⟩ = some (.pointer (some ⟨vd, 0, none⟩)) := hb1.cell 0 rfl
        have l1 := cell_lt b0
        have l2 := cell_lt c3
        have hkl2' : k < v2.bands.length := by rw [o1.len]; exact hk
        have hkb : v2.bands[k] = v2.bnd k := by unfold Drv.bnd; rw [List.getD_eq_getElem?_getD, List.getElem?_eq_getElem hkl2']; rfl
        have hu2 : (v2.bnd k).used < d.geo.band := by rw [o3]; exact hu
        obtain ⟨r4, r5, r6⟩ := o1.bndOk hk
        have hb120 := HI.out.geo.band_le
        have BA := fun w' (hx : Ext w6 w') => bappend (w := w') (v := .slice (some ⟨g2, 0, none⟩) v2.bands.length cb2) ((BandsAt.into ⟨g2, cb2, cu2, rfl, row2⟩).ext hx) o1.ok.one o1.ok.most d.geo.band v2.time k hkl2' (by rw [hkb]; exact hu2) (by omega) (by rw [hkb]; omega) (by rw [hkb]; omega)
        rw [hkb] at BA
        have hl3 : (v2.bands.set k ⟨(v2.bnd k).used + 1, (v2.bnd k).live + 1, v2.time, (v2.bnd k).wear⟩).length = v2.bands.length := by simp
        have HLK := Lib.hid (show v2.link d.geo b kk vv k = { v2 with bands := v2.bands.set k ⟨(v2.bnd k).used + 1, (v2.bnd k).live + 1, v2.time, (v2.bnd k).wear⟩, entries := v2.entries.set b ⟨kk, vv, (d.geo.random : Int) + k * d.geo.band + (v.bnd k).used⟩ } by unfold Drv.link; rw [o3])
        generalize v2.bands.set k ⟨(v2.bnd k).used + 1, (v2.bnd k).live + 1, v2.time, (v2.bnd k).wear⟩ = l3 at *
        have SZ := Lib.hid (fun w' (hx : Ext w6 w') => vsize (⟨eb2, ce2, _, hdr.keep hx (by simp) (by simp) (by simp)⟩ : DrvAt B w' vd ad v2) (hd6.ext hx) (by rw [HG.out]; exact HI.out.geo))
        rw [HG.out] at SZ
        have hkl3 : (k : Int) < (v2.bands.length : Int) := by omega
        have HBA2 := Lib.hid BA
        have HB1 := Lib.hid hb1
        have HB2 := Lib.hid hb2
        have HBA := Lib.hid hba
        have HD6 := Lib.hid hd6
        have HK6 := Lib.hid hk7
        have HDR6 := Lib.hid hdr
        have HO4 := Lib.hid o4
        clear hb1 hb2 hba hd6 hk7 hk6' hdr row2 hk6 o1 o2 o3 o4 BA VU HK5 HKS HD5 hkb r4 r5 r6 hb120 hu2
        go_upto_region 13 with fail
        go_cut [] (fun wx => ∃ bw3, DrvIn B wx vd ad { v2 with bands := l3 } eb2 ce2 bw3 ∧ Keep B [87] w6 wx)
        case first =>
          refine wp_region_call (by kernel_rfl) 12 3 3 15 (by rfl) (by kernel_rfl) _ rfl rfl ?_
          repeat (
            refine wx_step (fun K hK => ?_)
            first
              | (rw [if_neg (by exact Bool.false_ne_true)]; refine hK _ ?_; clear hK K; simp only [Act.put, List.setIfInBounds_toArray, List.set_cons_succ, List.set_cons_zero])
              | (rw [if_pos (by rfl)]
                 refine xx_val (v := ?_) (fun w' hw' => ?_) (hK _ ?_)
                 rotate_left
                 · obtain ⟨hc', -, hs'⟩ := hw'.facts
                   go_simp
                   try go_bits
                   rfl
                 clear hK K
                 simp only [Act.put, List.setIfInBounds_toArray, List.set_cons_succ, List.set_cons_zero])
              | (rw [if_pos (by rfl)]
                 refine xx_call (v := ?_) (f := ?_) (args := ?_) (fun w' => ?_) (fun w' hw' => ?_) (hK _ ?_)
                 rotate_left 3
                 · go_simp
                   constructor <;> rfl
                 · with_reducible exact SZ.out _ hw'
                 clear hK K
                 simp only [Act.put, List.setIfInBounds_toArray, List.set_cons_succ, List.set_cons_zero]))
          refine wx_nil ?_
          refine callStep (F := 113) (fun v w'' => ∃ g' c', v = .tuple #[.slice (some ⟨g', 0, none⟩) l3.length c', .int .i64 0] ∧ BandsAt w'' (.slice (some ⟨g', 0, none⟩) l3.length c') l3) (fun v w1 w2 ⟨g', c', h1, h2⟩ hx => ⟨g', c', h1, h2.keep hx (by simp)⟩) (fun w' => ?_) (fun w' hx => (HBA2.out w' hx).mono fun e w'' ⟨g', c', h1, h2, h3⟩ => ⟨_, h1, ⟨g', c', rfl, h2⟩, h3⟩) ?_
          · go_simp
          rintro v3 w7 ⟨g', c', rfl, _⟩
          simp only [Act.put, List.setIfInBounds_toArray, List.set_cons_succ, List.set_cons_zero, List.drop_succ_cons, List.drop_zero, List.take_succ_cons, List.take_zero]
          repeat (
            refine wx_step (fun K hK => ?_)
            first
              | (rw [if_neg (by exact Bool.false_ne_true)]; refine hK _ ?_; clear hK K; simp only [Act.put, List.setIfInBounds_toArray, List.set_cons_succ, List.set_cons_zero])
              | (rw [if_pos (by rfl)]
                 refine xx_val (v := ?_) (fun w' hw' => ?_) (hK _ ?_)
                 rotate_left
                 · obtain ⟨hc', -, hs'⟩ := hw'.facts
                   go_simp
                   try go_bits
                   rfl
                 clear hK K
                 simp only [Act.put, List.setIfInBounds_toArray, List.set_cons_succ, List.set_cons_zero])
              | (rw [if_pos (by rfl)]
                 refine xf_val (v := ?_) (fun w' => ?_) (hK _ ?_)
                 rotate_left
                 · go_simp
                   rfl
                 clear hK K
                 simp only [Act.put, List.setIfInBounds_toArray, List.set_cons_succ, List.set_cons_zero]))
          refine wx_nil ?_
          rintro w8 hx9 ⟨g'', c'', hv3, hb'⟩
          obtain ⟨hv3, hv4⟩ : g' = g'' ∧ c' = c'' := by simpa using hv3
          subst hv3 hv4
          have H8 := HDR6.out.keep hx9 (by simp) (by simp) (by simp)
          have f3' : w8.frozen? ⟨vd, 3, none⟩ = false := H8.blk.free 3
          have c3'' : w8.cell? ⟨vd, 3, none⟩ = some (.slice (some ⟨g2, 0, none⟩) v2.bands.length cb2) := H8.blk.cell 3 rfl
          have vl' := H8.blk.lt
          have HX9 := Lib.hid hx9
          have HB8 := Lib.hid hb'
          have HH8 := Lib.hid H8
          clear hx9 hb' H8 c3 c4 b0 l1 l2
          go_wp2_with fail
          rw [noPanic_normal]
          go_wp2_with fail
          go_meet
          case rel =>
            obtain ⟨s1, s2⟩ := HH8.out.setBands _ l3 HB8.out
            rw [hl3] at s1 s2
            exact ⟨_, s1, (HX9.out.keep B [87]).trans s2⟩
        case rest =>
          obtain ⟨bw3, hdr7, hk7⟩ := hcut
          clear c3 c4 b0 l1 l2
          have hb1 := HB1.out.keep hk7 (by simp)
          have hb2 := HB2.out.keep hk7 (by simp)
          have hba := HBA.out.keep hk7 (by simp)
          have b0 : wc.cell? ⟨w.heap.size, 0, none⟩ = some (.pointer (some ⟨vd, 0, none⟩)) := hb1.cell 0 rfl
          have p0 : wc.cell? ⟨w.heap.size + 1, 0, none⟩ = some (.int .i64 kk) := hb2.cell 0 rfl
          have p1 : wc.cell? ⟨w.heap.size + 1, 1, none⟩ = some (.int .i64 (b : Int)) := hb2.cell 1 rfl
          have p2 : wc.cell? ⟨w.heap.size + 1, 2, none⟩ = some (.int .u64 vv) := hb2.cell 2 rfl
          have a0 : wc.cell? ⟨ba, 0, none⟩ = some (.int .i64 ((d.geo.random : Int) + k * d.geo.band + (v.bnd k).used)) := hba.cell 0 rfl
          have c2 : wc.cell? ⟨vd, 2, none⟩ = some (.slice (some ⟨eb2, 0, none⟩) v2.entries.length ce2) := hdr7.blk.cell 2 rfl
          have l1 := cell_lt b0
          have l2 := cell_lt p0
          have l3' := cell_lt a0
          have l4' := cell_lt c2
          have hbl2 : (b : Int) < (v2.entries.length : Int) := by rw [HO4.out]; exact hxb
          have HDR7 := Lib.hid hdr7
          have HK7 := Lib.hid hk7
          clear hb1 hb2 hba hdr7 hk7
          go_upto_region 14 with fail
          refine wp_region_tail (by kernel_rfl) 12 2 99 (by rfl) (by kernel_rfl) (fun h => absurd h (by decide)) ?_
          repeat (
            refine wx_step (fun K hK => ?_)
            first
              | (rw [if_neg (by exact Bool.false_ne_true)]; refine hK _ ?_; clear hK K; simp only [Act.put, List.setIfInBounds_toArray, List.set_cons_succ, List.set_cons_zero])
              | (rw [if_pos (by rfl)]
                 refine xx_val (v := ?_) (fun w' hw' => ?_) (hK _ ?_)
                 rotate_left
                 · obtain ⟨hc', -, hs'⟩ := hw'.facts
                   go_simp
                   try go_bits
                   rfl
                 clear hK K
                 simp only [Act.put, List.setIfInBounds_toArray, List.set_cons_succ, List.set_cons_zero]))
          refine wx_nil ?_
          intro w9 hx9
          simp only [List.drop_succ_cons, List.drop_zero]
          have hdr9 := HDR7.out.keep hx9 (by simp) (by simp) (by simp)
          obtain ⟨cur9, row9⟩ := hdr9.ents
          have f0 : w9.frozen? ⟨eb2, b * 3, none⟩ = false := row9.blk.free _
          have f1 : w9.frozen? ⟨eb2, b * 3 + 1, none⟩ = false := row9.blk.free _
          have f2 : w9.frozen? ⟨eb2, b * 3 + 2, none⟩ = false := row9.blk.free _
          have hbl9 : b < v2.entries.length := by omega
          have hat : v2.entries[b]? = some (v2.at b) := v2.at_in b hbl9
          obtain ⟨e0, e1, e2⟩ := row9.cells b _ hat
          have HS := Lib.hid (hdr9.setEntry b ⟨kk, vv, (d.geo.random : Int) + k * d.geo.band + (v.bnd k).used⟩ hbl9)
          have HX9 := Lib.hid hx9
          have HAT := Lib.hid hat
          clear hdr9 row9 hx9 hat b0 p0 p1 p2 a0 c2 l1 l2 l3' l4'
          go_wp2_with fail
          go_ret
          obtain ⟨s1, s2⟩ := HS.out
          have hres := HRES.out
          rw [HLK.out] at hres
          rw [hres]
          have hkk := (HK7.out.mono (Nat.le_refl B) (show [87] ⊆ VT by simp)).trans ((HX9.out.keep B VT).trans (s2.mono (Nat.le_refl B) (show [84] ⊆ VT by simp)))
          exact ⟨rfl, HD6.out.keep ((HK7.out.mono (Nat.le_refl B) (show [87] ⊆ [87, 84] by simp)).trans ((HX9.out.keep B [87, 84]).trans (s2.mono (Nat.le_refl B) (show [84] ⊆ [87, 84] by simp)))) (by simp), ⟨eb2, ce2, _, s1⟩, HK6.out.trans hkk⟩
      · have hzb : (r.2 != 0) = true := by simpa [bne] using hz
        have hres : res = ((v.fail r.2, r.1), r.2) := by rw [HRN.out]; unfold appTail; rw [if_pos hz]
        have VF := Lib.hid (vfail (⟨eb, ce, _, hdr⟩ : DrvAt B w4 vd ad v) r.2)
        clear hb1 hb2 hba hdr hz
        subst hres
        go_wp2_with fail
        refine VF.out.mono ?_
        rintro e w5 ⟨rfl, hv5, hk5⟩
        have HV5 := Lib.hid hv5
        have HK5 := Lib.hid hk5
        clear hv5 hk5 VF
        go_wp2
        go_ret
        exact ⟨rfl, HD4.out.keep HK5.out (by simp), HV5.out, HK4.out.trans (HK5.out.mono (Nat.le_refl _) (by simp))⟩
  · have hoa := HNE.out hz
    have hres := HR0.out hz
    rw [hoa] at hres
    subst hres
    subst hoa
    go_wp2_with fail
    go_ret
    exact ⟨rfl, HD.out.ext (HXW.out.trans hx1), ⟨eb, ce, bw, HDR.out.keep (HXW.out.trans hx1) (by simp) (by simp) (by simp)⟩, (HXW.out.trans hx1).keep _ _⟩
end Go.Proofs.YthhcooljjhdjbaaGreat
