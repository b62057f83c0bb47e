/- Contract: a block is read. -/
import Derived.Test.YthhcooljjhdjbaaGreatKW47
set_option linter.unusedVariables false
set_option linter.unusedSimpArgs false
namespace Go.Proofs.YthhcooljjhdjbaaGreat
open Go.RowKit

theorem cells8 {B : Nat} {Ts : List TypeId} {w w1 : World} {q : Nat} {z0 z1 z2 z3 z4 z5 z6 z7 : Value} (hb : Blk w1 q 27 #[z0, z1, z2, z3, z4, z5, z6, z7]) (hk : Keep B Ts w w1) (hq : w.heap.size ≤ q) (x0 x1 x2 x3 x4 x5 x6 x7 : Value) :
    Blk ((((((((w1.setCell ⟨q, 0, none⟩ x0).setCell ⟨q, 1, none⟩ x1).setCell ⟨q, 2, none⟩ x2).setCell ⟨q, 3, none⟩ x3).setCell ⟨q, 4, none⟩ x4).setCell ⟨q, 5, none⟩ x5).setCell ⟨q, 6, none⟩ x6).setCell ⟨q, 7, none⟩ x7) q 27 #[x0, x1, x2, x3, x4, x5, x6, x7] ∧ Keep B Ts w ((((((((w1.setCell ⟨q, 0, none⟩ x0).setCell ⟨q, 1, none⟩ x1).setCell ⟨q, 2, none⟩ x2).setCell ⟨q, 3, none⟩ x3).setCell ⟨q, 4, none⟩ x4).setCell ⟨q, 5, none⟩ x5).setCell ⟨q, 6, none⟩ x6).setCell ⟨q, 7, none⟩ x7) ∧ Keep 0 [27] w1 ((((((((w1.setCell ⟨q, 0, none⟩ x0).setCell ⟨q, 1, none⟩ x1).setCell ⟨q, 2, none⟩ x2).setCell ⟨q, 3, none⟩ x3).setCell ⟨q, 4, none⟩ x4).setCell ⟨q, 5, none⟩ x5).setCell ⟨q, 6, none⟩ x6).setCell ⟨q, 7, none⟩ x7) := by
  refine ⟨?_, ?_, ?_⟩
  · have := ((((((((hb.set 0 x0).set 1 x1).set 2 x2).set 3 x3).set 4 x4).set 5 x5).set 6 x6).set 7 x7)
    simp only [List.setIfInBounds_toArray, List.set_cons_succ, List.set_cons_zero] at this
    exact this
  · exact (Keep.set_new (Keep.set_new (Keep.set_new (Keep.set_new (Keep.set_new (Keep.set_new (Keep.set_new (Keep.set_new hk hq 0 _) hq 1 _) hq 2 _) hq 3 _) hq 4 _) hq 5 _) hq 6 _) hq 7 _)
  · have b0 := hb
    have b1 := b0.set 0 x0
    have b2 := b1.set 1 x1
    have b3 := b2.set 2 x2
    have b4 := b3.set 3 x3
    have b5 := b4.set 4 x4
    have b6 := b5.set 5 x5
    have b7 := b6.set 6 x6
    have b8 := b7.set 7 x7
    exact (((((((((Keep.refl 0 [27] w1).set b0 (Nat.zero_le _) (by simp) 0 x0).set b1 (Nat.zero_le _) (by simp) 1 x1).set b2 (Nat.zero_le _) (by simp) 2 x2).set b3 (Nat.zero_le _) (by simp) 3 x3).set b4 (Nat.zero_le _) (by simp) 4 x4).set b5 (Nat.zero_le _) (by simp) 5 x5).set b6 (Nat.zero_le _) (by simp) 6 x6).set b7 (Nat.zero_le _) (by simp) 7 x7)
def readFetch (v : Drv) (r : Dsk × Ent × Int) : (Drv × Dsk) × Int × List UInt8 × Int :=
  if r.2.2 = 0 then ((v, r.1), r.2.1.version, r.2.1.data, 0) else
  if r.2.2 = 15 ∨ r.2.2 = 16 then ((v, r.1), 0, zero8, 15) else ((v.fail r.2.2, r.1), 0, zero8, r.2.2)
def readRun (v : Drv) (d : Dsk) (n : Int) : (Drv × Dsk) × Int × List UInt8 × Int :=
  if v.failed ≠ 0 then ((v, d), 0, zero8, v.failed) else
  if ¬ (0 ≤ n ∧ n < v.entries.length) then ((v, d), 0, zero8, 2) else
  if (v.at n.toNat).address < 0 ∨ (v.at n.toNat).kind = 2 then ((v, d), 0, zero8, 9) else readFetch v (fetchRun v d n.toNat)
def VReadPost (B : Nat) (w : World) (ad ap vd : Nat) (r : (Drv × Dsk) × Int × List UInt8 × Int) (e : Ending) (w' : World) : Prop :=
  e = .returned (.tuple #[.int .u64 r.2.1, dataV r.2.2.1, .int .i64 r.2.2.2]) ∧ DskAt B w' ad ap r.1.2 ∧ DrvAt B w' vd ad r.1.1 ∧ Keep B VT w w'
theorem fetch_len {m : Nat} {v : Drv} {d : Dsk} (hi : DInv m d) (n : Nat) : (fetchRun v d n).2.1.data.length = 8 := by
  unfold fetchRun fetchAns
  dsimp only
  split
  · rfl
  · split
    · rename_i h1 _
      rcases (hi.sector v.key (v.at n).address).2 with h2 | ⟨b, h2, _, h3⟩
      · exact absurd h2 h1
      · rw [h2]; exact h3.parts.2.1.len
    · rfl
set_option maxRecDepth 8000 in
set_option maxHeartbeats 2000000 in
theorem vread_nil (n : Int) (w : World) : Calls Tryz.prog 14 #[.pointer none, .int .i64 n] w fun e w' => e = .returned (.tuple #[.int .u64 0, .agg #[.int .u8 0, .int .u8 0, .int .u8 0, .int .u8 0, .int .u8 0, .int .u8 0, .int .u8 0, .int .u8 0], .int .i64 8]) ∧ Ext w w' := by
  have S := fun w => vstate_nil w
  go_enter Tryz.func14, Tryz.ntmps14
  go_wp2_with fail
  refine (S _).mono ?_
  rintro e w1 ⟨rfl, rfl⟩
  go_wp2_with fail
  exact bodyPost_ret (v := .tuple #[.int .u64 0, .agg #[.int .u8 0, .int .u8 0, .int .u8 0, .int .u8 0, .int .u8 0, .int .u8 0, .int .u8 0, .int .u8 0], .int .i64 8]) (by simp [results, Tryz.results14, go_sem]) rfl ⟨rfl, (Ext.refl _).alloc _⟩
set_option maxRecDepth 8000 in
set_option maxHeartbeats 4000000 in
theorem vread {B m : Nat} {w : World} {vd ad ap : Nat} {v : Drv} {d : Dsk} (h : DrvAt B w vd ad v) (hd : DskAt B w ad ap d) (hi : DInv m d) (hm : m ≤ 60000) (hB : B ≤ w.heap.size) (n : Int) :
    Calls Tryz.prog 14 #[.pointer (some ⟨vd, 0, none⟩), .int .i64 n] w (VReadPost B w ad ap vd (readRun v d n)) := by
  obtain ⟨W0, hW0⟩ : ∃ W0, W0 = w.alloc (.cells #[.int .u8 0, .int .u8 0, .int .u8 0, .int .u8 0, .int .u8 0, .int .u8 0, .int .u8 0, .int .u8 0] 27) := ⟨_, rfl⟩
  have hx0 : Ext w W0 := by rw [hW0]; exact (Ext.refl _).alloc _
  have hb0 : Blk W0 w.heap.size 27 #[.int .u8 0, .int .u8 0, .int .u8 0, .int .u8 0, .int .u8 0, .int .u8 0, .int .u8 0, .int .u8 0] := by rw [hW0]; exact Blk.new _ _ _
  have h0 := h.ext hx0
  have hd0 := hd.ext hx0
  have S := vstate h0
  have H := vhas h0 n
  have FE := fun (k : Nat) (hk : k < v.entries.length) => vfetch h0 hd0 hi hm k hk
  have HL := Lib.hid (fun k => fetch_len (v := v) hi k)
  have HR := Lib.hid (show readRun v d n = if v.failed ≠ 0 then ((v, d), 0, zero8, v.failed) else if ¬ (0 ≤ n ∧ n < v.entries.length) then ((v, d), 0, zero8, 2) else if (v.at n.toNat).address < 0 ∨ (v.at n.toNat).kind = 2 then ((v, d), 0, zero8, 9) else readFetch v (fetchRun v d n.toNat) from rfl)
  rw [hW0] at S H
  have HW0 := Lib.hid hW0
  have HD0 := Lib.hid hd0
  have HV0 := Lib.hid h0
  have HX0 := Lib.hid hx0
  have HB0 := Lib.hid hb0
  replace S := Lib.hid S
  replace H := Lib.hid H
  replace FE := Lib.hid FE
  obtain ⟨eb, ce, bw, hdr⟩ := h
  have HDR := Lib.hid hdr
  clear h0 hd0 hd hi hx0 hb0 hW0 hdr
  generalize readRun v d n = res at *
  by_cases hf : v.failed = 0
  · have hfb : (v.failed != 0) = false := by simp [hf]
    have hr := HR.out
    rw [if_neg (fun h => h hf)] at hr
    by_cases hb : 0 ≤ n ∧ n < v.entries.length
    · rw [if_neg (fun h => h hb)] at hr
      obtain ⟨b, rfl⟩ : ∃ b : Nat, n = (b : Int) := ⟨n.toNat, by omega⟩
      have hbb : decide (0 ≤ (b : Int) ∧ (b : Int) < v.entries.length) = true := by simpa using hb
      replace H := H.out
      rw [hbb] at H
      replace H := Lib.hid H
      rw [Int.toNat_natCast] at hr
      have hbl : b < v.entries.length := by omega
      have hnl : (b : Int) < (v.entries.length : Int) := hb.2
      have hdr := HDR.out.keep HX0.out (by simp) (by simp) (by simp)
      obtain ⟨e0, e1, e2⟩ := hdr.entry b hbl
      have c2 : W0.cell? ⟨vd, 2, none⟩ = some (.slice (some ⟨eb, 0, none⟩) v.entries.length ce) := hdr.blk.cell 2 rfl
      have F := FE.out b hbl
      have hlen := HL.out b
      have l1 := HB0.out.lt
      have l2 := cell_lt c2
      have l3 := cell_lt e0
      generalize fetchRun v d b = fr at *
      generalize v.at b = nn at *
      replace F := Lib.hid F
      have HR2 := Lib.hid hr
      clear hb hbb hf hdr HR FE HL hr hbl
      go_enter Tryz.func14, Tryz.ntmps14
      go_wp2_with fail
      refine S.out.mono ?_
      rintro e w1 ⟨rfl, rfl⟩
      go_wp2_with fail
      refine H.out.mono ?_
      rintro e w1 ⟨rfl, rfl⟩
      go_upto_region 6 with fail
      have e0 := HW0.out
      rw [← e0]
      clear e0
      have g0 : W0.cell? ⟨w.heap.size, 0, none⟩ = some (.int .u8 0) := (HB0.out).cell 0 rfl
      have f0 : W0.frozen? ⟨w.heap.size, 0, none⟩ = false := (HB0.out).free 0
      have g1 : W0.cell? ⟨w.heap.size, 1, none⟩ = some (.int .u8 0) := (HB0.out).cell 1 rfl
      have f1 : W0.frozen? ⟨w.heap.size, 1, none⟩ = false := (HB0.out).free 1
      have g2 : W0.cell? ⟨w.heap.size, 2, none⟩ = some (.int .u8 0) := (HB0.out).cell 2 rfl
      have f2 : W0.frozen? ⟨w.heap.size, 2, none⟩ = false := (HB0.out).free 2
      have g3 : W0.cell? ⟨w.heap.size, 3, none⟩ = some (.int .u8 0) := (HB0.out).cell 3 rfl
      have f3 : W0.frozen? ⟨w.heap.size, 3, none⟩ = false := (HB0.out).free 3
      have g4 : W0.cell? ⟨w.heap.size, 4, none⟩ = some (.int .u8 0) := (HB0.out).cell 4 rfl
      have f4 : W0.frozen? ⟨w.heap.size, 4, none⟩ = false := (HB0.out).free 4
      have g5 : W0.cell? ⟨w.heap.size, 5, none⟩ = some (.int .u8 0) := (HB0.out).cell 5 rfl
      have f5 : W0.frozen? ⟨w.heap.size, 5, none⟩ = false := (HB0.out).free 5
      have g6 : W0.cell? ⟨w.heap.size, 6, none⟩ = some (.int .u8 0) := (HB0.out).cell 6 rfl
      have f6 : W0.frozen? ⟨w.heap.size, 6, none⟩ = false := (HB0.out).free 6
      have g7 : W0.cell? ⟨w.heap.size, 7, none⟩ = some (.int .u8 0) := (HB0.out).cell 7 rfl
      have f7 : W0.frozen? ⟨w.heap.size, 7, none⟩ = false := (HB0.out).free 7
      by_cases ha : nn.address < 0
      · have hab : decide (nn.address < 0) = true := by simpa using ha
        have hr := HR2.out
        rw [if_pos (.inl ha)] at hr
        subst hr
        clear ha
        go_wp2_with fail
        have CS := cells8 HB0.out (HX0.out.keep B VT) (Nat.le_refl _) (.int .u8 0) (.int .u8 0) (.int .u8 0) (.int .u8 0) (.int .u8 0) (.int .u8 0) (.int .u8 0) (.int .u8 0)
        generalize ((((((((W0.setCell ⟨w.heap.size, 0, none⟩ (.int .u8 0)).setCell ⟨w.heap.size, 1, none⟩ (.int .u8 0)).setCell ⟨w.heap.size, 2, none⟩ (.int .u8 0)).setCell ⟨w.heap.size, 3, none⟩ (.int .u8 0)).setCell ⟨w.heap.size, 4, none⟩ (.int .u8 0)).setCell ⟨w.heap.size, 5, none⟩ (.int .u8 0)).setCell ⟨w.heap.size, 6, none⟩ (.int .u8 0)).setCell ⟨w.heap.size, 7, none⟩ (.int .u8 0)) = wf at CS ⊢
        obtain ⟨s1, s2, s3⟩ := CS
        have q0 : wf.cell? ⟨w.heap.size, 0, none⟩ = some (.int .u8 0) := s1.cell 0 rfl
        have q1 : wf.cell? ⟨w.heap.size, 1, none⟩ = some (.int .u8 0) := s1.cell 1 rfl
        have q2 : wf.cell? ⟨w.heap.size, 2, none⟩ = some (.int .u8 0) := s1.cell 2 rfl
        have q3 : wf.cell? ⟨w.heap.size, 3, none⟩ = some (.int .u8 0) := s1.cell 3 rfl
        have q4 : wf.cell? ⟨w.heap.size, 4, none⟩ = some (.int .u8 0) := s1.cell 4 rfl
        have q5 : wf.cell? ⟨w.heap.size, 5, none⟩ = some (.int .u8 0) := s1.cell 5 rfl
        have q6 : wf.cell? ⟨w.heap.size, 6, none⟩ = some (.int .u8 0) := s1.cell 6 rfl
        have q7 : wf.cell? ⟨w.heap.size, 7, none⟩ = some (.int .u8 0) := s1.cell 7 rfl
        exact bodyPost_ret (v := .tuple #[.int .u64 0, .agg #[.int .u8 0, .int .u8 0, .int .u8 0, .int .u8 0, .int .u8 0, .int .u8 0, .int .u8 0, .int .u8 0], .int .i64 9]) (by simp [results, Tryz.results14, go_sem, q0, q1, q2, q3, q4, q5, q6, q7]) rfl ⟨rfl, HD0.out.keep s3 (by simp), HV0.out.keep s3 (by simp) (by simp) (by simp), s2⟩
      · have hab : decide (nn.address < 0) = false := by simpa using ha
        by_cases hk : nn.kind = 2
        · have hkb : (nn.kind == 2) = true := by simp [hk]
          have hr := HR2.out
          rw [if_pos (.inr hk)] at hr
          subst hr
          clear ha hk
          go_wp2_with fail
          have CS := cells8 HB0.out (HX0.out.keep B VT) (Nat.le_refl _) (.int .u8 0) (.int .u8 0) (.int .u8 0) (.int .u8 0) (.int .u8 0) (.int .u8 0) (.int .u8 0) (.int .u8 0)
          generalize ((((((((W0.setCell ⟨w.heap.size, 0, none⟩ (.int .u8 0)).setCell ⟨w.heap.size, 1, none⟩ (.int .u8 0)).setCell ⟨w.heap.size, 2, none⟩ (.int .u8 0)).setCell ⟨w.heap.size, 3, none⟩ (.int .u8 0)).setCell ⟨w.heap.size, 4, none⟩ (.int .u8 0)).setCell ⟨w.heap.size, 5, none⟩ (.int .u8 0)).setCell ⟨w.heap.size, 6, none⟩ (.int .u8 0)).setCell ⟨w.heap.size, 7, none⟩ (.int .u8 0)) = wf at CS ⊢
          obtain ⟨s1, s2, s3⟩ := CS
          have q0 : wf.cell? ⟨w.heap.size, 0, none⟩ = some (.int .u8 0) := s1.cell 0 rfl
          have q1 : wf.cell? ⟨w.heap.size, 1, none⟩ = some (.int .u8 0) := s1.cell 1 rfl
          have q2 : wf.cell? ⟨w.heap.size, 2, none⟩ = some (.int .u8 0) := s1.cell 2 rfl
          have q3 : wf.cell? ⟨w.heap.size, 3, none⟩ = some (.int .u8 0) := s1.cell 3 rfl
          have q4 : wf.cell? ⟨w.heap.size, 4, none⟩ = some (.int .u8 0) := s1.cell 4 rfl
          have q5 : wf.cell? ⟨w.heap.size, 5, none⟩ = some (.int .u8 0) := s1.cell 5 rfl
          have q6 : wf.cell? ⟨w.heap.size, 6, none⟩ = some (.int .u8 0) := s1.cell 6 rfl
          have q7 : wf.cell? ⟨w.heap.size, 7, none⟩ = some (.int .u8 0) := s1.cell 7 rfl
          exact bodyPost_ret (v := .tuple #[.int .u64 0, .agg #[.int .u8 0, .int .u8 0, .int .u8 0, .int .u8 0, .int .u8 0, .int .u8 0, .int .u8 0, .int .u8 0], .int .i64 9]) (by simp [results, Tryz.results14, go_sem, q0, q1, q2, q3, q4, q5, q6, q7]) rfl ⟨rfl, HD0.out.keep s3 (by simp), HV0.out.keep s3 (by simp) (by simp) (by simp), s2⟩
        · have hkb : (nn.kind == 2) = false := by simp [hk]
          have hr := HR2.out
          rw [if_neg (fun h => h.elim ha hk)] at hr
          have HR3 := Lib.hid hr
          clear hr ha hk
          obtain ⟨fd, ⟨k, bl, x, l⟩, fe⟩ := fr
          obtain ⟨d0, d1, d2, d3, d4, d5, d6, d7, hdl⟩ := len8 hlen
          have hdl : l = [d0, d1, d2, d3, d4, d5, d6, d7] := hdl
          subst hdl
          clear hlen
          unfold FetchPost at F
          dsimp only at F
          rw [entV8] at F
          unfold entAgg at F
          go_wp2_with fail
          refine F.out.mono ?_
          rintro e w1 ⟨rfl, hd1, hv1, hk1⟩
          have HD1 := Lib.hid hd1
          have HV1 := Lib.hid hv1
          have hk0 : Keep B VT w w1 := (HX0.out.keep B VT).trans (hk1.mono (Nat.le_refl _) (by simp))
          have HK1 := Lib.hid hk0
          have hb1 := HB0.out.keep hk1 (by simp)
          have HB1 := Lib.hid hb1
          clear g0 f0
          clear g1 f1
          clear g2 f2
          clear g3 f3
          clear g4 f4
          clear g5 f5
          clear g6 f6
          clear g7 f7
          have g0 : w1.cell? ⟨w.heap.size, 0, none⟩ = some (.int .u8 0) := (HB1.out).cell 0 rfl
          have f0 : w1.frozen? ⟨w.heap.size, 0, none⟩ = false := (HB1.out).free 0
          have g1 : w1.cell? ⟨w.heap.size, 1, none⟩ = some (.int .u8 0) := (HB1.out).cell 1 rfl
          have f1 : w1.frozen? ⟨w.heap.size, 1, none⟩ = false := (HB1.out).free 1
          have g2 : w1.cell? ⟨w.heap.size, 2, none⟩ = some (.int .u8 0) := (HB1.out).cell 2 rfl
          have f2 : w1.frozen? ⟨w.heap.size, 2, none⟩ = false := (HB1.out).free 2
          have g3 : w1.cell? ⟨w.heap.size, 3, none⟩ = some (.int .u8 0) := (HB1.out).cell 3 rfl
          have f3 : w1.frozen? ⟨w.heap.size, 3, none⟩ = false := (HB1.out).free 3
          have g4 : w1.cell? ⟨w.heap.size, 4, none⟩ = some (.int .u8 0) := (HB1.out).cell 4 rfl
          have f4 : w1.frozen? ⟨w.heap.size, 4, none⟩ = false := (HB1.out).free 4
          have g5 : w1.cell? ⟨w.heap.size, 5, none⟩ = some (.int .u8 0) := (HB1.out).cell 5 rfl
          have f5 : w1.frozen? ⟨w.heap.size, 5, none⟩ = false := (HB1.out).free 5
          have g6 : w1.cell? ⟨w.heap.size, 6, none⟩ = some (.int .u8 0) := (HB1.out).cell 6 rfl
          have f6 : w1.frozen? ⟨w.heap.size, 6, none⟩ = false := (HB1.out).free 6
          have g7 : w1.cell? ⟨w.heap.size, 7, none⟩ = some (.int .u8 0) := (HB1.out).cell 7 rfl
          have f7 : w1.frozen? ⟨w.heap.size, 7, none⟩ = false := (HB1.out).free 7
          have hl1 := hb1.lt
          clear F hd1 hv1 hk1 hk0 hb1 e0 e1 e2 c2 l1 l2 l3
          have HR4 := Lib.hid (show res = readFetch v (fd, ⟨k, bl, x, [d0, d1, d2, d3, d4, d5, d6, d7]⟩, fe) from HR3.out)
          by_cases z0 : fe = 0
          · subst z0
            have hr := HR4.out
            unfold readFetch at hr
            rw [if_pos rfl] at hr
            have hr : res = ((v, fd), x, [d0, d1, d2, d3, d4, d5, d6, d7], 0) := hr
            subst hr
            have hxa : Ext w1 (w1.alloc (.cells #[.int .i64 k, .int .i64 bl, .int .u64 x, .int .u8 (d0.toNat : Int), .int .u8 (d1.toNat : Int), .int .u8 (d2.toNat : Int), .int .u8 (d3.toNat : Int), .int .u8 (d4.toNat : Int), .int .u8 (d5.toNat : Int), .int .u8 (d6.toNat : Int), .int .u8 (d7.toNat : Int)] 89)) := (Ext.refl _).alloc _
            have HXA := Lib.hid hxa
            clear hxa
            go_upto_region 11 with fail
            refine wp_region_tail (by kernel_rfl) 5 2 99 (by rfl) (by kernel_rfl) (fun h => absurd h (by decide)) ?_
            repeat (
              refine wx_step (fun K hK => ?_)
              first
                | (rw [if_neg (by exact Bool.false_ne_true)]; refine hK _ ?_; clear hK K; simp only [Act.put, List.setIfInBounds_toArray, List.set_cons_succ, List.set_cons_zero])
                | (rw [if_pos (by rfl)]
                   refine xx_val (v := ?_) (fun w' hw' => ?_) (hK _ ?_)
                   rotate_left
                   · obtain ⟨hc', -, hs'⟩ := hw'.facts
                     go_simp
                     first | (with_reducible exact (rfl : Value.bool true = _)) | (with_reducible exact (rfl : Value.bool false = _)) | (try go_bits) <;> rfl
                   clear hK K
                   simp only [Act.put, List.setIfInBounds_toArray, List.set_cons_succ, List.set_cons_zero]))
            refine wx_nil ?_
            intro w2 hx2
            simp only [List.drop_succ_cons, List.drop_zero]
            have HB2 := Lib.hid ((HB1.out.ext HXA.out).ext hx2)
            have HK2 := Lib.hid ((HK1.out.trans (HXA.out.keep _ _)).trans (hx2.keep B VT))
            have HD2 := Lib.hid (HD1.out.ext (HXA.out.trans hx2))
            have HV2 := Lib.hid (HV1.out.ext (HXA.out.trans hx2))
            clear hx2 g0 f0 g1 f1 g2 f2 g3 f3 g4 f4 g5 f5 g6 f6 g7 f7 hl1
            have g0 : w2.cell? ⟨w.heap.size, 0, none⟩ = some (.int .u8 0) := (HB2.out).cell 0 rfl
            have f0 : w2.frozen? ⟨w.heap.size, 0, none⟩ = false := (HB2.out).free 0
            have g1 : w2.cell? ⟨w.heap.size, 1, none⟩ = some (.int .u8 0) := (HB2.out).cell 1 rfl
            have f1 : w2.frozen? ⟨w.heap.size, 1, none⟩ = false := (HB2.out).free 1
            have g2 : w2.cell? ⟨w.heap.size, 2, none⟩ = some (.int .u8 0) := (HB2.out).cell 2 rfl
            have f2 : w2.frozen? ⟨w.heap.size, 2, none⟩ = false := (HB2.out).free 2
            have g3 : w2.cell? ⟨w.heap.size, 3, none⟩ = some (.int .u8 0) := (HB2.out).cell 3 rfl
            have f3 : w2.frozen? ⟨w.heap.size, 3, none⟩ = false := (HB2.out).free 3
            have g4 : w2.cell? ⟨w.heap.size, 4, none⟩ = some (.int .u8 0) := (HB2.out).cell 4 rfl
            have f4 : w2.frozen? ⟨w.heap.size, 4, none⟩ = false := (HB2.out).free 4
            have g5 : w2.cell? ⟨w.heap.size, 5, none⟩ = some (.int .u8 0) := (HB2.out).cell 5 rfl
            have f5 : w2.frozen? ⟨w.heap.size, 5, none⟩ = false := (HB2.out).free 5
            have g6 : w2.cell? ⟨w.heap.size, 6, none⟩ = some (.int .u8 0) := (HB2.out).cell 6 rfl
            have f6 : w2.frozen? ⟨w.heap.size, 6, none⟩ = false := (HB2.out).free 6
            have g7 : w2.cell? ⟨w.heap.size, 7, none⟩ = some (.int .u8 0) := (HB2.out).cell 7 rfl
            have f7 : w2.frozen? ⟨w.heap.size, 7, none⟩ = false := (HB2.out).free 7
            have hl2 := HB2.out.lt
            go_wp2_with fail
            have CS := cells8 HB2.out HK2.out (Nat.le_refl _) (.int .u8 (d0.toNat : Int)) (.int .u8 (d1.toNat : Int)) (.int .u8 (d2.toNat : Int)) (.int .u8 (d3.toNat : Int)) (.int .u8 (d4.toNat : Int)) (.int .u8 (d5.toNat : Int)) (.int .u8 (d6.toNat : Int)) (.int .u8 (d7.toNat : Int))
            generalize ((((((((w2.setCell ⟨w.heap.size, 0, none⟩ (.int .u8 (d0.toNat : Int))).setCell ⟨w.heap.size, 1, none⟩ (.int .u8 (d1.toNat : Int))).setCell ⟨w.heap.size, 2, none⟩ (.int .u8 (d2.toNat : Int))).setCell ⟨w.heap.size, 3, none⟩ (.int .u8 (d3.toNat : Int))).setCell ⟨w.heap.size, 4, none⟩ (.int .u8 (d4.toNat : Int))).setCell ⟨w.heap.size, 5, none⟩ (.int .u8 (d5.toNat : Int))).setCell ⟨w.heap.size, 6, none⟩ (.int .u8 (d6.toNat : Int))).setCell ⟨w.heap.size, 7, none⟩ (.int .u8 (d7.toNat : Int))) = wf at CS ⊢
            obtain ⟨s1, s2, s3⟩ := CS
            have q0 : wf.cell? ⟨w.heap.size, 0, none⟩ = some (.int .u8 (d0.toNat : Int)) := s1.cell 0 rfl
            have q1 : wf.cell? ⟨w.heap.size, 1, none⟩ = some (.int .u8 (d1.toNat : Int)) := s1.cell 1 rfl
            have q2 : wf.cell? ⟨w.heap.size, 2, none⟩ = some (.int .u8 (d2.toNat : Int)) := s1.cell 2 rfl
            have q3 : wf.cell? ⟨w.heap.size, 3, none⟩ = some (.int .u8 (d3.toNat : Int)) := s1.cell 3 rfl
            have q4 : wf.cell? ⟨w.heap.size, 4, none⟩ = some (.int .u8 (d4.toNat : Int)) := s1.cell 4 rfl
            have q5 : wf.cell? ⟨w.heap.size, 5, none⟩ = some (.int .u8 (d5.toNat : Int)) := s1.cell 5 rfl
            have q6 : wf.cell? ⟨w.heap.size, 6, none⟩ = some (.int .u8 (d6.toNat : Int)) := s1.cell 6 rfl
            have q7 : wf.cell? ⟨w.heap.size, 7, none⟩ = some (.int .u8 (d7.toNat : Int)) := s1.cell 7 rfl
            exact bodyPost_ret (v := .tuple #[.int .u64 x, .agg #[.int .u8 (d0.toNat : Int), .int .u8 (d1.toNat : Int), .int .u8 (d2.toNat : Int), .int .u8 (d3.toNat : Int), .int .u8 (d4.toNat : Int), .int .u8 (d5.toNat : Int), .int .u8 (d6.toNat : Int), .int .u8 (d7.toNat : Int)], .int .i64 0]) (by simp [results, Tryz.results14, go_sem, q0, q1, q2, q3, q4, q5, q6, q7]) rfl ⟨rfl, HD2.out.keep s3 (by simp), HV2.out.keep s3 (by simp) (by simp) (by simp), s2⟩
          · have z0b : (fe == 0) = false := by simpa using z0
            by_cases z1 : fe = 15
            · subst z1
              have hr := HR4.out
              unfold readFetch at hr
              rw [if_neg (by show ¬ (15 : Int) = 0; decide), if_pos (.inl rfl)] at hr
              have hr : res = ((v, fd), 0, zero8, 15) := hr
              subst hr
              clear z0 z0b
              go_wp2_with fail
              have CS := cells8 HB1.out HK1.out (Nat.le_refl _) (.int .u8 0) (.int .u8 0) (.int .u8 0) (.int .u8 0) (.int .u8 0) (.int .u8 0) (.int .u8 0) (.int .u8 0)
              generalize ((((((((w1.setCell ⟨w.heap.size, 0, none⟩ (.int .u8 0)).setCell ⟨w.heap.size, 1, none⟩ (.int .u8 0)).setCell ⟨w.heap.size, 2, none⟩ (.int .u8 0)).setCell ⟨w.heap.size, 3, none⟩ (.int .u8 0)).setCell ⟨w.heap.size, 4, none⟩ (.int .u8 0)).setCell ⟨w.heap.size, 5, none⟩ (.int .u8 0)).setCell ⟨w.heap.size, 6, none⟩ (.int .u8 0)).setCell ⟨w.heap.size, 7, none⟩ (.int .u8 0)) = wf0 at CS ⊢
              obtain ⟨s1, s2, s3⟩ := CS
              have hxa : Ext wf0 (wf0.alloc (.cells #[.int .i64 k, .int .i64 bl, .int .u64 x, .int .u8 (d0.toNat : Int), .int .u8 (d1.toNat : Int), .int .u8 (d2.toNat : Int), .int .u8 (d3.toNat : Int), .int .u8 (d4.toNat : Int), .int .u8 (d5.toNat : Int), .int .u8 (d6.toNat : Int), .int .u8 (d7.toNat : Int)] 89)) := (Ext.refl _).alloc _
              replace s1 := s1.ext hxa
              replace s2 := s2.trans (hxa.keep _ _)
              replace s3 := s3.trans (hxa.keep _ _)
              generalize wf0.alloc (.cells #[.int .i64 k, .int .i64 bl, .int .u64 x, .int .u8 (d0.toNat : Int), .int .u8 (d1.toNat : Int), .int .u8 (d2.toNat : Int), .int .u8 (d3.toNat : Int), .int .u8 (d4.toNat : Int), .int .u8 (d5.toNat : Int), .int .u8 (d6.toNat : Int), .int .u8 (d7.toNat : Int)] 89) = wf at *
              have q0 : wf.cell? ⟨w.heap.size, 0, none⟩ = some (.int .u8 0) := s1.cell 0 rfl
              have q1 : wf.cell? ⟨w.heap.size, 1, none⟩ = some (.int .u8 0) := s1.cell 1 rfl
              have q2 : wf.cell? ⟨w.heap.size, 2, none⟩ = some (.int .u8 0) := s1.cell 2 rfl
              have q3 : wf.cell? ⟨w.heap.size, 3, none⟩ = some (.int .u8 0) := s1.cell 3 rfl
              have q4 : wf.cell? ⟨w.heap.size, 4, none⟩ = some (.int .u8 0) := s1.cell 4 rfl
              have q5 : wf.cell? ⟨w.heap.size, 5, none⟩ = some (.int .u8 0) := s1.cell 5 rfl
              have q6 : wf.cell? ⟨w.heap.size, 6, none⟩ = some (.int .u8 0) := s1.cell 6 rfl
              have q7 : wf.cell? ⟨w.heap.size, 7, none⟩ = some (.int .u8 0) := s1.cell 7 rfl
              exact bodyPost_ret (v := .tuple #[.int .u64 0, .agg #[.int .u8 0, .int .u8 0, .int .u8 0, .int .u8 0, .int .u8 0, .int .u8 0, .int .u8 0, .int .u8 0], .int .i64 15]) (by simp [results, Tryz.results14, go_sem, q0, q1, q2, q3, q4, q5, q6, q7]) rfl ⟨rfl, HD1.out.keep s3 (by simp), HV1.out.keep s3 (by simp) (by simp) (by simp), s2⟩
            · have z1b : (fe == 15) = false := by simpa using z1
              by_cases z2 : fe = 16
              · subst z2
                have hr := HR4.out
                unfold readFetch at hr
                rw [if_neg (by show ¬ (16 : Int) = 0; decide), if_pos (.inr rfl)] at hr
                have hr : res = ((v, fd), 0, zero8, 15) := hr
                subst hr
                clear z0 z0b z1 z1b
                go_wp2_with fail
                have CS := cells8 HB1.out HK1.out (Nat.le_refl _) (.int .u8 0) (.int .u8 0) (.int .u8 0) (.int .u8 0) (.int .u8 0) (.int .u8 0) (.int .u8 0) (.int .u8 0)
                generalize ((((((((w1.setCell ⟨w.heap.size, 0, none⟩ (.int .u8 0)).setCell ⟨w.heap.size, 1, none⟩ (.int .u8 0)).setCell ⟨w.heap.size, 2, none⟩ (.int .u8 0)).setCell ⟨w.heap.size, 3, none⟩ (.int .u8 0)).setCell ⟨w.heap.size, 4, none⟩ (.int .u8 0)).setCell ⟨w.heap.size, 5, none⟩ (.int .u8 0)).setCell ⟨w.heap.size, 6, none⟩ (.int .u8 0)).setCell ⟨w.heap.size, 7, none⟩ (.int .u8 0)) = wf0 at CS ⊢
                obtain ⟨s1, s2, s3⟩ := CS
                have hxa : Ext wf0 (wf0.alloc (.cells #[.int .i64 k, .int .i64 bl, .int .u64 x, .int .u8 (d0.toNat : Int), .int .u8 (d1.toNat : Int), .int .u8 (d2.toNat : Int), .int .u8 (d3.toNat : Int), .int .u8 (d4.toNat : Int), .int .u8 (d5.toNat : Int), .int .u8 (d6.toNat : Int), .int .u8 (d7.toNat : Int)] 89)) := (Ext.refl _).alloc _
                replace s1 := s1.ext hxa
                replace s2 := s2.trans (hxa.keep _ _)
                replace s3 := s3.trans (hxa.keep _ _)
                generalize wf0.alloc (.cells #[.int .i64 k, .int .i64 bl, .int .u64 x, .int .u8 (d0.toNat : Int), .int .u8 (d1.toNat : Int), .int .u8 (d2.toNat : Int), .int .u8 (d3.toNat : Int), .int .u8 (d4.toNat : Int), .int .u8 (d5.toNat : Int), .int .u8 (d6.toNat : Int), .int .u8 (d7.toNat : Int)] 89) = wf at *
                have q0 : wf.cell? ⟨w.heap.size, 0, none⟩ = some (.int .u8 0) := s1.cell 0 rfl
                have q1 : wf.cell? ⟨w.heap.size, 1, none⟩ = some (.int .u8 0) := s1.cell 1 rfl
                have q2 : wf.cell? ⟨w.heap.size, 2, none⟩ = some (.int .u8 0) := s1.cell 2 rfl
                have q3 : wf.cell? ⟨w.heap.size, 3, none⟩ = some (.int .u8 0) := s1.cell 3 rfl
                have q4 : wf.cell? ⟨w.heap.size, 4, none⟩ = some (.int .u8 0) := s1.cell 4 rfl
                have q5 : wf.cell? ⟨w.heap.size, 5, none⟩ = some (.int .u8 0) := s1.cell 5 rfl
                have q6 : wf.cell? ⟨w.heap.size, 6, none⟩ = some (.int .u8 0) := s1.cell 6 rfl
                have q7 : wf.cell? ⟨w.heap.size, 7, none⟩ = some (.int .u8 0) := s1.cell 7 rfl
                exact bodyPost_ret (v := .tuple #[.int .u64 0, .agg #[.int .u8 0, .int .u8 0, .int .u8 0, .int .u8 0, .int .u8 0, .int .u8 0, .int .u8 0, .int .u8 0], .int .i64 15]) (by simp [results, Tryz.results14, go_sem, q0, q1, q2, q3, q4, q5, q6, q7]) rfl ⟨rfl, HD1.out.keep s3 (by simp), HV1.out.keep s3 (by simp) (by simp) (by simp), s2⟩
              · have z2b : (fe == 16) = false := by simpa using z2
                have hr := HR4.out
                unfold readFetch at hr
                rw [if_neg z0, if_neg (fun h => h.elim z1 z2)] at hr
                have hr : res = ((v.fail fe, fd), 0, zero8, fe) := hr
                subst hr
                have hxa : Ext w1 (w1.alloc (.cells #[.int .i64 k, .int .i64 bl, .int .u64 x, .int .u8 (d0.toNat : Int), .int .u8 (d1.toNat : Int), .int .u8 (d2.toNat : Int), .int .u8 (d3.toNat : Int), .int .u8 (d4.toNat : Int), .int .u8 (d5.toNat : Int), .int .u8 (d6.toNat : Int), .int .u8 (d7.toNat : Int)] 89)) := (Ext.refl _).alloc _
                have VF := Lib.hid (vfail (HV1.out.ext hxa) fe)
                have HXA := Lib.hid hxa
                clear hxa z0 z1 z2
                go_wp2_with fail
                refine VF.out.mono ?_
                rintro e w2 ⟨rfl, hv2, hk2⟩
                have HB2 := Lib.hid ((HB1.out.ext HXA.out).keep hk2 (by simp))
                have HK2 := Lib.hid ((HK1.out.trans (HXA.out.keep _ _)).trans (hk2.mono (Nat.le_refl B) (show [87] ⊆ VT by simp)))
                have HD2 := Lib.hid ((HD1.out.ext HXA.out).keep hk2 (by simp))
                have HV2 := Lib.hid hv2
                clear hk2 hv2 VF g0 f0 g1 f1 g2 f2 g3 f3 g4 f4 g5 f5 g6 f6 g7 f7 hl1
                have g0 : w2.cell? ⟨w.heap.size, 0, none⟩ = some (.int .u8 0) := (HB2.out).cell 0 rfl
                have f0 : w2.frozen? ⟨w.heap.size, 0, none⟩ = false := (HB2.out).free 0
                have g1 : w2.cell? ⟨w.heap.size, 1, none⟩ = some (.int .u8 0) := (HB2.out).cell 1 rfl
                have f1 : w2.frozen? ⟨w.heap.size, 1, none⟩ = false := (HB2.out).free 1
                have g2 : w2.cell? ⟨w.heap.size, 2, none⟩ = some (.int .u8 0) := (HB2.out).cell 2 rfl
                have f2 : w2.frozen? ⟨w.heap.size, 2, none⟩ = false := (HB2.out).free 2
                have g3 : w2.cell? ⟨w.heap.size, 3, none⟩ = some (.int .u8 0) := (HB2.out).cell 3 rfl
                have f3 : w2.frozen? ⟨w.heap.size, 3, none⟩ = false := (HB2.out).free 3
                have g4 : w2.cell? ⟨w.heap.size, 4, none⟩ = some (.int .u8 0) := (HB2.out).cell 4 rfl
                have f4 : w2.frozen? ⟨w.heap.size, 4, none⟩ = false := (HB2.out).free 4
                have g5 : w2.cell? ⟨w.heap.size, 5, none⟩ = some (.int .u8 0) := (HB2.out).cell 5 rfl
                have f5 : w2.frozen? ⟨w.heap.size, 5, none⟩ = false := (HB2.out).free 5
                have g6 : w2.cell? ⟨w.heap.size, 6, none⟩ = some (.int .u8 0) := (HB2.out).cell 6 rfl
                have f6 : w2.frozen? ⟨w.heap.size, 6, none⟩ = false := (HB2.out).free 6
                have g7 : w2.cell? ⟨w.heap.size, 7, none⟩ = some (.int .u8 0) := (HB2.out).cell 7 rfl
                have f7 : w2.frozen? ⟨w.heap.size, 7, none⟩ = false := (HB2.out).free 7
                have hl2 := HB2.out.lt
                go_wp2_with fail
                have CS := cells8 HB2.out HK2.out (Nat.le_refl _) (.int .u8 0) (.int .u8 0) (.int .u8 0) (.int .u8 0) (.int .u8 0) (.int .u8 0) (.int .u8 0) (.int .u8 0)
                generalize ((((((((w2.setCell ⟨w.heap.size, 0, none⟩ (.int .u8 0)).setCell ⟨w.heap.size, 1, none⟩ (.int .u8 0)).setCell ⟨w.heap.size, 2, none⟩ (.int .u8 0)).setCell ⟨w.heap.size, 3, none⟩ (.int .u8 0)).setCell ⟨w.heap.size, 4, none⟩ (.int .u8 0)).setCell ⟨w.heap.size, 5, none⟩ (.int .u8 0)).setCell ⟨w.heap.size, 6, none⟩ (.int .u8 0)).setCell ⟨w.heap.size, 7, none⟩ (.int .u8 0)) = wf at CS ⊢
                obtain ⟨s1, s2, s3⟩ := CS
                have q0 : wf.cell? ⟨w.heap.size, 0, none⟩ = some (.int .u8 0) := s1.cell 0 rfl
                have q1 : wf.cell? ⟨w.heap.size, 1, none⟩ = some (.int .u8 0) := s1.cell 1 rfl
                have q2 : wf.cell? ⟨w.heap.size, 2, none⟩ = some (.int .u8 0) := s1.cell 2 rfl
                have q3 : wf.cell? ⟨w.heap.size, 3, none⟩ = some (.int .u8 0) := s1.cell 3 rfl
                have q4 : wf.cell? ⟨w.heap.size, 4, none⟩ = some (.int .u8 0) := s1.cell 4 rfl
                have q5 : wf.cell? ⟨w.heap.size, 5, none⟩ = some (.int .u8 0) := s1.cell 5 rfl
                have q6 : wf.cell? ⟨w.heap.size, 6, none⟩ = some (.int .u8 0) := s1.cell 6 rfl
                have q7 : wf.cell? ⟨w.heap.size, 7, none⟩ = some (.int .u8 0) := s1.cell 7 rfl
                exact bodyPost_ret (v := .tuple #[.int .u64 0, .agg #[.int .u8 0, .int .u8 0, .int .u8 0, .int .u8 0, .int .u8 0, .int .u8 0, .int .u8 0, .int .u8 0], .int .i64 fe]) (by simp [results, Tryz.results14, go_sem, q0, q1, q2, q3, q4, q5, q6, q7]) rfl ⟨rfl, HD2.out.keep s3 (by simp), HV2.out.keep s3 (by simp) (by simp) (by simp), s2⟩
    · have hbb : decide (0 ≤ n ∧ n < v.entries.length) = false := by simpa using hb
      rw [if_pos hb] at hr
      replace H := H.out
      rw [hbb] at H
      replace H := Lib.hid H
      subst hr
      clear hb hbb hf HR FE HL
      go_enter Tryz.func14, Tryz.ntmps14
      go_wp2_with fail
      refine S.out.mono ?_
      rintro e w1 ⟨rfl, rfl⟩
      go_wp2_with fail
      refine H.out.mono ?_
      rintro e w1 ⟨rfl, rfl⟩
      go_wp2_with fail
      have e0 := HW0.out
      exact bodyPost_ret (v := .tuple #[.int .u64 0, .agg #[.int .u8 0, .int .u8 0, .int .u8 0, .int .u8 0, .int .u8 0, .int .u8 0, .int .u8 0, .int .u8 0], .int .i64 2]) (by simp [results, Tryz.results14, go_sem]) rfl ⟨rfl, e0 ▸ HD0.out, e0 ▸ HV0.out, e0 ▸ HX0.out.keep B VT⟩
  · have hfb : (v.failed != 0) = true := by simpa [bne] using hf
    have hr := HR.out
    rw [if_pos hf] at hr
    subst hr
    clear hf HR FE HL H
    go_enter Tryz.func14, Tryz.ntmps14
    go_wp2_with fail
    refine S.out.mono ?_
    rintro e w1 ⟨rfl, rfl⟩
    go_wp2_with fail
    have e0 := HW0.out
    exact bodyPost_ret (v := .tuple #[.int .u64 0, .agg #[.int .u8 0, .int .u8 0, .int .u8 0, .int .u8 0, .int .u8 0, .int .u8 0, .int .u8 0, .int .u8 0], .int .i64 v.failed]) (by simp [results, Tryz.results14, go_sem]) rfl ⟨rfl, e0 ▸ HD0.out, e0 ▸ HV0.out, e0 ▸ HX0.out.keep B VT⟩
end Go.Proofs.YthhcooljjhdjbaaGreat
