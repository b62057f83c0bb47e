/- Contracts: the cache writes and erases. -/
import Derived.Test.YthhcooljjhdjbaaGreatKW6
set_option linter.unusedVariables false
set_option linter.unusedSimpArgs false
namespace Go.Proofs.YthhcooljjhdjbaaGreat
open Go.RowKit

theorem op171 {B : Nat} {w : World} {m sd cap ba bb q c : Nat} {g : Geo} {secs : List Sec} (h : MediaAt B w m sd cap g secs) (a : Nat) (b : List UInt8) (h1 : Blk w ba 3 #[.int .i64 (a : Int)])
    (h2 : Blk w bb 65 #[.slice (some ⟨q, 0, none⟩) b.length c]) (hy : BytesAt w (.slice (some ⟨q, 0, none⟩) b.length c) b) (hne : b ≠ []) (hl : b.length ≤ 64) (ha : a < g.size) (hg : g.Ok) (hB : B ≤ w.heap.size) :
    Calls Tryz.prog 171 #[.pointer (some ⟨m, 0, none⟩), .pointer (some ⟨ba, 0, none⟩), .pointer (some ⟨bb, 0, none⟩)] w fun e w' => e = .returned (.int .i64 0) ∧ MediaAt B w' m sd cap g (writeSec g secs a b) ∧ w.grownBy w' (some sd) := by
  have R := mwrite_in h a ha _ b hy hne hl hg hB
  have c1 : w.cell? ⟨ba, 0, none⟩ = some (.int .i64 (a : Int)) := h1.cell 0 rfl
  have c2 : w.cell? ⟨bb, 0, none⟩ = some (.slice (some ⟨q, 0, none⟩) b.length c) := h2.cell 0 rfl
  clear h h1 h2 hy
  go_enter Tryz.func171, Tryz.ntmps171
  go_wp2_with fail
  refine R.mono ?_
  rintro e w1 ⟨rfl, hm, hk⟩
  go_wp2
  go_ret
  exact ⟨rfl, hm, hk⟩
theorem op126 {B : Nat} {w : World} {m sd cap bk : Nat} {g : Geo} {secs : List Sec} (h : MediaAt B w m sd cap g secs) (k : Nat) (h1 : Blk w bk 3 #[.int .i64 (k : Int)]) (hk : k < g.bands) (hg : g.Ok) :
    Calls Tryz.prog 126 #[.pointer (some ⟨m, 0, none⟩), .pointer (some ⟨bk, 0, none⟩)] w fun e w' => e = .returned (.int .i64 0) ∧ MediaAt B w' m sd cap g (eraseBand g secs k) ∧ w.grownBy w' (some sd) := by
  have R := merase_in h k hk hg
  have c1 : w.cell? ⟨bk, 0, none⟩ = some (.int .i64 (k : Int)) := h1.cell 0 rfl
  clear h h1
  go_enter Tryz.func126, Tryz.ntmps126
  go_wp2_with fail
  refine R.mono ?_
  rintro e w1 ⟨rfl, hm, hk⟩
  go_wp2
  go_ret
  exact ⟨rfl, hm, hk⟩

theorem Tryz.info173 : (Tryz.prog.info? 173).map (fun i => (i.zero, i.size, i.bytes)) = some (some .nilFunc, 1, 8) := by kernel_rfl

/-- Pending operations, one more. -/
theorem PendAt.push {B : Nat} {g : Geo} {w w' : World} {v' f : Value} {ps : List POp} {p : POp} {fs : List Value} (h : ∀ (i : Nat) (p : POp), ps[i]? = some p → ∃ f, fs[i]? = some f ∧ OpAt g w f p) (hf : OpAt g w f p) (hl : fs.length = ps.length)
    (hk : Keep B [166, 196, 173] w w') (row : w'.ownsRow B 173 1 v' (ps.length + 1) (fs ++ [f])) : PendAt B g w' v' (ps ++ [p]) := by
  refine ⟨fs ++ [f], by simpa using row, fun i p' hp => ?_⟩
  by_cases hi : i < ps.length
  · rw [List.getElem?_append_left hi] at hp
    obtain ⟨f', h1, h2⟩ := h i p' hp
    exact ⟨f', by rw [List.getElem?_append_left (by omega)]; exact h1, h2.keep hk (by simp) (by simp) (by simp)⟩
  · rw [List.getElem?_append_right (by omega)] at hp
    by_cases h0 : i - ps.length = 0
    · rw [h0] at hp; simp at hp; subst hp
      refine ⟨f, ?_, hf.keep hk (by simp) (by simp) (by simp)⟩
      rw [List.getElem?_append_right (by omega), hl, h0]; rfl
    · rw [List.getElem?_eq_none (by simp; omega)] at hp; cases hp

set_option maxHeartbeats 2000000 in
theorem cdo_in {B : Nat} {w : World} {c : Nat} {g : Geo} {du co : List Sec} {ps : List POp} (h : CacheAt B w c g du co ps) {f : Value} {p : POp} (hf : OpAt g w f p) (hg : g.Ok) (hB : B ≤ w.heap.size) (hp : ps.length ≤ 60000) :
    Calls Tryz.prog 125 #[.pointer (some ⟨c, 0, none⟩), f] w fun e w' => e = .returned (.int .i64 0) ∧ CacheAt B w' c g du (p.run g co) (ps ++ [p]) ∧ Keep B [166, 196, 173] w w' := by
  obtain ⟨md, sd, cd, mc, sc, cc, pv, h⟩ := h
  have c1 : w.cell? ⟨c, 1, none⟩ = some (.pointer (some ⟨mc, 0, none⟩)) := h.blk.cell 1 rfl
  obtain ⟨pa, pc, rfl⟩ := h.pend.shape
  obtain ⟨fs, row, pend⟩ := h.pend
  obtain ⟨i0, hi, hz0, hz1, hz2⟩ := info_parts Tryz.info173
  have hf' := hf
  cases p with
  | write a b =>
    obtain ⟨ba, bb, q0, c0, e, h1, h2, h3, h4, h5, h6⟩ := hf
    subst e
    have R := op171 h.con a b h1 h2 h3 h4 h5 h6 hg hB
    clear h1 h2 h3
    have HF := Lib.hid hf'
    clear hf'
    have HH := Lib.hid h
    have ROW := Lib.hid row
    have PEND := Lib.hid pend
    have hcne : c ≠ sc := by obtain ⟨_, hs, _⟩ := h.con.secBlk; exact h.blk.ne hs (by decide)
    clear h row pend
    go_enter Tryz.func125, Tryz.ntmps125
    go_wp2_with fail
    refine R.mono ?_
    rintro e w1 ⟨rfl, hm, hgr⟩
    have hk1 : Keep B [166, 196, 173] w w1 := HH.out.con.keepOf hgr (by simp)
    have hkd : Keep B [196] w w1 := HH.out.con.keepOf hgr (by simp)
    have hb1 : Blk w1 c 166 #[.pointer (some ⟨md, 0, none⟩), .pointer (some ⟨mc, 0, none⟩), .slice pa ps.length pc] := HH.out.blk.grown hgr hcne
    have d2 : w1.cell? ⟨c, 2, none⟩ = some (.slice pa ps.length pc) := hb1.cell 2 rfl
    have f2 : w1.frozen? ⟨c, 2, none⟩ = false := hb1.free 2
    have hlt := hb1.lt
    have row1 : w1.ownsRow B 173 1 (.slice pa ps.length pc) ps.length fs := ownsRow_keep ROW.out hkd (by simp)
    have hB1 : B ≤ w1.heap.size := Nat.le_trans hB hgr.size
    have HM := Lib.hid hm
    have HG := Lib.hid hgr
    have HK1 := Lib.hid hk1
    have HB1 := Lib.hid hb1
    clear hm hgr hk1 hkd hb1 c1 R
    go_wp2_with (at_builtin; refine wpList_append_own _ rfl _ _ 164 rfl B 173 i0 .nilFunc 1 8 Tryz.underlying164 hi hz0 hz1 hz2 rfl (by decide) _ _ _ rfl (row1.alloc _) ⟨w1.heap.size, 0, none⟩ 1 1 [.func (.func 171) #[] #[.pointer (some ⟨ba, 0, none⟩), .pointer (some ⟨bb, 0, none⟩)]] rfl rfl ?c1 ?c2 ?c3 ?c4 ?c5 ?_)
    case c1 =>
      intro j u hj
      match j, hj with
      | 0, hj => simp at hj; subst hj; simp [Addr.add]
    case c2 => intro u hu; simp at hu; subst hu; rfl
    case c3 => unfold maxLen; omega
    case c4 => omega
    case c5 => simp; omega
    intro v' w2 hown' hgrow hnil
    have hex : ∃ q c', v' = .slice (some ⟨q, 0, none⟩) (ps.length + 1) c' := by
      rcases ownsRow_shape hown' with ⟨h, h0⟩ | ⟨q, c', h, _⟩
      · exact absurd h0 (by omega)
      · exact ⟨q, c', h⟩
    obtain ⟨q, c', hv⟩ := hex
    rw [hv] at hown' ⊢
    have hk2 : Keep B [173] w1 w2 := ((Keep.refl _ _ _).alloc _).grown hgrow (fun b hb => by
      right
      rcases ownsRow_shape row1 with ⟨h, _⟩ | ⟨q, c', h, hq⟩
      · rw [h] at hb; simp [Value.ownBlock] at hb
      · have hb' := hb
        rw [h] at hb'
        simp [Value.ownBlock] at hb'
        subst hb'
        rcases row1.2 with ⟨h2, _⟩ | ⟨g', cap', cur, h2, hge, hcell, _⟩
        · rw [h2] at h; simp at h
        · rw [h2] at h
          simp at h
          obtain ⟨rfl, _⟩ := h
          exact ⟨hge, cur, 173, hcell, by simp⟩)
    have hb2 : Blk w2 c 166 #[.pointer (some ⟨md, 0, none⟩), .pointer (some ⟨mc, 0, none⟩), .slice pa ps.length pc] := HB1.out.keep hk2 (by simp)
    have e2 : w2.cell? ⟨c, 2, none⟩ = some (.slice pa ps.length pc) := hb2.cell 2 rfl
    have g2 : w2.frozen? ⟨c, 2, none⟩ = false := hb2.free 2
    have HOWN := Lib.hid hown'
    have HK2 := Lib.hid hk2
    have HB2 := Lib.hid hb2
    clear hown' hgrow hnil hk2 hb2 hv d2 f2 row1
    go_wp2
    go_ret
    have k3 : Keep B [166] w2 (w2.setCell ⟨c, 2, none⟩ (.slice (some ⟨q, 0, none⟩) (ps.length + 1) c')) := (Keep.refl _ _ _).set HB2.out HH.out.ge (by simp) _ _
    have k23 : Keep B [166, 196, 173] w1 (w2.setCell ⟨c, 2, none⟩ (.slice (some ⟨q, 0, none⟩) (ps.length + 1) c')) := (HK2.out.mono (Nat.le_refl _) (by simp)).trans (k3.mono (Nat.le_refl _) (by simp))
    have kall := HK1.out.trans k23
    refine ⟨rfl, ⟨md, sd, cd, mc, sc, cc, _, HB2.out.set 2 _, HH.out.ge, ?_, ?_, HH.out.ne, ?_⟩, kall⟩
    · exact ((HH.out.dur.keepOther HH.out.con HG.out HH.out.ne).keep HK2.out (by simp) (by simp) (by simp)).keep k3 (by simp) (by simp) (by simp)
    · exact (HM.out.keep HK2.out (by simp) (by simp) (by simp)).keep k3 (by simp) (by simp) (by simp)
    · exact PendAt.push PEND.out HF.out (by have := ROW.out.1; omega) kall (ownsRow_keep HOWN.out k3 (by simp))
  | erase k =>
    obtain ⟨bk, e, h1, h2⟩ := hf
    subst e
    have R := op126 h.con k h1 h2 hg
    clear h1
    have HF := Lib.hid hf'
    clear hf'
    have HH := Lib.hid h
    have ROW := Lib.hid row
    have PEND := Lib.hid pend
    have hcne : c ≠ sc := by obtain ⟨_, hs, _⟩ := h.con.secBlk; exact h.blk.ne hs (by decide)
    clear h row pend
    go_enter Tryz.func125, Tryz.ntmps125
    go_wp2_with fail
    refine R.mono ?_
    rintro e w1 ⟨rfl, hm, hgr⟩
    have hk1 : Keep B [166, 196, 173] w w1 := HH.out.con.keepOf hgr (by simp)
    have hkd : Keep B [196] w w1 := HH.out.con.keepOf hgr (by simp)
    have hb1 : Blk w1 c 166 #[.pointer (some ⟨md, 0, none⟩), .pointer (some ⟨mc, 0, none⟩), .slice pa ps.length pc] := HH.out.blk.grown hgr hcne
    have d2 : w1.cell? ⟨c, 2, none⟩ = some (.slice pa ps.length pc) := hb1.cell 2 rfl
    have f2 : w1.frozen? ⟨c, 2, none⟩ = false := hb1.free 2
    have hlt := hb1.lt
    have row1 : w1.ownsRow B 173 1 (.slice pa ps.length pc) ps.length fs := ownsRow_keep ROW.out hkd (by simp)
    have hB1 : B ≤ w1.heap.size := Nat.le_trans hB hgr.size
    have HM := Lib.hid hm
    have HG := Lib.hid hgr
    have HK1 := Lib.hid hk1
    have HB1 := Lib.hid hb1
    clear hm hgr hk1 hkd hb1 c1 R
    go_wp2_with (at_builtin; refine wpList_append_own _ rfl _ _ 164 rfl B 173 i0 .nilFunc 1 8 Tryz.underlying164 hi hz0 hz1 hz2 rfl (by decide) _ _ _ rfl (row1.alloc _) ⟨w1.heap.size, 0, none⟩ 1 1 [.func (.func 126) #[] #[.pointer (some ⟨bk, 0, none⟩)]] rfl rfl ?c1 ?c2 ?c3 ?c4 ?c5 ?_)
    case c1 =>
      intro j u hj
      match j, hj with
      | 0, hj => simp at hj; subst hj; simp [Addr.add]
    case c2 => intro u hu; simp at hu; subst hu; rfl
    case c3 => unfold maxLen; omega
    case c4 => omega
    case c5 => simp; omega
    intro v' w2 hown' hgrow hnil
    have hex : ∃ q c', v' = .slice (some ⟨q, 0, none⟩) (ps.length + 1) c' := by
      rcases ownsRow_shape hown' with ⟨h, h0⟩ | ⟨q, c', h, _⟩
      · exact absurd h0 (by omega)
      · exact ⟨q, c', h⟩
    obtain ⟨q, c', hv⟩ := hex
    rw [hv] at hown' ⊢
    have hk2 : Keep B [173] w1 w2 := ((Keep.refl _ _ _).alloc _).grown hgrow (fun b hb => by
      right
      rcases ownsRow_shape row1 with ⟨h, _⟩ | ⟨q, c', h, hq⟩
      · rw [h] at hb; simp [Value.ownBlock] at hb
      · have hb' := hb
        rw [h] at hb'
        simp [Value.ownBlock] at hb'
        subst hb'
        rcases row1.2 with ⟨h2, _⟩ | ⟨g', cap', cur, h2, hge, hcell, _⟩
        · rw [h2] at h; simp at h
        · rw [h2] at h
          simp at h
          obtain ⟨rfl, _⟩ := h
          exact ⟨hge, cur, 173, hcell, by simp⟩)
    have hb2 : Blk w2 c 166 #[.pointer (some ⟨md, 0, none⟩), .pointer (some ⟨mc, 0, none⟩), .slice pa ps.length pc] := HB1.out.keep hk2 (by simp)
    have e2 : w2.cell? ⟨c, 2, none⟩ = some (.slice pa ps.length pc) := hb2.cell 2 rfl
    have g2 : w2.frozen? ⟨c, 2, none⟩ = false := hb2.free 2
    have HOWN := Lib.hid hown'
    have HK2 := Lib.hid hk2
    have HB2 := Lib.hid hb2
    clear hown' hgrow hnil hk2 hb2 hv d2 f2 row1
    go_wp2
    go_ret
    have k3 : Keep B [166] w2 (w2.setCell ⟨c, 2, none⟩ (.slice (some ⟨q, 0, none⟩) (ps.length + 1) c')) := (Keep.refl _ _ _).set HB2.out HH.out.ge (by simp) _ _
    have k23 : Keep B [166, 196, 173] w1 (w2.setCell ⟨c, 2, none⟩ (.slice (some ⟨q, 0, none⟩) (ps.length + 1) c')) := (HK2.out.mono (Nat.le_refl _) (by simp)).trans (k3.mono (Nat.le_refl _) (by simp))
    have kall := HK1.out.trans k23
    refine ⟨rfl, ⟨md, sd, cd, mc, sc, cc, _, HB2.out.set 2 _, HH.out.ge, ?_, ?_, HH.out.ne, ?_⟩, kall⟩
    · exact ((HH.out.dur.keepOther HH.out.con HG.out HH.out.ne).keep HK2.out (by simp) (by simp) (by simp)).keep k3 (by simp) (by simp) (by simp)
    · exact (HM.out.keep HK2.out (by simp) (by simp) (by simp)).keep k3 (by simp) (by simp) (by simp)
    · exact PendAt.push PEND.out HF.out (by have := ROW.out.1; omega) kall (ownsRow_keep HOWN.out k3 (by simp))

set_option maxHeartbeats 1000000 in
theorem cwrite_in {B : Nat} {w : World} {c : Nat} {g : Geo} {du co : List Sec} {ps : List POp} (h : CacheAt B w c g du co ps) (a : Nat) (ha : a < g.size) (q0 c0 : Nat) (b : List UInt8) (hy : BytesAt w (.slice (some ⟨q0, 0, none⟩) b.length c0) b)
    (hne : b ≠ []) (hl : b.length ≤ 64) (hg : g.Ok) (hB : B ≤ w.heap.size) (hp : ps.length ≤ 60000) :
    Calls Tryz.prog 149 #[.pointer (some ⟨c, 0, none⟩), .int .i64 a, .slice (some ⟨q0, 0, none⟩) b.length c0] w fun e w' => e = .returned (.int .i64 0) ∧ CacheAt B w' c g du (writeSec g co a b) (ps ++ [.write a b]) ∧ Keep B [166, 196, 173] w w' := by
  have hx0 := ((Ext.refl w).alloc (.cells #[.int .i64 (a : Int)] 3)).alloc (.cells #[.slice (some ⟨q0, 0, none⟩) b.length c0] 65)
  have CB := cloneBytes (BytesAt.keep hy hx0 (by simp)) hne (by omega)
  have HH := Lib.hid h
  have HX0 := Lib.hid hx0
  clear h hx0 hy
  go_enter Tryz.func149, Tryz.ntmps149
  go_wp2_with fail
  refine CB.mono ?_
  rintro e w1 ⟨q, c1, rfl, hy1, hx1⟩
  have b1 : Blk w1 w.heap.size 3 #[.int .i64 (a : Int)] := ((Blk.new w #[.int .i64 (a : Int)] 3).alloc _).ext hx1
  have b2 : Blk w1 (w.heap.size + 1) 65 #[.slice (some ⟨q0, 0, none⟩) b.length c0] := by
    have := (Blk.new (w.alloc (.cells #[.int .i64 (a : Int)] 3)) #[.slice (some ⟨q0, 0, none⟩) b.length c0] 65).ext hx1
    simpa using this
  have d2 : w1.cell? ⟨w.heap.size + 1, 0, none⟩ = some (.slice (some ⟨q0, 0, none⟩) b.length c0) := b2.cell 0 rfl
  have f2 : w1.frozen? ⟨w.heap.size + 1, 0, none⟩ = false := b2.free 0
  have hs1 := b2.lt
  have b3 := b2.set 0 (.slice (some ⟨q, 0, none⟩) b.length c1)
  have k3 : Keep B [65] w1 (w1.setCell ⟨w.heap.size + 1, 0, none⟩ (.slice (some ⟨q, 0, none⟩) b.length c1)) := (Keep.refl _ _ _).set b2 (by omega) (by simp) _ _
  have b4 := b1.keep k3 (by simp)
  have kx : Ext w (w1.setCell ⟨w.heap.size + 1, 0, none⟩ (.slice (some ⟨q, 0, none⟩) b.length c1)) := Keep.set_new (HX0.out.trans hx1) (by omega) _ _
  have D := cdo_in (HH.out.ext kx) (f := .func (.func 171) #[] #[.pointer (some ⟨w.heap.size, 0, none⟩), .pointer (some ⟨w.heap.size + 1, 0, none⟩)]) (p := .write a b)
    ⟨_, _, q, c1, rfl, b4, b3, BytesAt.keep hy1 k3 (by simp), hne, hl, ha⟩ hg (Nat.le_trans hB kx.size) hp
  have KX := Lib.hid kx
  clear b1 b2 b3 b4 k3 kx CB hy1 hx1
  go_wp2_with fail
  refine D.mono ?_
  rintro e w2 ⟨rfl, hc, hk⟩
  go_wp2
  go_ret
  exact ⟨rfl, hc, (KX.out.keep _ _).trans hk⟩

set_option maxHeartbeats 1000000 in
theorem cdo_out171 {B : Nat} {w : World} {c : Nat} {g : Geo} {du co : List Sec} {ps : List POp} (h : CacheAt B w c g du co ps) (a : Int) (ha : ¬ (0 ≤ a ∧ a < g.size)) (ba bb q c0 n : Nat)
    (h1 : Blk w ba 3 #[.int .i64 a]) (h2 : Blk w bb 65 #[.slice (some ⟨q, 0, none⟩) n c0]) :
    Calls Tryz.prog 125 #[.pointer (some ⟨c, 0, none⟩), .func (.func 171) #[] #[.pointer (some ⟨ba, 0, none⟩), .pointer (some ⟨bb, 0, none⟩)]] w fun e w' => e = .returned (.int .i64 2) ∧ w = w' := by
  obtain ⟨md, sd, cd, mc, sc, cc, pv, h⟩ := h
  have c1 : w.cell? ⟨c, 1, none⟩ = some (.pointer (some ⟨mc, 0, none⟩)) := h.blk.cell 1 rfl
  have R := mwrite_out h.con a ha (.slice (some ⟨q, 0, none⟩) n c0)
  have d1 : w.cell? ⟨ba, 0, none⟩ = some (.int .i64 a) := h1.cell 0 rfl
  have d2 : w.cell? ⟨bb, 0, none⟩ = some (.slice (some ⟨q, 0, none⟩) n c0) := h2.cell 0 rfl
  have R2 : Calls Tryz.prog 171 #[.pointer (some ⟨mc, 0, none⟩), .pointer (some ⟨ba, 0, none⟩), .pointer (some ⟨bb, 0, none⟩)] w fun e w' => e = .returned (.int .i64 2) ∧ w = w' := by
    clear h h1 h2 c1 ha
    go_enter Tryz.func171, Tryz.ntmps171
    go_wp2_with fail
    refine R.mono ?_
    rintro e w1 ⟨rfl, rfl⟩
    go_wp2
    go_ret
    exact ⟨rfl, rfl⟩
  clear R h h1 h2 ha
  go_enter Tryz.func125, Tryz.ntmps125
  go_wp2_with fail
  refine R2.mono ?_
  rintro e w1 ⟨rfl, rfl⟩
  go_wp2
  go_ret
  exact ⟨rfl, rfl⟩
set_option maxHeartbeats 1000000 in
theorem cwrite_out {B : Nat} {w : World} {c : Nat} {g : Geo} {du co : List Sec} {ps : List POp} (h : CacheAt B w c g du co ps) (a : Int) (ha : ¬ (0 ≤ a ∧ a < g.size)) (q0 c0 : Nat) (b : List UInt8) (hy : BytesAt w (.slice (some ⟨q0, 0, none⟩) b.length c0) b)
    (hne : b ≠ []) (hl : b.length ≤ 64) :
    Calls Tryz.prog 149 #[.pointer (some ⟨c, 0, none⟩), .int .i64 a, .slice (some ⟨q0, 0, none⟩) b.length c0] w fun e w' => e = .returned (.int .i64 2) ∧ Ext w w' := by
  have hx0 := ((Ext.refl w).alloc (.cells #[.int .i64 a] 3)).alloc (.cells #[.slice (some ⟨q0, 0, none⟩) b.length c0] 65)
  have CB := cloneBytes (BytesAt.keep hy hx0 (by simp)) hne (by omega)
  have HH := Lib.hid h
  have HX0 := Lib.hid hx0
  have HA := Lib.hid ha
  clear h hx0 hy ha
  go_enter Tryz.func149, Tryz.ntmps149
  go_wp2_with fail
  refine CB.mono ?_
  rintro e w1 ⟨q, c1, rfl, hy1, hx1⟩
  have b1 : Blk w1 w.heap.size 3 #[.int .i64 a] := ((Blk.new w #[.int .i64 a] 3).alloc _).ext hx1
  have b2 : Blk w1 (w.heap.size + 1) 65 #[.slice (some ⟨q0, 0, none⟩) b.length c0] := by
    have := (Blk.new (w.alloc (.cells #[.int .i64 a] 3)) #[.slice (some ⟨q0, 0, none⟩) b.length c0] 65).ext hx1
    simpa using this
  have d2 : w1.cell? ⟨w.heap.size + 1, 0, none⟩ = some (.slice (some ⟨q0, 0, none⟩) b.length c0) := b2.cell 0 rfl
  have f2 : w1.frozen? ⟨w.heap.size + 1, 0, none⟩ = false := b2.free 0
  have hs1 := b2.lt
  have b3 := b2.set 0 (.slice (some ⟨q, 0, none⟩) b.length c1)
  have k3 : Keep 0 [65] w1 (w1.setCell ⟨w.heap.size + 1, 0, none⟩ (.slice (some ⟨q, 0, none⟩) b.length c1)) := (Keep.refl _ _ _).set b2 (by omega) (by simp) _ _
  have b4 := b1.keep k3 (by simp)
  have kx : Ext w (w1.setCell ⟨w.heap.size + 1, 0, none⟩ (.slice (some ⟨q, 0, none⟩) b.length c1)) := Keep.set_new (HX0.out.trans hx1) (by omega) _ _
  have D := cdo_out171 (HH.out.ext kx) a HA.out w.heap.size (w.heap.size + 1) q c1 b.length b4 b3
  have KX := Lib.hid kx
  clear b1 b2 b3 b4 k3 kx CB hy1 hx1
  go_wp2_with fail
  refine D.mono ?_
  rintro e w2 ⟨rfl, rfl⟩
  go_wp2
  go_ret
  exact ⟨rfl, KX.out⟩

set_option maxHeartbeats 1000000 in
theorem cerase_in {B : Nat} {w : World} {c : Nat} {g : Geo} {du co : List Sec} {ps : List POp} (h : CacheAt B w c g du co ps) (k : Nat) (hk : k < g.bands) (hg : g.Ok) (hB : B ≤ w.heap.size) (hp : ps.length ≤ 60000) :
    Calls Tryz.prog 98 #[.pointer (some ⟨c, 0, none⟩), .int .i64 k] w fun e w' => e = .returned (.int .i64 0) ∧ CacheAt B w' c g du (eraseBand g co k) (ps ++ [.erase k]) ∧ Keep B [166, 196, 173] w w' := by
  have kx : Ext w (w.alloc (.cells #[.int .i64 (k : Int)] 3)) := (Ext.refl w).alloc _
  have D := cdo_in (h.ext kx) (f := .func (.func 126) #[] #[.pointer (some ⟨w.heap.size, 0, none⟩)]) (p := .erase k) ⟨_, rfl, Blk.new _ _ _, hk⟩ hg (Nat.le_trans hB kx.size) hp
  have KX := Lib.hid kx
  clear h kx
  go_enter Tryz.func98, Tryz.ntmps98
  go_wp2_with fail
  refine D.mono ?_
  rintro e w2 ⟨rfl, hc, hk⟩
  go_wp2
  go_ret
  exact ⟨rfl, hc, (KX.out.keep _ _).trans hk⟩
end Go.Proofs.YthhcooljjhdjbaaGreat
