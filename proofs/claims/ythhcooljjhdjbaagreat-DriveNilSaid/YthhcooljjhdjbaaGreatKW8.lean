/- Contracts: the cache cut and flushed. -/
import Derived.Test.YthhcooljjhdjbaaGreatKW7
set_option linter.unusedVariables false
set_option linter.unusedSimpArgs false
namespace Go.Proofs.YthhcooljjhdjbaaGreat
open Go.RowKit

theorem runOps_snoc (g : Geo) (l : List Sec) (ps : List POp) (j : Nat) (p : POp) (h : ps[j]? = some p) : runOps g l (ps.take (j + 1)) = p.run g (runOps g l (ps.take j)) := by
  have hl := (List.getElem?_eq_some_iff.1 h).1
  have e : ps.take (j + 1) = ps.take j ++ [p] := by
    rw [List.take_succ_eq_append_getElem hl]
    rw [List.getElem?_eq_getElem hl] at h
    rw [Option.some.inj h]
  unfold runOps
  rw [e, List.foldl_append]; rfl
def cutN (keep : Int) (n : Nat) : Nat := (min (max keep 0) n).toNat
theorem cutN_le (keep : Int) (n : Nat) : cutN keep n ≤ n := by unfold cutN; omega

set_option maxHeartbeats 4000000 in
theorem ccut {B : Nat} {w : World} {c : Nat} {g : Geo} {du co : List Sec} {ps : List POp} (h : CacheAt B w c g du co ps) (keep : Int) (hg : g.Ok) (hB : B ≤ w.heap.size) (hp : ps.length ≤ 60000) :
    Calls Tryz.prog 99 #[.pointer (some ⟨c, 0, none⟩), .int .i64 keep] w fun e w' => e = .returned (.tuple #[]) ∧
      CacheAt B w' c g (runOps g du (ps.take (cutN keep ps.length))) (if keep < ps.length then runOps g du (ps.take (cutN keep ps.length)) else co) [] ∧ Keep B [166, 196, 173] w w' := by
  obtain ⟨md, sd, cd, mc, sc, cc, pv, h⟩ := h
  have c0 : w.cell? ⟨c, 0, none⟩ = some (.pointer (some ⟨md, 0, none⟩)) := h.blk.cell 0 rfl
  have c2 : w.cell? ⟨c, 2, none⟩ = some pv := h.blk.cell 2 rfl
  obtain ⟨fs, row, pend⟩ := h.pend
  have hcne : c ≠ sd := by obtain ⟨_, hs, _⟩ := h.dur.secBlk; exact h.blk.ne hs (by decide)
  rcases ownsRow_shape row with ⟨rfl, h0⟩ | ⟨q, pc, rfl, hq⟩
  · have hps : ps = [] := List.eq_nil_of_length_eq_zero h0
    subst hps
    have HH := Lib.hid h
    clear row pend h h0
    have hge := HH.out.ge
    have hb := HH.out.blk
    have f1 : w.frozen? ⟨c, 1, none⟩ = false := hb.free 1
    have f2 : w.frozen? ⟨c, 2, none⟩ = false := hb.free 2
    have c1 : w.cell? ⟨c, 1, none⟩ = some (.pointer (some ⟨mc, 0, none⟩)) := hb.cell 1 rfl
    have hn0 : cutN keep 0 = 0 := by unfold cutN; omega
    have hr0 : runOps g du (List.take (cutN keep 0) ([] : List POp)) = du := by rw [hn0]; rfl
    simp only [List.length_nil, hr0]
    clear hn0 hr0 hb
    by_cases hlt : keep < 0
    · have hif : (if keep < ((0 : Nat) : Int) then du else co) = du := if_pos (by omega)
      rw [hif]
      clear hif
      go_enter Tryz.func99, Tryz.ntmps99
      go_wp2
      go_quiet (fail)
      go_wp2
      go_loop [30] (fun i => i = .int .i64 0) (fun _ => 0)
      case atStart => rfl
      case round =>
        subst hrel
        have k3 : Keep B [166] (w.drewN nq) ((w.drewN nq).setCell ⟨c, 2, none⟩ (.slice none 0 0)) := (Keep.refl _ _ _).set (HH.out.blk.drewN nq) hge (by simp) _ _
        have k0 : Ext w (w.drewN nq) := (Ext.refl w).drewN nq
        have hd3 := (HH.out.dur.keep k0 (by simp) (by simp) (by simp)).keep k3 (by simp) (by simp) (by simp)
        have hb3 := (HH.out.blk.drewN nq).set 2 (.slice none 0 0)
        have R := mclone (B' := B) hd3 hg (by simp [World.setCell]; omega)
        have HB3 := Lib.hid hb3
        have HKA := Lib.hid ((k0.keep B [166, 196, 173]).trans (k3.mono (Nat.le_refl _) (by simp)))
        have HD3 := Lib.hid hd3
        clear k3 hb3 hd3 k0
        go_wp2_with fail
        refine R.mono ?_
        rintro e w2 ⟨m2, s2, c2', rfl, hm2, hx2, hge1, hge2⟩
        have hb4 := HB3.out.ext hx2
        have d1 : w2.cell? ⟨c, 1, none⟩ = some (.pointer (some ⟨mc, 0, none⟩)) := hb4.cell 1 rfl
        have g1 : w2.frozen? ⟨c, 1, none⟩ = false := hb4.free 1
        have HB4 := Lib.hid hb4
        have HM2 := Lib.hid hm2
        have HX2 := Lib.hid hx2
        have HGE := Lib.hid hge2
        clear hb4 hm2 hx2 hge1 hge2 R
        go_wp2
        go_end0
        have k5 : Keep B [166] w2 (w2.setCell ⟨c, 1, none⟩ (.pointer (some ⟨m2, 0, none⟩))) := (Keep.refl _ _ _).set HB4.out hge (by simp) _ _
        refine ⟨rfl, ?_, (HKA.out.trans (HX2.out.keep _ _)).trans (k5.mono (Nat.le_refl _) (by simp))⟩
        refine ⟨md, sd, cd, m2, s2, c2', .slice none 0 0, HB4.out.set 1 _, hge, ?_, ?_, ?_, [], World.ownsRow_nil _ _ _ _, fun i p hp => by simp at hp⟩
        · exact (HD3.out.keep HX2.out (by simp) (by simp) (by simp)).keep k5 (by simp) (by simp) (by simp)
        · exact HM2.out.keep k5 (by simp) (by simp) (by simp)
        · have := HD3.out.sec_lt; have := HGE.out; omega
    · have hif : (if keep < ((0 : Nat) : Int) then du else co) = co := if_neg (by omega)
      rw [hif]
      clear hif
      have hlt' : 0 ≤ keep := by omega
      by_cases heq : keep = 0
      · subst heq
        clear hlt hlt'
        go_enter Tryz.func99, Tryz.ntmps99
        go_wp2
        go_quiet (fail)
        go_wp2
        go_loop [30] (fun i => i = .int .i64 0) (fun _ => 0)
        case atStart => rfl
        case round =>
          subst hrel
          have k3 : Keep B [166] (w.drewN nq) ((w.drewN nq).setCell ⟨c, 2, none⟩ (.slice none 0 0)) := (Keep.refl _ _ _).set (HH.out.blk.drewN nq) hge (by simp) _ _
          have k0 : Ext w (w.drewN nq) := (Ext.refl w).drewN nq
          have HD3 := Lib.hid ((HH.out.dur.keep k0 (by simp) (by simp) (by simp)).keep k3 (by simp) (by simp) (by simp))
          have HC3 := Lib.hid ((HH.out.con.keep k0 (by simp) (by simp) (by simp)).keep k3 (by simp) (by simp) (by simp))
          have HB3 := Lib.hid ((HH.out.blk.drewN nq).set 2 (.slice none 0 0))
          have HKA := Lib.hid ((k0.keep B [166, 196, 173]).trans (k3.mono (Nat.le_refl _) (by simp)))
          clear k3 k0
          go_wp2
          go_end0
          exact ⟨rfl, ⟨md, sd, cd, mc, sc, cc, .slice none 0 0, HB3.out, hge, HD3.out, HC3.out, HH.out.ne, [], World.ownsRow_nil _ _ _ _, fun i p hp => by simp at hp⟩, HKA.out⟩
      · have hpos : 0 < keep := by omega
        clear heq hlt hlt'
        go_enter Tryz.func99, Tryz.ntmps99
        go_wp2
        go_quiet (fail)
        go_wp2
        go_loop [30] (fun i => i = .int .i64 0) (fun _ => 0)
        case atStart => rfl
        case round =>
          subst hrel
          have k3 : Keep B [166] (w.drewN nq) ((w.drewN nq).setCell ⟨c, 2, none⟩ (.slice none 0 0)) := (Keep.refl _ _ _).set (HH.out.blk.drewN nq) hge (by simp) _ _
          have k0 : Ext w (w.drewN nq) := (Ext.refl w).drewN nq
          have HD3 := Lib.hid ((HH.out.dur.keep k0 (by simp) (by simp) (by simp)).keep k3 (by simp) (by simp) (by simp))
          have HC3 := Lib.hid ((HH.out.con.keep k0 (by simp) (by simp) (by simp)).keep k3 (by simp) (by simp) (by simp))
          have HB3 := Lib.hid ((HH.out.blk.drewN nq).set 2 (.slice none 0 0))
          have HKA := Lib.hid ((k0.keep B [166, 196, 173]).trans (k3.mono (Nat.le_refl _) (by simp)))
          clear k3 k0
          go_wp2
          go_end0
          exact ⟨rfl, ⟨md, sd, cd, mc, sc, cc, .slice none 0 0, HB3.out, hge, HD3.out, HC3.out, HH.out.ne, [], World.ownsRow_nil _ _ _ _, fun i p hp => by simp at hp⟩, HKA.out⟩
  · obtain ⟨n, hn⟩ : ∃ n, n = cutN keep ps.length := ⟨_, rfl⟩
    have hn2 : (n : Int) = min (max keep 0) ps.length := by rw [hn]; unfold cutN; omega
    have hnl : n ≤ ps.length := by rw [hn]; exact cutN_le _ _
    have hpc : ps.length ≤ pc := by
      rcases row.2 with ⟨h', _⟩ | ⟨g', cap', cur, h', hB, hg, hl, _⟩
      · simp at h'
      · simp at h'; omega
    rw [← hn]
    have HH := Lib.hid h
    have ROW := Lib.hid row
    have PEND := Lib.hid pend
    have HN := Lib.hid hn
    have HN2 := Lib.hid hn2
    clear h row pend hn hn2
    have hbb : ∀ b : Bool, b = decide (keep < (ps.length : Int)) → (if keep < ps.length then runOps g du (ps.take n) else co) = (if b = true then runOps g du (ps.take n) else co) := by
      intro b hb; subst hb; by_cases hk : keep < (ps.length : Int) <;> simp [hk]
    obtain ⟨lost, hlost⟩ : ∃ b : Bool, b = decide (keep < (ps.length : Int)) := ⟨_, rfl⟩
    rw [hbb lost hlost]
    have HL := Lib.hid hlost
    clear hbb hlost
    go_enter Tryz.func99, Tryz.ntmps99
    go_upto_region 2 with fail
    go_cut [4, 28, 29, 30] (fun s4 s28 s29 s30 wx => s4 = .bool lost ∧ s28 = .slice (some ⟨q, 0, none⟩) n pc ∧ s29 = .int .i64 n ∧ s30 = .int .i64 0 ∧ ∃ nq, wx = w.drewN nq)
    case first =>
      by_cases hk0 : keep < 0
      · have hn0 : n = 0 := by have := HN2.out; omega
        subst hn0
        go_quiet (fail)
        go_wp2_with fail
        go_meet
        case rel => exact ⟨by rw [HL.out], rfl, rfl, rfl, _, rfl⟩
      · by_cases hk1 : keep < ps.length
        · obtain ⟨m, rfl⟩ := Int.eq_ofNat_of_zero_le (show 0 ≤ keep by omega)
          have hn0 : n = m := by have := HN2.out; omega
          subst hn0
          have hn1 : (n : Int) < (ps.length : Int) := hk1
          go_quiet (fail)
          go_wp2_with fail
          go_meet
          case rel => exact ⟨by rw [HL.out]; first | (simp; done) | (simp; omega), rfl, by simp, rfl, _, rfl⟩
        · have hn0 : n = ps.length := by have := HN2.out; omega
          subst hn0
          by_cases heq : keep = ps.length
          · subst heq
            clear hk0 hk1
            go_quiet (fail)
            go_wp2_with fail
            go_meet
            case rel => exact ⟨by rw [HL.out], by simp, by simp, rfl, _, rfl⟩
          · have hk2 : (ps.length : Int) < keep := by omega
            go_quiet (fail)
            go_wp2_with fail
            go_meet
            case rel => exact ⟨by rw [HL.out], rfl, by simp, rfl, _, rfl⟩
    case rest =>
      obtain ⟨rfl, rfl, rfl, rfl, nq, rfl⟩ := hcut
      clear HN2 HL
      go_wp2_with fail
      go_loopw [30] (fun i wr => ∃ j : Nat, j ≤ n ∧ i = .int .i64 j ∧ MediaAt B wr md sd cd g (runOps g du (ps.take j)) ∧ w.grownBy wr (some sd)) (fun i _ => n - (intOf i).toNat)
      case atStart => exact ⟨0, Nat.zero_le _, rfl, HH.out.dur.keep ((Ext.refl w).drewN nq) (by simp) (by simp) (by simp), Keep.grownBy (Keep.drewN (Ext.refl w) nq) _⟩
      case round =>
        obtain ⟨j, hj, rfl, hmr, hgr⟩ := hrel
        have hkr : Keep B [196] w wr := HH.out.dur.keepOf hgr (by simp)
        have hbr : Blk wr c 166 #[.pointer (some ⟨md, 0, none⟩), .pointer (some ⟨mc, 0, none⟩), .slice (some ⟨q, 0, none⟩) ps.length pc] := HH.out.blk.grown hgr hcne
        have e0 : wr.cell? ⟨c, 0, none⟩ = some (.pointer (some ⟨md, 0, none⟩)) := hbr.cell 0 rfl
        have e1 : wr.cell? ⟨c, 1, none⟩ = some (.pointer (some ⟨mc, 0, none⟩)) := hbr.cell 1 rfl
        have e2 : wr.cell? ⟨c, 2, none⟩ = some (.slice (some ⟨q, 0, none⟩) ps.length pc) := hbr.cell 2 rfl
        have f1 : wr.frozen? ⟨c, 1, none⟩ = false := hbr.free 1
        have f2 : wr.frozen? ⟨c, 2, none⟩ = false := hbr.free 2
        have HBR := Lib.hid hbr
        clear hbr
        by_cases hlt : j < n
        · have hpj : ps[j]? = some ps[j] := List.getElem?_eq_getElem (by omega)
          obtain ⟨f, hf1, hf2⟩ := PEND.out j _ hpj
          generalize ps[j] = p at hpj hf2
          cases p with
          | write a b =>
            obtain ⟨ba, bb, q0, c0', e, h1, h2, h3, h4, h5, h6⟩ := hf2.keep hkr (by simp) (by simp) (by simp)
            subst e
            have R := op171 hmr a b h1 h2 h3 h4 h5 h6 hg (Nat.le_trans hB hgr.size)
            clear h1 h2 h3 hf2
            have hq1 : wr.cell? ⟨q, j, none⟩ = some (Value.func (.func 171) #[] #[.pointer (some ⟨ba, 0, none⟩), .pointer (some ⟨bb, 0, none⟩)]) := by rw [(ownsRow_keep ROW.out hkr (by simp)).cellAt j (by omega)]; exact hf1
            have HMr := Lib.hid hmr
            have HGr := Lib.hid hgr
            have HF1 := Lib.hid hf1
            clear hmr hgr hkr hf1
            have hj64 : (j : Int) < 60000 := by omega
            go_wp2_with fail
            refine R.mono ?_
            rintro e w2 ⟨rfl, hm2, hg2⟩
            have HM2 := Lib.hid hm2
            have HG2 := Lib.hid hg2
            clear hm2 hg2 R
            go_wp2
            go_roundw
            case rel => exact ⟨j + 1, by omega, by go_num, by rw [runOps_snoc g du ps j _ hpj]; exact HM2.out, grown_trans HGr.out HG2.out⟩
            case measure => simp [intOf]; omega
          | erase k =>
            obtain ⟨bk, e, h1, h2⟩ := hf2.keep hkr (by simp) (by simp) (by simp)
            subst e
            have R := op126 hmr k h1 h2 hg
            clear h1 hf2
            have hq1 : wr.cell? ⟨q, j, none⟩ = some (Value.func (.func 126) #[] #[.pointer (some ⟨bk, 0, none⟩)]) := by rw [(ownsRow_keep ROW.out hkr (by simp)).cellAt j (by omega)]; exact hf1
            have HMr := Lib.hid hmr
            have HGr := Lib.hid hgr
            have HF1 := Lib.hid hf1
            clear hmr hgr hkr hf1
            have hj64 : (j : Int) < 60000 := by omega
            go_wp2_with fail
            refine R.mono ?_
            rintro e w2 ⟨rfl, hm2, hg2⟩
            have HM2 := Lib.hid hm2
            have HG2 := Lib.hid hg2
            clear hm2 hg2 R
            go_wp2
            go_roundw
            case rel => exact ⟨j + 1, by omega, by go_num, by rw [runOps_snoc g du ps j _ hpj]; exact HM2.out, grown_trans HGr.out HG2.out⟩
            case measure => simp [intOf]; omega
        · obtain rfl : j = n := by omega
          have hcon : MediaAt B wr mc sc cc g co := HH.out.con.keepOther HH.out.dur hgr (Ne.symm HH.out.ne)
          have HC := Lib.hid hcon
          have HMr := Lib.hid hmr
          have HGr := Lib.hid hgr
          have HK := Lib.hid hkr
          clear hmr hgr hkr hcon
          have hge := HH.out.ge
          have k3 : Keep B [166] wr (wr.setCell ⟨c, 2, none⟩ (.slice none 0 0)) := (Keep.refl _ _ _).set HBR.out hge (by simp) _ _
          have hb3 := HBR.out.set 2 (.slice none 0 0)
          have kall : Keep B [166, 196, 173] w (wr.setCell ⟨c, 2, none⟩ (.slice none 0 0)) := (HK.out.mono (Nat.le_refl _) (by simp)).trans (k3.mono (Nat.le_refl _) (by simp))
          have hd3 := HMr.out.keep k3 (by simp) (by simp) (by simp)
          have hc3 := HC.out.keep k3 (by simp) (by simp) (by simp)
          cases lost with
          | false =>
            have HB3 := Lib.hid hb3
            have HKA := Lib.hid kall
            have HD3 := Lib.hid hd3
            have HC3 := Lib.hid hc3
            clear k3 hb3 kall hd3 hc3
            go_wp2
            go_end0
            refine ⟨rfl, ?_, HKA.out⟩
            try simp only [Bool.false_eq_true, if_false]
            exact ⟨md, sd, cd, mc, sc, cc, .slice none 0 0, HB3.out, hge, HD3.out, HC3.out, HH.out.ne, [], World.ownsRow_nil _ _ _ _, fun i p hp => by simp at hp⟩
          | true =>
            have R := mclone (B' := B) hd3 hg (by have := HGr.out.size; simp [World.setCell]; omega)
            have HB3 := Lib.hid hb3
            have HKA := Lib.hid kall
            have HD3 := Lib.hid hd3
            clear k3 hb3 kall hd3 hc3
            go_wp2_with fail
            refine R.mono ?_
            rintro e w2 ⟨m2, s2, c2', rfl, hm2, hx2, hge1, hge2⟩
            have hb4 := HB3.out.ext hx2
            have d1 : w2.cell? ⟨c, 1, none⟩ = some (.pointer (some ⟨mc, 0, none⟩)) := hb4.cell 1 rfl
            have g1 : w2.frozen? ⟨c, 1, none⟩ = false := hb4.free 1
            have HB4 := Lib.hid hb4
            have HM2 := Lib.hid hm2
            have HX2 := Lib.hid hx2
            have HGE := Lib.hid hge2
            clear hb4 hm2 hx2 hge1 hge2 R
            go_wp2
            go_end0
            have k5 : Keep B [166] w2 (w2.setCell ⟨c, 1, none⟩ (.pointer (some ⟨m2, 0, none⟩))) := (Keep.refl _ _ _).set HB4.out hge (by simp) _ _
            refine ⟨rfl, ?_, (HKA.out.trans (HX2.out.keep _ _)).trans (k5.mono (Nat.le_refl _) (by simp))⟩
            try simp only [if_true]
            refine ⟨md, sd, cd, m2, s2, c2', .slice none 0 0, HB4.out.set 1 _, hge, ?_, ?_, ?_, [], World.ownsRow_nil _ _ _ _, fun i p hp => by simp at hp⟩
            · exact (HD3.out.keep HX2.out (by simp) (by simp) (by simp)).keep k5 (by simp) (by simp) (by simp)
            · exact HM2.out.keep k5 (by simp) (by simp) (by simp)
            · have := HD3.out.sec_lt; have := HGE.out; omega

/-- The cache flushed: all that is pending takes effect. -/
theorem cflush {B : Nat} {w : World} {c : Nat} {g : Geo} {du co : List Sec} {ps : List POp} (h : CacheAt B w c g du co ps) (hg : g.Ok) (hB : B ≤ w.heap.size) (hp : ps.length ≤ 60000) :
    Calls Tryz.prog 89 #[.pointer (some ⟨c, 0, none⟩)] w fun e w' => e = .returned (.tuple #[]) ∧ CacheAt B w' c g (runOps g du ps) co [] ∧ Keep B [166, 196, 173] w w' := by
  have R := ccut h ps.length hg hB hp
  have hn : cutN (ps.length : Int) ps.length = ps.length := by unfold cutN; omega
  rw [hn, List.take_length, if_neg (by omega)] at R
  obtain ⟨md, sd, cd, mc, sc, cc, pv, h⟩ := h
  have c2 : w.cell? ⟨c, 2, none⟩ = some pv := h.blk.cell 2 rfl
  obtain ⟨pa, pc, rfl⟩ := h.pend.shape
  clear h hn
  go_enter Tryz.func89, Tryz.ntmps89
  go_wp2_with fail
  refine R.mono ?_
  rintro e w1 ⟨rfl, hc, hk⟩
  go_wp2
  go_end0
  exact ⟨rfl, hc, hk⟩
end Go.Proofs.YthhcooljjhdjbaaGreat
