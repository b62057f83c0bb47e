/- Contracts: the disk writes. -/
import Derived.Test.YthhcooljjhdjbaaGreatKW13
set_option linter.unusedVariables false
set_option linter.unusedSimpArgs false
namespace Go.Proofs.YthhcooljjhdjbaaGreat
open Go.RowKit

theorem Dsk.has_iff (d : Dsk) (a : Int) : d.has a = true ↔ 0 ≤ a ∧ a < d.geo.size := by simp [Dsk.has]
theorem cput {B : Nat} {w : World} {ad ap ac : Nat} {fv : Value} {d : Dsk} (h : DskIn B w ad ap d ac fv) (tt : Int) (q0 c0 : Nat) (b : List UInt8) (hy : BytesAt w (.slice (some ⟨q0, 0, none⟩) b.length c0) b)
    (hne : b ≠ []) (hl : b.length ≤ 64) (hg : d.geo.Ok) (hB : B ≤ w.heap.size) (hp : d.pending.length ≤ 60000) :
    Calls Tryz.prog 149 #[.pointer (some ⟨ac, 0, none⟩), .int .i64 tt, .slice (some ⟨q0, 0, none⟩) b.length c0] w fun e w' => ∃ n : Int, e = .returned (.int .i64 n) ∧ DskIn B w' ad ap (d.put tt b) ac fv ∧ Keep B DT w w' := by
  by_cases hh : d.has tt = true
  · obtain ⟨h0, h1⟩ := (d.has_iff tt).1 hh
    obtain ⟨a, rfl⟩ := Int.eq_ofNat_of_zero_le h0
    have e : d.put a b = { d with durable := d.durable, contents := writeSec d.geo d.contents a b, pending := d.pending ++ [.write a b] } := by
      unfold Dsk.put; rw [if_pos hh]; simp
    rw [e]
    exact (cwrite_in h.cache a (by omega) q0 c0 b hy hne hl hg hB hp).mono fun e w' ⟨h1, h2, h3⟩ => ⟨0, h1, h.cached _ _ _ h2 h3⟩
  · have e : d.put tt b = d := by unfold Dsk.put; rw [if_neg hh]
    rw [e]
    exact (cwrite_out h.cache tt (fun hr => hh ((d.has_iff tt).2 hr)) q0 c0 b hy hne hl).mono fun e w' ⟨h1, h2⟩ => ⟨2, h1, h.keep h2 (by simp), h2.keep _ _⟩

theorem BytesAt.take {w : World} {q c : Nat} {b : List UInt8} (h : BytesAt w (.slice (some ⟨q, 0, none⟩) b.length c) b) (n : Nat) (hn : n ≤ b.length) : BytesAt w (.slice (some ⟨q, 0, none⟩) (b.take n).length c) (b.take n) := by
  rcases h.2 with ⟨h', _⟩ | ⟨g, cap, cur, hv, h0, hc, h1, h2, h3, h4⟩
  · simp at h'
  · have hl : (b.take n).length = n := by simp; omega
    refine ⟨by simp, .inr ⟨g, cap, cur, by simp at hv ⊢; exact hv, h0, hc, by omega, h2, h3, ?_⟩⟩
    rw [hl, List.map_take, ← h4, List.take_take]
    congr 1
    omega

theorem Dsk.writeWork_out {a : Int} {b : List UInt8} {d : Dsk} {f : Flt} (h : d.has a = false) : Dsk.writeWork a b d f = (d, (), 2) := by simp [Dsk.writeWork, h]
theorem Dsk.writeWork_in {a : Int} {b : List UInt8} {d : Dsk} {f : Flt} (h : d.has a = true) (hl : b.length ≤ 64) (tt : Int) (bytes : List UInt8) (hto : tt = if f.kind = 3 then f.to else a) (hby : bytes = if f.kind = 2 then b.take (b.length / 2) else b) (h1 : f.kind ≠ 1) :
    Dsk.writeWork a b d f = ({ d.put tt bytes with writes := wrap64 (d.writes + 1) }, (), 0) := by
  unfold Dsk.writeWork
  rw [if_neg (by simp [h]), if_neg (by omega)]
  simp only [← hto, ← hby]
  rw [if_pos h1]
  have : (d.put tt bytes).writes = d.writes := by unfold Dsk.put; split <;> rfl
  rw [this]
theorem Dsk.writeWork_drop {a : Int} {b : List UInt8} {d : Dsk} {f : Flt} (h : d.has a = true) (hl : b.length ≤ 64) (h1 : f.kind = 1) :
    Dsk.writeWork a b d f = ({ d with writes := wrap64 (d.writes + 1) }, (), 0) := by
  unfold Dsk.writeWork
  rw [if_neg (by simp [h]), if_neg (by omega)]
  simp [h1]
theorem Dsk.put_same (d : Dsk) (tt : Int) (b : List UInt8) : (d.put tt b).pow = d.pow ∧ (d.put tt b).geo = d.geo ∧ (d.put tt b).faults = d.faults ∧ (d.put tt b).writes = d.writes := by unfold Dsk.put; split <;> exact ⟨rfl, rfl, rfl, rfl⟩

def WritePost (B : Nat) (w : World) (ad ap : Nat) (r : Dsk × Unit × Int) (e : Ending) (w' : World) : Prop :=
  e = .returned (.int .i64 r.2.2) ∧ DskAt B w' ad ap r.1 ∧ Keep B DT w w'
set_option maxHeartbeats 4000000 in
theorem write1 {B : Nat} {w : World} {ad ap bd ba bb bf : Nat} {d : Dsk} (h : DskAt B w ad ap d) (hbd : Blk w bd 54 #[.pointer (some ⟨ad, 0, none⟩)]) (a : Int) (hba : Blk w ba 3 #[.int .i64 a]) (q c : Nat) (b : List UInt8)
    (hbb : Blk w bb 65 #[.slice (some ⟨q, 0, none⟩) b.length c]) (hy : BytesAt w (.slice (some ⟨q, 0, none⟩) b.length c) b) (hbf : Blk w bf 4 #[.bool false]) (h2 : 2 ≤ b.length) (hl : b.length ≤ 64)
    (hg : d.geo.Ok) (hB : B ≤ w.heap.size) (hp : d.pending.length ≤ 60000) (f : Flt) :
    Calls Tryz.prog 148 #[fltV f, .pointer (some ⟨bd, 0, none⟩), .pointer (some ⟨ba, 0, none⟩), .pointer (some ⟨bb, 0, none⟩), .pointer (some ⟨bf, 0, none⟩)] w (WritePost B w ad ap (Dsk.writeWork a b d f)) := by
  have hx : Ext w (w.alloc (.cells #[.int .i64 f.place, .int .i64 f.kind, .int .i64 f.to] 49)) := (Ext.refl _).alloc _
  have HS := dhas (h.ext hx) hg a
  obtain ⟨ac, fv, h⟩ := h
  have b0 : w.cell? ⟨bd, 0, none⟩ = some (.pointer (some ⟨ad, 0, none⟩)) := hbd.cell 0 rfl
  have b1 : w.cell? ⟨ba, 0, none⟩ = some (.int .i64 a) := hba.cell 0 rfl
  have l0 := hbd.lt
  have l1 := hba.lt
  have hb : Blk (w.alloc (.cells #[.int .i64 f.place, .int .i64 f.kind, .int .i64 f.to] 49)) w.heap.size 49 #[.int .i64 f.place, .int .i64 f.kind, .int .i64 f.to] := Blk.new _ _ _
  have H := Lib.hid h
  have HD := Lib.hid hbd
  have HA := Lib.hid hba
  have HBB := Lib.hid hbb
  have HF := Lib.hid hbf
  have HY := Lib.hid hy
  have HB := Lib.hid hb
  have HX := Lib.hid hx
  clear h hbd hba hbb hbf hy hx hb
  unfold fltV
  go_enter Tryz.func148, Tryz.ntmps148
  go_wp2_with fail
  refine HS.mono ?_
  rintro e w1 ⟨rfl, hx1⟩
  have hx2 : Ext w w1 := HX.out.trans hx1
  have d0 : w1.cell? ⟨bd, 0, none⟩ = some (.pointer (some ⟨ad, 0, none⟩)) := (HD.out.ext hx2).cell 0 rfl
  have d1 : w1.cell? ⟨ba, 0, none⟩ = some (.int .i64 a) := (HA.out.ext hx2).cell 0 rfl
  have d2 : w1.cell? ⟨bb, 0, none⟩ = some (.slice (some ⟨q, 0, none⟩) b.length c) := (HBB.out.ext hx2).cell 0 rfl
  have d3 : w1.cell? ⟨bf, 0, none⟩ = some (.bool false) := (HF.out.ext hx2).cell 0 rfl
  have p1 : w1.cell? ⟨w.heap.size, 1, none⟩ = some (.int .i64 f.kind) := (HB.out.ext hx1).cell 1 rfl
  have p2 : w1.cell? ⟨w.heap.size, 2, none⟩ = some (.int .i64 f.to) := (HB.out.ext hx1).cell 2 rfl
  have H1 := Lib.hid (H.out.keep hx2 (by simp))
  have HX2 := Lib.hid hx2
  have HY1 := Lib.hid (BytesAt.keep HY.out hx2 (by simp))
  have c10 : w1.cell? ⟨ad, 10, none⟩ = some (.pointer (some ⟨ac, 0, none⟩)) := H1.out.blk.cell 10 rfl
  have hB1 : B ≤ w1.heap.size := Nat.le_trans hB hx2.size
  have hlen64 : (b.length : Int) ≤ 64 := by omega
  have hlen2 : (2 : Int) ≤ b.length := by omega
  clear HS hx1 hx2
  by_cases hh : d.has a = true
  · by_cases hk1 : f.kind = 1
    · have HR := Lib.hid (Dsk.writeWork_drop (b := b) hh hl hk1)
      rw [hk1] at p1
      have g1 : w1.cell? ⟨ad, 1, none⟩ = some (.int .i64 d.writes) := H1.out.blk.cell 1 rfl
      have fg1 : w1.frozen? ⟨ad, 1, none⟩ = false := H1.out.blk.free 1
      clear hk1
      go_wp2
      go_quiet (fail)
      go_wp2
      go_ret
      rw [HR.out]
      have HP := (H1.out.keep ((Ext.refl w1).drewN nq) (by simp)).put 1 (.int .i64 (wrap64 (d.writes + 1))) { d with writes := wrap64 (d.writes + 1) } rfl rfl rfl rfl rfl rfl rfl
      exact ⟨rfl, ⟨ac, fv, HP.1⟩, ((HX2.out.drewN nq).keep _ _).trans HP.2⟩
    · have HK1 := Lib.hid hk1
      have hk1b : (f.kind != 1) = true := by simpa [bne] using hk1
      clear hk1
      by_cases hk2 : f.kind = 2
      · have hk3 : f.kind ≠ 3 := by omega
        have hk2b : (f.kind == 2) = true := by simpa using hk2
        have HK2 := Lib.hid hk2
        have HK3 := Lib.hid hk3
        clear hk2 hk3
        obtain ⟨b2, hb2⟩ : ∃ b2, b2 = b.take (b.length / 2) := ⟨_, rfl⟩
        have hb2l : b2.length = b.length / 2 := by rw [hb2, List.length_take]; omega
        have HB2 := Lib.hid hb2
        clear hb2
        have hdiv : ((b.length : Int) / 2).toNat = b2.length := by omega
        have hdiv2 : (b.length : Int) / 2 ≤ b.length := by omega
        have hdiv3 : 0 ≤ (b.length : Int) / 2 := by omega
        have hcap : b.length ≤ c := by
          rcases HY1.out.2 with ⟨h', _⟩ | ⟨g, cap, cur, hv, h0, hc, h1, h2, h3, h4⟩
          · simp at h'
          · simp at hv; omega
        have CW := fun nq => cput (H1.out.keep ((Ext.refl w1).drewN nq) (by simp)) a q c b2 (by have := BytesAt.take HY1.out (b.length / 2) (by omega); rw [← HB2.out] at this; exact BytesAt.keep this ((Ext.refl w1).drewN nq) (by simp)) (by intro h; have := hb2l; rw [h] at this; simp at this; omega) (by omega) hg hB1 hp
        have HR := Lib.hid (Dsk.writeWork_in (a := a) (b := b) hh hl a b2 (by rw [if_neg HK3.out]) (by rw [if_pos HK2.out]; exact HB2.out) HK1.out)
        obtain ⟨s1, s2, s3, s4⟩ := d.put_same a b2
        have HS := Lib.hid (And.intro s1 (And.intro s2 (And.intro s3 s4)))
        clear s1 s2 s3 s4
        have HB2L := Lib.hid hb2l
        clear hb2l
        go_wp2
        go_quiet (fail)
        go_wp2_with fail
        refine (CW _).mono ?_
        rintro e w2 ⟨n, rfl, h3, k3⟩
        have e0 : w2.cell? ⟨bd, 0, none⟩ = some (.pointer (some ⟨ad, 0, none⟩)) := ((HD.out.ext (HX2.out.drewN _)).keep k3 (by simp)).cell 0 rfl
        have e3 : w2.cell? ⟨bf, 0, none⟩ = some (.bool false) := ((HF.out.ext (HX2.out.drewN _)).keep k3 (by simp)).cell 0 rfl
        have g1 := h3.blk.cell (v := .int .i64 (d.put a b2).writes) 1 rfl; rw [HS.out.2.2.2] at g1
        have fg1 : w2.frozen? ⟨ad, 1, none⟩ = false := h3.blk.free 1
        have HP := Lib.hid (h3.put 1 (.int .i64 (wrap64 (d.writes + 1))) { d.put a b2 with writes := wrap64 (d.writes + 1) } rfl rfl rfl rfl rfl rfl rfl)
        have HK := Lib.hid (((HX2.out.drewN _).keep B DT).trans k3)
        clear h3 k3 CW
        by_cases hn : n = 0
        · have hnb : (n == 0) = true := by simpa using hn
          clear hn
          go_wp2
          go_ret
          rw [HR.out]
          exact ⟨rfl, ⟨ac, fv, HP.out.1⟩, HK.out.trans HP.out.2⟩
        · have hnb : (n == 0) = false := by simpa using hn
          clear hn
          go_wp2
          go_ret
          rw [HR.out]
          exact ⟨rfl, ⟨ac, fv, HP.out.1⟩, HK.out.trans HP.out.2⟩
      · have hk2b : (f.kind == 2) = false := by simpa using hk2
        have HK2 := Lib.hid hk2
        clear hk2
        have hnil : b ≠ [] := by intro h; subst h; simp at h2
        have HNIL := Lib.hid hnil
        clear hnil
        by_cases hk3 : f.kind = 3
        · have hk3b : (f.kind == 3) = true := by simpa using hk3
          have HK3 := Lib.hid hk3
          clear hk3
          have CW := fun nq => cput (H1.out.keep ((Ext.refl w1).drewN nq) (by simp)) f.to q c b (BytesAt.keep HY1.out ((Ext.refl w1).drewN nq) (by simp)) (HNIL.out) (hl) hg hB1 hp
          have HR := Lib.hid (Dsk.writeWork_in (a := a) (b := b) hh hl f.to b (by rw [if_pos HK3.out]) (by rw [if_neg HK2.out]) HK1.out)
          obtain ⟨s1, s2, s3, s4⟩ := d.put_same f.to b
          have HS := Lib.hid (And.intro s1 (And.intro s2 (And.intro s3 s4)))
          clear s1 s2 s3 s4
          skip
          go_wp2
          go_quiet (fail)
          go_wp2_with fail
          refine (CW _).mono ?_
          rintro e w2 ⟨n, rfl, h3, k3⟩
          have e0 : w2.cell? ⟨bd, 0, none⟩ = some (.pointer (some ⟨ad, 0, none⟩)) := ((HD.out.ext (HX2.out.drewN _)).keep k3 (by simp)).cell 0 rfl
          have e3 : w2.cell? ⟨bf, 0, none⟩ = some (.bool false) := ((HF.out.ext (HX2.out.drewN _)).keep k3 (by simp)).cell 0 rfl
          have g1 := h3.blk.cell (v := .int .i64 (d.put f.to b).writes) 1 rfl; rw [HS.out.2.2.2] at g1
          have fg1 : w2.frozen? ⟨ad, 1, none⟩ = false := h3.blk.free 1
          have HP := Lib.hid (h3.put 1 (.int .i64 (wrap64 (d.writes + 1))) { d.put f.to b with writes := wrap64 (d.writes + 1) } rfl rfl rfl rfl rfl rfl rfl)
          have HK := Lib.hid (((HX2.out.drewN _).keep B DT).trans k3)
          clear h3 k3 CW
          by_cases hn : n = 0
          · have hnb : (n == 0) = true := by simpa using hn
            clear hn
            go_wp2
            go_ret
            rw [HR.out]
            exact ⟨rfl, ⟨ac, fv, HP.out.1⟩, HK.out.trans HP.out.2⟩
          · have hnb : (n == 0) = false := by simpa using hn
            clear hn
            go_wp2
            go_ret
            rw [HR.out]
            exact ⟨rfl, ⟨ac, fv, HP.out.1⟩, HK.out.trans HP.out.2⟩
        · have hk3b : (f.kind == 3) = false := by simpa using hk3
          have HK3 := Lib.hid hk3
          clear hk3
          have CW := fun nq => cput (H1.out.keep ((Ext.refl w1).drewN nq) (by simp)) a q c b (BytesAt.keep HY1.out ((Ext.refl w1).drewN nq) (by simp)) (HNIL.out) (hl) hg hB1 hp
          have HR := Lib.hid (Dsk.writeWork_in (a := a) (b := b) hh hl a b (by rw [if_neg HK3.out]) (by rw [if_neg HK2.out]) HK1.out)
          obtain ⟨s1, s2, s3, s4⟩ := d.put_same a b
          have HS := Lib.hid (And.intro s1 (And.intro s2 (And.intro s3 s4)))
          clear s1 s2 s3 s4
          skip
          go_wp2
          go_quiet (fail)
          go_wp2_with fail
          refine (CW _).mono ?_
          rintro e w2 ⟨n, rfl, h3, k3⟩
          have e0 : w2.cell? ⟨bd, 0, none⟩ = some (.pointer (some ⟨ad, 0, none⟩)) := ((HD.out.ext (HX2.out.drewN _)).keep k3 (by simp)).cell 0 rfl
          have e3 : w2.cell? ⟨bf, 0, none⟩ = some (.bool false) := ((HF.out.ext (HX2.out.drewN _)).keep k3 (by simp)).cell 0 rfl
          have g1 := h3.blk.cell (v := .int .i64 (d.put a b).writes) 1 rfl; rw [HS.out.2.2.2] at g1
          have fg1 : w2.frozen? ⟨ad, 1, none⟩ = false := h3.blk.free 1
          have HP := Lib.hid (h3.put 1 (.int .i64 (wrap64 (d.writes + 1))) { d.put a b with writes := wrap64 (d.writes + 1) } rfl rfl rfl rfl rfl rfl rfl)
          have HK := Lib.hid (((HX2.out.drewN _).keep B DT).trans k3)
          clear h3 k3 CW
          by_cases hn : n = 0
          · have hnb : (n == 0) = true := by simpa using hn
            clear hn
            go_wp2
            go_ret
            rw [HR.out]
            exact ⟨rfl, ⟨ac, fv, HP.out.1⟩, HK.out.trans HP.out.2⟩
          · have hnb : (n == 0) = false := by simpa using hn
            clear hn
            go_wp2
            go_ret
            rw [HR.out]
            exact ⟨rfl, ⟨ac, fv, HP.out.1⟩, HK.out.trans HP.out.2⟩
  · have hh2 : d.has a = false := by simpa using hh
    have HR := Lib.hid (Dsk.writeWork_out (b := b) (f := f) hh2)
    clear hh
    go_wp2
    go_ret
    rw [HR.out]
    exact ⟨rfl, ⟨ac, fv, H1.out⟩, HX2.out.keep _ _⟩
end Go.Proofs.YthhcooljjhdjbaaGreat
