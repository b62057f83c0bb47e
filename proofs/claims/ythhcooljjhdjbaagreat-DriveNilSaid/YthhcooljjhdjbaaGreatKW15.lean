/- Contracts: the disk writes; it is made, fenced and restarted. -/
import Derived.Test.YthhcooljjhdjbaaGreatKW14
set_option linter.unusedVariables false
set_option linter.unusedSimpArgs false
namespace Go.Proofs.YthhcooljjhdjbaaGreat
open Go.RowKit

set_option maxHeartbeats 1000000 in
theorem dwrite {B : Nat} {w : World} {ad ap : Nat} {d : Dsk} (h : DskAt B w ad ap d) (hg : d.geo.Ok) (hf : d.faults.length ≤ 4096) (hB : B ≤ w.heap.size) (hp : d.pending.length ≤ 60000) (key a : Int)
    (q c : Nat) (b : List UInt8) (hy : BytesAt w (.slice (some ⟨q, 0, none⟩) b.length c) b) (h2 : 2 ≤ b.length) (hl : b.length ≤ 64) :
    Calls Tryz.prog 112 #[.pointer (some ⟨ad, 0, none⟩), .int .u64 key, .int .i64 a, .slice (some ⟨q, 0, none⟩) b.length c, .bool false] w
      (WritePost B w ad ap (d.write key a b)) := by
  obtain ⟨o1, e1⟩ : ∃ o, o = Obj.cells #[.pointer (some ⟨ad, 0, none⟩)] 54 := ⟨_, rfl⟩
  obtain ⟨o2, e2⟩ : ∃ o, o = Obj.cells #[.int .i64 a] 3 := ⟨_, rfl⟩
  obtain ⟨o3, e3⟩ : ∃ o, o = Obj.cells #[.slice (some ⟨q, 0, none⟩) b.length c] 65 := ⟨_, rfl⟩
  obtain ⟨o4, e4⟩ : ∃ o, o = Obj.cells #[.bool false] 4 := ⟨_, rfl⟩
  have hx : Ext w ((((w.alloc o1).alloc o2).alloc o3).alloc o4) := ((((Ext.refl _).alloc _).alloc _).alloc _).alloc _
  have hb1 : Blk ((((w.alloc o1).alloc o2).alloc o3).alloc o4) w.heap.size 54 #[.pointer (some ⟨ad, 0, none⟩)] := by rw [e1]; exact (((Blk.new _ _ _).alloc _).alloc _).alloc _
  have hb2 : Blk ((((w.alloc o1).alloc o2).alloc o3).alloc o4) (w.heap.size + 1) 3 #[.int .i64 a] := by
    have := ((Blk.new (w.alloc o1) #[.int .i64 a] 3).alloc o3).alloc o4
    rw [World.size_alloc, ← e2] at this; exact this
  have hb3 : Blk ((((w.alloc o1).alloc o2).alloc o3).alloc o4) (w.heap.size + 2) 65 #[.slice (some ⟨q, 0, none⟩) b.length c] := by
    have := (Blk.new ((w.alloc o1).alloc o2) #[.slice (some ⟨q, 0, none⟩) b.length c] 65).alloc o4
    rw [World.size_alloc, World.size_alloc, ← e3] at this; exact this
  have hb4 : Blk ((((w.alloc o1).alloc o2).alloc o3).alloc o4) (w.heap.size + 3) 4 #[.bool false] := by
    have := Blk.new (((w.alloc o1).alloc o2).alloc o3) #[.bool false] 4
    rw [World.size_alloc, World.size_alloc, World.size_alloc, ← e4] at this; exact this
  have P := dperform 148 (by simp) (h.ext hx) hf key #[.pointer (some ⟨w.heap.size, 0, none⟩), .pointer (some ⟨w.heap.size + 1, 0, none⟩), .pointer (some ⟨w.heap.size + 2, 0, none⟩), .pointer (some ⟨w.heap.size + 3, 0, none⟩)] _
    (PerfGoal.of d key () (Dsk.writeWork a b) fun d' f w' hpre h1 hk => by
      obtain ⟨q1, q2, q3, _⟩ := Dsk.pre_same hpre
      exact write1 h1 (hb1.keep hk (by simp)) a (hb2.keep hk (by simp)) q c b (hb3.keep hk (by simp)) (BytesAt.keep (BytesAt.keep hy hx (by simp)) hk (by simp)) (hb4.keep hk (by simp)) h2 hl (by rw [q1]; exact hg) (Nat.le_trans (Nat.le_trans hB hx.size) hk.size) (by rw [q2]; exact hp) f)
  have HX := Lib.hid hx
  have HH := Lib.hid (show d.perform key () (Dsk.writeWork a b) = d.write key a b from rfl)
  clear h hx hb1 hb2 hb3 hb4 hy
  subst e1 e2 e3 e4
  go_enter Tryz.func112, Tryz.ntmps112
  go_wp2_with fail
  refine P.mono ?_
  rintro e w1 ⟨v, rfl, hv, h1, hk⟩
  rw [HH.out] at hv h1
  subst hv
  have H1 := Lib.hid h1
  have H2 := Lib.hid hk
  clear h1 hk P
  go_wp2
  go_ret
  exact ⟨rfl, H1.out, (HX.out.keep _ _).trans H2.out⟩

theorem dgeo {B : Nat} {w : World} {ad ap : Nat} {d : Dsk} (h : DskAt B w ad ap d) : Calls Tryz.prog 57 #[.pointer (some ⟨ad, 0, none⟩)] w fun e w' => e = .returned (geoV d.geo) ∧ Ext w w' := by
  obtain ⟨ac, fv, h⟩ := h
  have c5 : w.cell? ⟨ad, 5, none⟩ = some (.int .i64 d.geo.random) := h.blk.cell 5 rfl
  have c6 : w.cell? ⟨ad, 6, none⟩ = some (.int .i64 d.geo.bands) := h.blk.cell 6 rfl
  have c7 : w.cell? ⟨ad, 7, none⟩ = some (.int .i64 d.geo.tracks) := h.blk.cell 7 rfl
  have c8 : w.cell? ⟨ad, 8, none⟩ = some (.int .i64 d.geo.sectors) := h.blk.cell 8 rfl
  have c9 : w.cell? ⟨ad, 9, none⟩ = some (.int .i64 d.geo.overlap) := h.blk.cell 9 rfl
  have hlt := h.blk.lt
  clear h
  unfold geoV
  go_enter Tryz.func57, Tryz.ntmps57
  go_wp2
  exact bodyPost_ret (v := .agg #[.int .i64 d.geo.random, .int .i64 d.geo.bands, .int .i64 d.geo.tracks, .int .i64 d.geo.sectors, .int .i64 d.geo.overlap]) (by simp [results, Tryz.results57, go_sem]) rfl ⟨rfl, (Ext.refl _).alloc _⟩

theorem dacquire {B : Nat} {w : World} {ad ap : Nat} {d : Dsk} (h : DskAt B w ad ap d) (key : Int) :
    Calls Tryz.prog 26 #[.pointer (some ⟨ad, 0, none⟩), .int .u64 key] w fun e w' => e = .returned (.int .i64 (d.acquire key).2) ∧ DskAt B w' ad ap (d.acquire key).1 ∧ Keep B DT w w' := by
  have S := dstate h
  obtain ⟨ac, fv, h⟩ := h
  have H := Lib.hid h
  clear h
  by_cases hs : d.state = 0
  · have e : d.acquire key = ({ d with key := key }, 0) := by unfold Dsk.acquire; rw [if_neg (by simp [hs])]
    rw [e]
    rw [hs] at S
    clear e hs
    go_enter Tryz.func26, Tryz.ntmps26
    go_wp2_with fail
    refine S.mono ?_
    rintro e w1 ⟨rfl, hx⟩
    have h1 := H.out.keep hx (by simp)
    have c14 : w1.cell? ⟨ad, 14, none⟩ = some (.int .u64 d.key) := h1.blk.cell 14 rfl
    have f14 : w1.frozen? ⟨ad, 14, none⟩ = false := h1.blk.free 14
    have HP := Lib.hid (h1.put 14 (.int .u64 key) { d with key := key } rfl rfl rfl rfl rfl rfl rfl)
    clear h1
    go_wp2
    go_ret
    exact ⟨rfl, ⟨ac, fv, HP.out.1⟩, (hx.keep _ _).trans HP.out.2⟩
  · have e : d.acquire key = (d, d.state) := by unfold Dsk.acquire; rw [if_pos hs]
    rw [e]
    have hs2 : (d.state != 0) = true := by simpa [bne] using hs
    clear e hs
    go_enter Tryz.func26, Tryz.ntmps26
    go_wp2_with fail
    refine S.mono ?_
    rintro e w1 ⟨rfl, hx⟩
    go_wp2
    go_ret
    exact ⟨rfl, ⟨ac, fv, H.out.keep hx (by simp)⟩, hx.keep _ _⟩

theorem Dsk.cut_eq (d : Dsk) (keep : Int) : d.cut keep = { d with durable := runOps d.geo d.durable (d.pending.take (cutN keep d.pending.length)), contents := if keep < d.pending.length then runOps d.geo d.durable (d.pending.take (cutN keep d.pending.length)) else d.contents, pending := [] } := rfl
set_option maxHeartbeats 1000000 in
theorem drestart {B : Nat} {w : World} {ad ap : Nat} {d : Dsk} (h : DskAt B w ad ap d) (hg : d.geo.Ok) (hB : B ≤ w.heap.size) (hp : d.pending.length ≤ 60000) (keep : Int) :
    Calls Tryz.prog 66 #[.pointer (some ⟨ad, 0, none⟩), .int .i64 keep] w fun e w' => e = .returned (.int .i64 (d.restart keep).2) ∧ DskAt B w' ad ap (d.restart keep).1 ∧ Keep B DT w w' := by
  obtain ⟨ac, fv, h⟩ := h
  have c10 : w.cell? ⟨ad, 10, none⟩ = some (.pointer (some ⟨ac, 0, none⟩)) := h.blk.cell 10 rfl
  have c12 : w.cell? ⟨ad, 12, none⟩ = some (.pointer (some ⟨ap, 0, none⟩)) := h.blk.cell 12 rfl
  have c15 : w.cell? ⟨ad, 15, none⟩ = some (.bool d.dead) := h.blk.cell 15 rfl
  have p0 : w.cell? ⟨ap, 0, none⟩ = some (.bool d.pow.off) := h.pow.cell 0 rfl
  have C := ccut h.cache keep hg hB hp
  have H := Lib.hid h
  clear h
  obtain ⟨r, hr⟩ : ∃ r, r = d.restart keep := ⟨_, rfl⟩
  rw [← hr]
  by_cases hd : d.dead = true
  · have e : d.restart keep = (d, 14) := by unfold Dsk.restart; rw [if_pos hd]
    rw [e] at hr; rw [hd] at c15
    have HR := Lib.hid hr
    clear e hd C hr
    go_enter Tryz.func66, Tryz.ntmps66
    go_wp2
    go_ret
    rw [HR.out]
    exact ⟨rfl, ⟨ac, fv, H.out⟩, Keep.refl _ _ _⟩
  · have hd2 : d.dead = false := by simpa using hd
    rw [hd2] at c15
    by_cases ho : d.pow.off = true
    · have e : d.restart keep = ({ d.cut keep with seen := d.pow.fails }, 0) := by unfold Dsk.restart; rw [if_neg hd, if_neg (by simp [ho])]
      rw [e, Dsk.cut_eq] at hr; rw [ho] at p0
      have HR := Lib.hid hr
      have HD := Lib.hid hd2
      clear e hd ho hr hd2
      go_enter Tryz.func66, Tryz.ntmps66
      go_wp2_with fail
      refine C.mono ?_
      rintro e w1 ⟨rfl, hc, hk⟩
      obtain ⟨h1, hk1⟩ := H.out.cached _ _ _ hc hk
      have e12 : w1.cell? ⟨ad, 12, none⟩ = some (.pointer (some ⟨ap, 0, none⟩)) := h1.blk.cell 12 rfl
      have q3 : w1.cell? ⟨ap, 3, none⟩ = some (.int .i64 d.pow.fails) := h1.pow.cell 3 rfl
      have e13 : w1.cell? ⟨ad, 13, none⟩ = some (.int .i64 d.seen) := h1.blk.cell 13 rfl
      have f13 : w1.frozen? ⟨ad, 13, none⟩ = false := h1.blk.free 13
      have HP := Lib.hid (h1.put 13 (.int .i64 d.pow.fails) { d with durable := runOps d.geo d.durable (d.pending.take (cutN keep d.pending.length)), contents := if keep < d.pending.length then runOps d.geo d.durable (d.pending.take (cutN keep d.pending.length)) else d.contents, pending := [], seen := d.pow.fails } rfl rfl rfl rfl rfl rfl rfl)
      have HK := Lib.hid hk1
      clear h1 hk1 hc hk C
      go_wp2
      go_ret
      rw [HR.out]
      exact ⟨rfl, ⟨ac, fv, HP.out.1⟩, HK.out.trans HP.out.2⟩
    · have ho2 : d.pow.off = false := by simpa using ho
      have e : d.restart keep = (d, 8) := by unfold Dsk.restart; rw [if_neg hd, if_pos (by simp [ho2])]
      rw [e] at hr; rw [ho2] at p0
      have HR := Lib.hid hr
      clear e hd ho C hr
      go_enter Tryz.func66, Tryz.ntmps66
      go_wp2
      go_ret
      rw [HR.out]
      exact ⟨rfl, ⟨ac, fv, H.out⟩, Keep.refl _ _ _⟩
end Go.Proofs.YthhcooljjhdjbaaGreat
