/- Contracts: the closures of drive.New: a band is erased, the disk is flushed, again and again while it is busy. Contract: a sector is read, again and again while the disk is busy. -/
import Derived.Test.YthhcooljjhdjbaaGreatKW30
set_option linter.unusedVariables false
set_option linter.unusedSimpArgs false
namespace Go.Proofs.YthhcooljjhdjbaaGreat
open Go.RowKit

/-- What the walk asks of a disk. -/
structure DOk (d : Dsk) : Prop where
  geo : d.geo.Ok
  faults : d.faults.length ≤ 4096
  pending : d.pending.length ≤ 60000
theorem Dsk.flush_pre (d : Dsk) (key : Int) : (∃ n d', d.pre key = (d', .inl n) ∧ d.flush key = (d', (), n)) ∨ (∃ d' f, d.pre key = (d', .inr f) ∧ d.flush key = ({ d' with durable := runOps d'.geo d'.durable d'.pending, pending := [], flushes := wrap64 (d'.flushes + 1) }, (), 0)) := by
  unfold Dsk.flush
  rw [Dsk.perform_eq]
  cases hp : d.pre key with
  | mk d' r =>
    cases r with
    | inl n => exact .inl ⟨n, d', rfl, rfl⟩
    | inr f => exact .inr ⟨d', f, rfl, Dsk.flushWork_eq d' f⟩
theorem Dsk.flush_ok {d : Dsk} (h : DOk d) (key : Int) : DOk (d.flush key).1 := by
  rcases d.flush_pre key with ⟨n, d', h1, h2⟩ | ⟨d', f, h1, h2⟩
  · obtain ⟨e1, e2, e3, e4, e5⟩ := Dsk.pre_err h1
    rw [h2]; exact ⟨e1 ▸ h.geo, e5 ▸ h.faults, e2 ▸ h.pending⟩
  · obtain ⟨e1, e2, e3, e4, e5⟩ := Dsk.pre_same h1
    rw [h2]; exact ⟨e1 ▸ h.geo, e5 ▸ h.faults, Nat.zero_le _⟩
def flushStep (key : Int) (d : Dsk) : Dsk × Int := ((d.flush key).1, (d.flush key).2.2)
def Dsk.flushAll (d : Dsk) (key : Int) : Dsk × Int := retryRun (flushStep key) d
structure NewPre (B : Nat) (w0 : World) (ad ap bd bk : Nat) (key : Int) (d : Dsk) (w : World) : Prop where
  dsk : DskAt B w ad ap d
  ok : DOk d
  hbd : Blk w bd 54 #[.pointer (some ⟨ad, 0, none⟩)]
  hbk : Blk w bk 23 #[.int .u64 key]
  keep : Keep B DT w0 w
  ge : B ≤ w.heap.size
theorem newFlush {B : Nat} {w0 : World} {ad ap bd bk : Nat} {key : Int} (d : Dsk) (w : World) (h : NewPre B w0 ad ap bd bk key d w) :
    Calls Tryz.prog 63 #[.pointer (some ⟨bd, 0, none⟩), .pointer (some ⟨bk, 0, none⟩)] w fun e w' => e = .returned (.int .i64 (flushStep key d).2) ∧ NewPre B w0 ad ap bd bk key (flushStep key d).1 w' := by
  obtain ⟨h1, h2, h3, h4, h5, h6⟩ := h
  have c0 : w.cell? ⟨bd, 0, none⟩ = some (.pointer (some ⟨ad, 0, none⟩)) := h3.cell 0 rfl
  have c1 : w.cell? ⟨bk, 0, none⟩ = some (.int .u64 key) := h4.cell 0 rfl
  have F := Lib.hid (dflush h1 h2.geo h2.faults h6 h2.pending key)
  have HO := Lib.hid (Dsk.flush_ok h2 key)
  have H3 := Lib.hid h3
  have H4 := Lib.hid h4
  have H5 := Lib.hid h5
  have HE := Lib.hid (show flushStep key d = ((d.flush key).1, (d.flush key).2.2) from rfl)
  clear h1 h2 h3 h4 h5
  generalize flushStep key d = rs at *
  generalize d.flush key = r at *
  go_enter Tryz.func63, Tryz.ntmps63
  go_wp2_with fail
  refine F.out.mono ?_
  rintro e w1 ⟨rfl, hd, hk⟩
  have HD := Lib.hid hd
  have HK := Lib.hid hk
  clear hd hk F
  go_wp2
  go_ret
  rw [HE.out]
  exact ⟨rfl, HD.out, HO.out, H3.out.keep HK.out (by simp), H4.out.keep HK.out (by simp), H5.out.trans HK.out, Nat.le_trans h6 HK.out.size⟩
theorem newFlushAll {B : Nat} {w0 : World} {ad ap bd bk : Nat} {key : Int} (d : Dsk) (w : World) (h : NewPre B w0 ad ap bd bk key d w) :
    Calls Tryz.prog 47 #[.func (.func 63) #[] #[.pointer (some ⟨bd, 0, none⟩), .pointer (some ⟨bk, 0, none⟩)]] w fun e w' => e = .returned (.int .i64 (d.flushAll key).2) ∧ NewPre B w0 ad ap bd bk key (d.flushAll key).1 w' :=
  dretry 63 (by simp) (flushStep key) (NewPre B w0 ad ap bd bk key) (fun r w => NewPre B w0 ad ap bd bk key r.1 w) _ newFlush (fun _ _ h _ => h) d w h
end Go.Proofs.YthhcooljjhdjbaaGreat
namespace Go.Proofs.YthhcooljjhdjbaaGreat
open Go.RowKit

def SectorPost (B : Nat) (w : World) (ad ap vd : Nat) (v : Drv) (r : (Dsk × Option (List UInt8)) × Int) (e : Ending) (w' : World) : Prop :=
  ∃ a n c, e = .returned (.tuple #[.slice a n c, .int .i64 r.2]) ∧ DskAt B w' ad ap r.1.1 ∧ DrvAt B w' vd ad v ∧ BytesOut w' (.slice a n c) r.1.2 ∧ Keep B DT w w'
structure SecAfter (B : Nat) (w0 : World) (ad ap vd bv ba bo : Nat) (v : Drv) (a : Int) (r : (Dsk × Option (List UInt8)) × Int) (w : World) : Prop where
  dsk : DskAt B w ad ap r.1.1
  geo : r.1.1.geo.Ok
  faults : r.1.1.faults.length ≤ 4096
  short : Short r.1.1.contents
  drv : DrvAt B w vd ad v
  hbv : Blk w bv 22 #[.pointer (some ⟨vd, 0, none⟩)]
  hba : Blk w ba 3 #[.int .i64 a]
  out : OutAt w bo r.1.2
  busy : r.2 = 16 → r.1.2 = none
  keep : Keep B DT w0 w
  ge : w0.heap.size ≤ bo
theorem sectorLoop {B : Nat} {w0 : World} {ad ap vd bv ba bo : Nat} {v : Drv} {a : Int} (d : Dsk) (w : World) (h : SecPre B w0 ad ap vd bv ba bo v a (d, none) w) :
    Calls Tryz.prog 47 #[.func (.func 92) #[] #[.pointer (some ⟨bv, 0, none⟩), .pointer (some ⟨ba, 0, none⟩), .pointer (some ⟨bo, 0, none⟩)]] w fun e w' => e = .returned (.int .i64 (d.sector v.key a).2) ∧ SecAfter B w0 ad ap vd bv ba bo v a (d.sector v.key a) w' :=
  dretry 92 (by simp) (readStep v.key a) (SecPre B w0 ad ap vd bv ba bo v a) (SecAfter B w0 ad ap vd bv ba bo v a) _
    (fun s w h => (sector1 s w h).mono fun e w' ⟨k0, k1, k2, k3, k4, k5, k6⟩ =>
      let ⟨m, mb⟩ := Dsk.read_same s.1 v.key a
      ⟨k0, ⟨k1, m.geo ▸ h.geo, m.faults ▸ h.faults, m.contents ▸ h.short, k2, k3, k4, k5, mb, k6, h.ge⟩⟩)
    (fun r w h hb => ⟨h.dsk, h.geo, h.faults, h.short, h.drv, h.hbv, h.hba, by have := h.out; rw [h.busy hb] at this; exact this, h.keep, h.ge⟩) (d, none) w h
set_option maxHeartbeats 2000000 in
theorem vsector {B : Nat} {w : World} {vd ad ap : Nat} {v : Drv} {d : Dsk} (h : DrvAt B w vd ad v) (hd : DskAt B w ad ap d) (hg : d.geo.Ok) (hf : d.faults.length ≤ 4096) (hs : Short d.contents) (a : Int) :
    Calls Tryz.prog 59 #[.pointer (some ⟨vd, 0, none⟩), .int .i64 a] w (SectorPost B w ad ap vd v (d.sector v.key a)) := by
  have hx : Ext w (((w.alloc (.cells #[.pointer (some ⟨vd, 0, none⟩)] 22)).alloc (.cells #[.int .i64 a] 3)).alloc (.cells #[.slice none 0 0] 65)) := (((Ext.refl _).alloc _).alloc _).alloc _
  have hb : Blk (((w.alloc (.cells #[.pointer (some ⟨vd, 0, none⟩)] 22)).alloc (.cells #[.int .i64 a] 3)).alloc (.cells #[.slice none 0 0] 65)) w.heap.size 22 #[.pointer (some ⟨vd, 0, none⟩)] := ((Blk.new _ _ _).alloc _).alloc _
  have hb2 : Blk (((w.alloc (.cells #[.pointer (some ⟨vd, 0, none⟩)] 22)).alloc (.cells #[.int .i64 a] 3)).alloc (.cells #[.slice none 0 0] 65)) (w.heap.size + 1) 3 #[.int .i64 a] := by
    have := (Blk.new (w.alloc (.cells #[.pointer (some ⟨vd, 0, none⟩)] 22)) #[.int .i64 a] 3).alloc (.cells #[.slice none 0 0] 65)
    rwa [World.size_alloc] at this
  have hb3 : Blk (((w.alloc (.cells #[.pointer (some ⟨vd, 0, none⟩)] 22)).alloc (.cells #[.int .i64 a] 3)).alloc (.cells #[.slice none 0 0] 65)) (w.heap.size + 2) 65 #[.slice none 0 0] := by
    have := Blk.new ((w.alloc (.cells #[.pointer (some ⟨vd, 0, none⟩)] 22)).alloc (.cells #[.int .i64 a] 3)) #[.slice none 0 0] 65
    rwa [World.size_alloc, World.size_alloc] at this
  have L := Lib.hid (sectorLoop d _ ⟨hd.ext hx, hg, hf, hs, h.ext hx, hb, hb2, hb3, hx.keep B DT, by omega⟩)
  clear h hd hg hf hs hx hb hb2 hb3
  generalize d.sector v.key a = r at *
  go_enter Tryz.func59, Tryz.ntmps59
  go_wp2_with fail
  refine L.out.mono ?_
  rintro e w1 ⟨rfl, k1, k2, k3, k4, k5, k6, k7, k8, k9, k10, k11⟩
  obtain ⟨ya, yn, yc, o0, ho⟩ := k8.value
  have H1 := Lib.hid k1
  have H5 := Lib.hid k5
  have HO := Lib.hid ho
  have HK := Lib.hid k10
  clear k1 k2 k3 k4 k5 k6 k7 k8 k9 k10 k11 ho L
  go_wp2
  go_ret2
  exact ⟨ya, yn, yc, rfl, H1.out, H5.out, HO.out, HK.out⟩
end Go.Proofs.YthhcooljjhdjbaaGreat
