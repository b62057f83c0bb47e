/- Contract: a sector is read, again and again while the disk is busy. -/
import Derived.Test.YthhcooljjhdjbaaGreatKW29
import Derived.Test.YthhcooljjhdjbaaGreatKN2
set_option linter.unusedVariables false
set_option linter.unusedSimpArgs false
namespace Go.Proofs.YthhcooljjhdjbaaGreat
open Go.RowKit

theorem Dsk.pre_err {d d' : Dsk} {key : Int} {n : Int} (h : d.pre key = (d', .inl n)) : d'.geo = d.geo ∧ d'.pending = d.pending ∧ d'.contents = d.contents ∧ d'.durable = d.durable ∧ d'.faults = d.faults := by
  unfold Dsk.pre at h
  split at h
  · cases h; exact ⟨rfl, rfl, rfl, rfl, rfl⟩
  · dsimp only at h
    split at h
    · cases h; exact ⟨rfl, rfl, rfl, rfl, rfl⟩
    · split at h
      · cases h; exact ⟨rfl, rfl, rfl, rfl, rfl⟩
      · split at h
        · cases h; exact ⟨rfl, rfl, rfl, rfl, rfl⟩
        · split at h
          · cases h; exact ⟨rfl, rfl, rfl, rfl, rfl⟩
          · cases h
structure Dsk.Same (d d' : Dsk) : Prop where
  geo : d'.geo = d.geo
  pending : d'.pending = d.pending
  contents : d'.contents = d.contents
  durable : d'.durable = d.durable
  faults : d'.faults = d.faults
theorem Dsk.Same.trans {a b c : Dsk} (h : a.Same b) (k : b.Same c) : a.Same c := ⟨k.geo.trans h.geo, k.pending.trans h.pending, k.contents.trans h.contents, k.durable.trans h.durable, k.faults.trans h.faults⟩
theorem Dsk.readWork_same (a : Int) (d : Dsk) (f : Flt) : d.Same (Dsk.readWork a d f).1 ∧ ((Dsk.readWork a d f).2.2 = 16 → (Dsk.readWork a d f).2.1 = none) := by
  unfold Dsk.readWork
  split
  · exact ⟨⟨rfl, rfl, rfl, rfl, rfl⟩, fun _ => rfl⟩
  · split
    · exact ⟨⟨rfl, rfl, rfl, rfl, rfl⟩, fun _ => rfl⟩
    · dsimp only
      generalize (if f.kind = 5 then f.to else a) = fr
      split
      · split
        · exact ⟨⟨rfl, rfl, rfl, rfl, rfl⟩, fun h => absurd (show (0 : Int) = 16 from h) (by decide)⟩
        · exact ⟨⟨rfl, rfl, rfl, rfl, rfl⟩, fun _ => rfl⟩
      · exact ⟨⟨rfl, rfl, rfl, rfl, rfl⟩, fun _ => rfl⟩
theorem Dsk.read_same (d : Dsk) (key a : Int) : d.Same (d.read key a).1 ∧ ((d.read key a).2.2 = 16 → (d.read key a).2.1 = none) := by
  unfold Dsk.read
  rw [Dsk.perform_eq]
  cases hp : d.pre key with
  | mk d' r =>
    cases r with
    | inl n =>
      obtain ⟨h1, h2, h3, h4, h5⟩ := Dsk.pre_err hp
      exact ⟨⟨h1, h2, h3, h4, h5⟩, fun _ => rfl⟩
    | inr f =>
      obtain ⟨h1, h2, h3, h4, h5⟩ := Dsk.pre_same hp
      obtain ⟨k, k2⟩ := Dsk.readWork_same a d' f
      exact ⟨Dsk.Same.trans ⟨h1, h2, h3, h4, h5⟩ k, k2⟩
def readStep (key a : Int) (s : Dsk × Option (List UInt8)) : (Dsk × Option (List UInt8)) × Int := (((s.1.read key a).1, (s.1.read key a).2.1), (s.1.read key a).2.2)
def Dsk.sector (d : Dsk) (key a : Int) : (Dsk × Option (List UInt8)) × Int := retryRun (readStep key a) (d, none)
structure SecPre (B : Nat) (w0 : World) (ad ap vd bv ba bo : Nat) (v : Drv) (a : Int) (s : Dsk × Option (List UInt8)) (w : World) : Prop where
  dsk : DskAt B w ad ap s.1
  geo : s.1.geo.Ok
  faults : s.1.faults.length ≤ 4096
  short : Short s.1.contents
  drv : DrvAt B w vd ad v
  hbv : Blk w bv 22 #[.pointer (some ⟨vd, 0, none⟩)]
  hba : Blk w ba 3 #[.int .i64 a]
  hbo : Blk w bo 65 #[.slice none 0 0]
  keep : Keep B DT w0 w
  ge : w0.heap.size ≤ bo
theorem OutAt.store {w : World} {bo : Nat} {x : Value} {a : Option Addr} {n c : Nat} {o : Option (List UInt8)} (hb : Blk w bo 65 #[x]) (hy : BytesOut w (.slice a n c) o) : OutAt (w.setCell ⟨bo, 0, none⟩ (.slice a n c)) bo o := by
  have k : Keep 0 [65] w (w.setCell ⟨bo, 0, none⟩ (.slice a n c)) := (Keep.refl _ _ _).set hb (Nat.zero_le _) (by simp) _ _
  cases o with
  | none =>
    have hy : Value.slice a n c = .slice none 0 0 := hy
    have := hb.set 0 (.slice a n c)
    rw [hy] at this ⊢
    exact this
  | some b =>
    obtain ⟨q, c', e, h1, h2, h3⟩ := hy
    have := hb.set 0 (.slice a n c)
    rw [e] at this k ⊢
    exact ⟨q, c', this, BytesAt.keep h1 k (by simp), h2, h3⟩
set_option maxHeartbeats 4000000 in
theorem sector1 {B : Nat} {w0 : World} {ad ap vd bv ba bo : Nat} {v : Drv} {a : Int} (s : Dsk × Option (List UInt8)) (w : World) (h : SecPre B w0 ad ap vd bv ba bo v a s w) :
    Calls Tryz.prog 92 #[.pointer (some ⟨bv, 0, none⟩), .pointer (some ⟨ba, 0, none⟩), .pointer (some ⟨bo, 0, none⟩)] w fun e w' => e = .returned (.int .i64 (readStep v.key a s).2) ∧
      DskAt B w' ad ap (readStep v.key a s).1.1 ∧ DrvAt B w' vd ad v ∧ Blk w' bv 22 #[.pointer (some ⟨vd, 0, none⟩)] ∧ Blk w' ba 3 #[.int .i64 a] ∧ OutAt w' bo (readStep v.key a s).1.2 ∧ Keep B DT w0 w' := by
  obtain ⟨h1, h2, h3, h4, ⟨eb, ce, xv, h5⟩, h6, h7, h8, h9, h10⟩ := h
  have c0 : w.cell? ⟨vd, 0, none⟩ = some (.pointer (some ⟨ad, 0, none⟩)) := h5.blk.cell 0 rfl
  have c1 : w.cell? ⟨vd, 1, none⟩ = some (.int .u64 v.key) := h5.blk.cell 1 rfl
  have b0 : w.cell? ⟨bv, 0, none⟩ = some (.pointer (some ⟨vd, 0, none⟩)) := h6.cell 0 rfl
  have b1 : w.cell? ⟨ba, 0, none⟩ = some (.int .i64 a) := h7.cell 0 rfl
  have R := Lib.hid (fun w' (hx : Ext w w') => dread (w := w') (h1.ext hx) h2 h3 h4 v.key a)
  have l0 := cell_lt c0
  have l1 := cell_lt b0
  have l2 := cell_lt b1
  have H5 := Lib.hid h5
  have H6 := Lib.hid h6
  have H7 := Lib.hid h7
  have H8 := Lib.hid h8
  have H9 := Lib.hid h9
  clear h1 h2 h3 h4 h5 h6 h7 h8 h9
  go_enter Tryz.func92, Tryz.ntmps92
  have HP := Lib.hid (show (readStep v.key a s).2 = (s.1.read v.key a).2.2 from rfl)
  have HQ := Lib.hid (show (readStep v.key a s).1 = ((s.1.read v.key a).1, (s.1.read v.key a).2.1) from rfl)
  generalize readStep v.key a s = rs at *
  generalize s.1.read v.key a = r at *
  go_upto_region 2 with fail
  go_cut [4] (fun s4 wx => s4 = .int .i64 r.2.2 ∧ DskAt B wx ad ap r.1 ∧ DrvAt B wx vd ad v ∧ Blk wx bv 22 #[.pointer (some ⟨vd, 0, none⟩)] ∧ Blk wx ba 3 #[.int .i64 a] ∧ OutAt wx bo r.2.1 ∧ Keep B DT w0 wx)
  case first =>
    refine wp_region_tailF (by kernel_rfl) 9 6 (by rfl) (by kernel_rfl) ?_
    repeat (
      refine wx_step (fun K hK => ?_)
      first
        | (rw [if_neg (by exact Bool.false_ne_true)]; refine hK _ ?_; clear hK K; simp only [Act.put, List.setIfInBounds_toArray, List.set_cons_succ, List.set_cons_zero])
        | (rw [if_pos (by rfl)]
           refine xx_val (v := ?_) (fun w' hw' => ?_) (hK _ ?_)
           rotate_left
           · obtain ⟨hc', -, hs'⟩ := hw'.facts
             go_simp
             try go_bits
             rfl
           clear hK K
           simp only [Act.put, List.setIfInBounds_toArray, List.set_cons_succ, List.set_cons_zero]))
    refine wx_nil ?_
    intro w1 hx1
    simp only [List.drop_succ_cons, List.drop_zero]
    have RW := Lib.hid (R.out w1 hx1)
    have HX := Lib.hid hx1
    clear R hx1 c0 c1 b0 b1 l0 l1 l2
    go_wp2_with fail
    refine RW.out.mono ?_
    rintro e w2 ⟨ya, yn, yc, rfl, hd, hk, hy⟩
    have hb2 := (H8.out.ext HX.out).keep hk (by simp)
    have o0 : w2.cell? ⟨bo, 0, none⟩ = some (.slice none 0 0) := hb2.cell 0 rfl
    have of0 : w2.frozen? ⟨bo, 0, none⟩ = false := hb2.free 0
    have ol := hb2.lt
    have HD2 := Lib.hid hd
    have HK2 := Lib.hid hk
    have HY2 := Lib.hid hy
    have HB2 := Lib.hid hb2
    clear hd hk hy hb2 RW
    go_wp2_with fail
    rw [noPanic_normal]
    go_wp2_with fail
    go_meet
    case rel =>
      have k2 : Keep 0 [65] w2 (w2.setCell ⟨bo, 0, none⟩ (.slice ya yn yc)) := (Keep.refl _ _ _).set HB2.out (Nat.zero_le _) (by simp) _ _
      obtain ⟨ac, fv, hd⟩ := HD2.out
      exact ⟨rfl, ⟨ac, fv, hd.setOut HB2.out _⟩, ⟨eb, ce, xv, ((H5.out.keep HX.out (by simp) (by simp) (by simp)).keep HK2.out (by simp) (by simp) (by simp)).keep k2 (by simp) (by simp) (by simp)⟩,
        (((H6.out.ext HX.out).keep HK2.out (by simp)).keep k2 (by simp)), (((H7.out.ext HX.out).keep HK2.out (by simp)).keep k2 (by simp)), OutAt.store HB2.out HY2.out, ((H9.out.trans (HX.out.keep _ _)).trans HK2.out).set_new h10 0 _⟩
  case rest =>
    obtain ⟨rfl, k1, k2, k3, k4, k5, k6⟩ := hcut
    have HK := Lib.hid (And.intro k1 (And.intro k2 (And.intro k3 (And.intro k4 (And.intro k5 k6)))))
    clear k1 k2 k3 k4 k5 k6
    go_wp2
    go_ret
    rw [HP.out, HQ.out]
    exact ⟨rfl, HK.out⟩
end Go.Proofs.YthhcooljjhdjbaaGreat
