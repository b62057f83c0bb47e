/- Contract: the closure of append: a sector is written. Contract: the closure of drive.New that erases a band, again and again while the disk is busy. -/
import Derived.Test.YthhcooljjhdjbaaGreatKP2
import Derived.Test.YthhcooljjhdjbaaGreatKN2
set_option linter.unusedVariables false
set_option linter.unusedSimpArgs false
namespace Go.Proofs.YthhcooljjhdjbaaGreat
open Go.RowKit

structure AppPre (B : Nat) (w0 : World) (ad ap vd bv ba bo q c : Nat) (v : Drv) (a : Int) (b : List UInt8) (d : Dsk) (w : World) : Prop where
  dsk : DskAt B w ad ap d
  ok : DOk d
  drv : DrvAt B w vd ad v
  hbv : Blk w bv 22 #[.pointer (some ⟨vd, 0, none⟩)]
  hba : Blk w ba 3 #[.int .i64 a]
  hbo : Blk w bo 65 #[.slice (some ⟨q, 0, none⟩) b.length c]
  bytes : BytesAt w (.slice (some ⟨q, 0, none⟩) b.length c) b
  two : 2 ≤ b.length
  most : b.length ≤ 64
  keep : Keep B DT w0 w
  ge : B ≤ w.heap.size
set_option maxHeartbeats 4000000 in
theorem append1 {B : Nat} {w0 : World} {ad ap vd bv ba bo q c : Nat} {v : Drv} {a : Int} {b : List UInt8} (d : Dsk) (w : World) (h : AppPre B w0 ad ap vd bv ba bo q c v a b d w) :
    Calls Tryz.prog 111 #[.pointer (some ⟨bv, 0, none⟩), .pointer (some ⟨ba, 0, none⟩), .pointer (some ⟨bo, 0, none⟩)] w fun e w' => e = .returned (.int .i64 (writeStep v.key a b d).2) ∧
      DskAt B w' ad ap (writeStep v.key a b d).1 ∧ Keep B DT w w' := by
  obtain ⟨h1, h2, ⟨eb, ce, xv, h5⟩, h6, h7, h8, h9, h10, h11, h12, h13⟩ := h
  have c0 : w.cell? ⟨vd, 0, none⟩ = some (.pointer (some ⟨ad, 0, none⟩)) := h5.blk.cell 0 rfl
  have c1 : w.cell? ⟨vd, 1, none⟩ = some (.int .u64 v.key) := h5.blk.cell 1 rfl
  have b0 : w.cell? ⟨bv, 0, none⟩ = some (.pointer (some ⟨vd, 0, none⟩)) := h6.cell 0 rfl
  have b1 : w.cell? ⟨ba, 0, none⟩ = some (.int .i64 a) := h7.cell 0 rfl
  have b2 : w.cell? ⟨bo, 0, none⟩ = some (.slice (some ⟨q, 0, none⟩) b.length c) := h8.cell 0 rfl
  have l0 := cell_lt c0
  have l1 := cell_lt b0
  have l2 := cell_lt b1
  have l3 := cell_lt b2
  have R := Lib.hid (fun w' (hx : Ext w w') => dwrite (w := w') (h1.ext hx) h2.geo h2.faults (Nat.le_trans h13 hx.size) h2.pending v.key a q c b (BytesAt.keep h9 hx (by simp)) h10 h11)
  have HP := Lib.hid (show writeStep v.key a b d = ((d.write v.key a b).1, (d.write v.key a b).2.2) from rfl)
  clear h1 h2 h5 h6 h7 h8 h9 h10 h11 h12 h13
  generalize writeStep v.key a b d = rs at *
  generalize d.write v.key a b = r at *
  go_enter Tryz.func111, Tryz.ntmps111
  go_upto_region 1 with fail
  refine wp_region_tail (by kernel_rfl) 10 2 99 (by rfl) (by kernel_rfl) (fun h => absurd h (by decide)) ?_
  repeat (
    refine wx_step (fun K hK => ?_)
    first
      | (rw [if_neg (by exact Bool.false_ne_true)]; refine hK _ ?_; clear hK K; simp only [Act.put, List.setIfInBounds_toArray, List.set_cons_succ, List.set_cons_zero])
      | (rw [if_pos (by rfl)]
         refine xx_val (v := ?_) (fun w' hw' => ?_) (hK _ ?_)
         rotate_left
         · obtain ⟨hc', -, hs'⟩ := hw'.facts
           go_simp
           try go_bits
           rfl
         clear hK K
         simp only [Act.put, List.setIfInBounds_toArray, List.set_cons_succ, List.set_cons_zero]))
  refine wx_nil ?_
  intro w1 hx1
  simp only [List.drop_succ_cons, List.drop_zero]
  have RW := Lib.hid (R.out w1 hx1)
  have HX := Lib.hid hx1
  clear R hx1 c0 c1 b0 b1 b2 l0 l1 l2 l3
  go_wp2_with fail
  refine RW.out.mono ?_
  rintro e w2 ⟨rfl, hd, hk⟩
  have HD := Lib.hid hd
  have HK := Lib.hid (show Keep B DT w w2 from (HX.out.keep _ _).trans hk)
  clear hd hk RW
  go_wp2
  go_ret
  rw [HP.out]
  exact ⟨rfl, HD.out, HK.out⟩
end Go.Proofs.YthhcooljjhdjbaaGreat
namespace Go.Proofs.YthhcooljjhdjbaaGreat
open Go.RowKit

structure ErPost (B : Nat) (w0 : World) (ad ap bd bk bi m : Nat) (key : Int) (k : Nat) (r : Dsk × Int) (w : World) : Prop where
  dsk : DskAt B w ad ap r.1
  inv : DInv (m + 1) r.1
  busy : r.2 = 16 → DInv m r.1
  hk : k < r.1.geo.bands
  hbd : Blk w bd 54 #[.pointer (some ⟨ad, 0, none⟩)]
  hbk : Blk w bk 23 #[.int .u64 key]
  hbi : Blk w bi 3 #[.int .i64 (k : Int)]
  keep : Keep B DT w0 w
  ge : B ≤ w.heap.size
structure ErPre (B : Nat) (w0 : World) (ad ap bd bk bi m : Nat) (key : Int) (k : Nat) (d : Dsk) (w : World) : Prop where
  dsk : DskAt B w ad ap d
  inv : DInv m d
  hk : k < d.geo.bands
  hbd : Blk w bd 54 #[.pointer (some ⟨ad, 0, none⟩)]
  hbk : Blk w bk 23 #[.int .u64 key]
  hbi : Blk w bi 3 #[.int .i64 (k : Int)]
  keep : Keep B DT w0 w
  ge : B ≤ w.heap.size
set_option maxHeartbeats 1000000 in
theorem newErase {B : Nat} {w0 : World} {ad ap bd bk bi m : Nat} {key : Int} {k : Nat} (hm : m ≤ 60000) (d : Dsk) (w : World) (h : ErPre B w0 ad ap bd bk bi m key k d w) :
    Calls Tryz.prog 61 #[.pointer (some ⟨bd, 0, none⟩), .pointer (some ⟨bk, 0, none⟩), .pointer (some ⟨bi, 0, none⟩)] w fun e w' => e = .returned (.int .i64 (eraseStep key k d).2) ∧ ErPost B w0 ad ap bd bk bi m key k (eraseStep key k d) w' := by
  obtain ⟨h1, h2, h3, h4, h5, h6, h7, h8⟩ := h
  have c0 : w.cell? ⟨bd, 0, none⟩ = some (.pointer (some ⟨ad, 0, none⟩)) := h4.cell 0 rfl
  have c1 : w.cell? ⟨bk, 0, none⟩ = some (.int .u64 key) := h5.cell 0 rfl
  have c2 : w.cell? ⟨bi, 0, none⟩ = some (.int .i64 (k : Int)) := h6.cell 0 rfl
  have F := Lib.hid (derase h1 (h2.ok hm).geo (h2.ok hm).faults h8 (h2.ok hm).pending key k h3)
  have HC : Hid (DInv (m + 1) (eraseStep key k d).1 ∧ ((eraseStep key k d).2 = 16 → DInv m (eraseStep key k d).1) ∧ (eraseStep key k d).1.geo = d.geo) := Lib.hid (by
    unfold eraseStep
    rcases d.erase_cases key k h3 with ⟨e, s⟩ | ⟨e, s⟩
    · exact ⟨h2.erased s, fun h => absurd (e.symm.trans h) (by decide), s.geo⟩
    · exact ⟨(h2.same s).mono (Nat.le_succ _), fun _ => h2.same s, s.geo⟩)
  have H3 := Lib.hid h3
  have H4 := Lib.hid h4
  have H5 := Lib.hid h5
  have H6 := Lib.hid h6
  have H7 := Lib.hid h7
  have HE := Lib.hid (show eraseStep key k d = ((d.erase key k).1, (d.erase key k).2.2) from rfl)
  clear h1 h2 h3 h4 h5 h6 h7
  generalize eraseStep key k d = rs at *
  generalize d.erase key k = r at *
  go_enter Tryz.func61, Tryz.ntmps61
  go_wp2_with fail
  refine F.out.mono ?_
  rintro e w1 ⟨rfl, hd, hk⟩
  have HD := Lib.hid hd
  have HK := Lib.hid hk
  clear hd hk F
  go_wp2
  go_ret
  have he := HE.out
  subst he
  exact ⟨rfl, HD.out, HC.out.1, HC.out.2.1, by rw [HC.out.2.2]; exact H3.out, H4.out.keep HK.out (by simp), H5.out.keep HK.out (by simp), H6.out.keep HK.out (by simp), H7.out.trans HK.out, Nat.le_trans h8 HK.out.size⟩
theorem newEraseAll {B : Nat} {w0 : World} {ad ap bd bk bi m : Nat} {key : Int} {k : Nat} (hm : m ≤ 60000) (d : Dsk) (w : World) (h : ErPre B w0 ad ap bd bk bi m key k d w) :
    Calls Tryz.prog 47 #[.func (.func 61) #[] #[.pointer (some ⟨bd, 0, none⟩), .pointer (some ⟨bk, 0, none⟩), .pointer (some ⟨bi, 0, none⟩)]] w fun e w' => e = .returned (.int .i64 (d.eraseAll key k).2) ∧ ErPost B w0 ad ap bd bk bi m key k (d.eraseAll key k) w' :=
  dretry 61 (by simp) (eraseStep key k) (ErPre B w0 ad ap bd bk bi m key k) (ErPost B w0 ad ap bd bk bi m key k) _ (newErase hm)
    (fun r w h hb => ⟨h.dsk, h.busy hb, h.hk, h.hbd, h.hbk, h.hbi, h.keep, h.ge⟩) d w h
end Go.Proofs.YthhcooljjhdjbaaGreat
