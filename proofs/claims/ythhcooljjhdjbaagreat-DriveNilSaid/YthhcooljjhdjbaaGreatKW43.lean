/- Contract: an entry is appended. -/
import Derived.Test.YthhcooljjhdjbaaGreatKW42
import Derived.Test.YthhcooljjhdjbaaGreatKW39
set_option linter.unusedVariables false
set_option linter.unusedSimpArgs false
namespace Go.Proofs.YthhcooljjhdjbaaGreat
open Go.RowKit

def AppendPost (B : Nat) (w : World) (ad ap vd : Nat) (r : (Drv × Dsk) × Int) (e : Ending) (w' : World) : Prop :=
  e = .returned (.int .i64 r.2) ∧ DskAt B w' ad ap r.1.2 ∧ DrvAt B w' vd ad r.1.1 ∧ Keep B VT w w'
structure AppAfter (B : Nat) (w0 : World) (ad ap vd bv ba bo q c m : Nat) (v : Drv) (a : Int) (b : List UInt8) (r : Dsk × Int) (w : World) : Prop where
  dsk : DskAt B w ad ap r.1
  keep : Keep B DT w0 w
  inv : DInv (m + 1) r.1
  busy : r.2 = 16 → DInv m r.1
  has : r.1.has a = true
theorem appendAll {B : Nat} {w0 : World} {ad ap vd bv ba bo q c m : Nat} {v : Drv} {a : Int} {b : List UInt8} (d : Dsk) (w : World) (hd : DskAt B w ad ap d) (hi : DInv m d) (hm : m ≤ 60000) (ha : d.has a = true) (hb : IsEnc b)
    (hv : DrvAt B w vd ad v) (h1 : Blk w bv 22 #[.pointer (some ⟨vd, 0, none⟩)]) (h2 : Blk w ba 3 #[.int .i64 a]) (h3 : Blk w bo 65 #[.slice (some ⟨q, 0, none⟩) b.length c]) (h4 : BytesAt w (.slice (some ⟨q, 0, none⟩) b.length c) b) (hB : B ≤ w.heap.size) :
    Calls Tryz.prog 47 #[.func (.func 111) #[] #[.pointer (some ⟨bv, 0, none⟩), .pointer (some ⟨ba, 0, none⟩), .pointer (some ⟨bo, 0, none⟩)]] w fun e w' => e = .returned (.int .i64 (d.writeAll v.key a b).2) ∧ DskAt B w' ad ap (d.writeAll v.key a b).1 ∧ Keep B DT w w' := by
  have hl := hb.len
  refine (dretry 111 (by simp) (writeStep v.key a b) (fun d w' => AppPre B w ad ap vd bv ba bo q c v a b d w' ∧ DInv m d ∧ d.has a = true) (fun r w' => AppAfter B w ad ap vd bv ba bo q c m v a b r w' ∧ (r.2 = 16 → AppPre B w ad ap vd bv ba bo q c v a b r.1 w')) _ ?_ ?_ d w
    ⟨⟨hd, hi.ok hm, hv, h1, h2, h3, h4, by omega, by omega, Keep.refl _ _ _, hB⟩, hi, ha⟩).mono ?_
  · rintro d' w' ⟨h, hi', ha'⟩
    refine (append1 d' w' h).mono ?_
    rintro e w2 ⟨he, hd2, hk2⟩
    have hc := d'.write_cases v.key a b ha' (by omega)
    have hg : (writeStep v.key a b d').1.geo = d'.geo := by
      rcases hc with ⟨_, s⟩ | ⟨_, s⟩
      · rcases s with s | ⟨_, _, _, _, s⟩
        · exact s.geo
        · exact s.geo
      · exact s.geo
    have hbusy : (writeStep v.key a b d').2 = 16 → DInv m (writeStep v.key a b d').1 := fun h16 => by
      rcases hc with ⟨e, _⟩ | ⟨_, s⟩
      · have h16 : (d'.write v.key a b).2.2 = 16 := h16
        rw [e] at h16; cases h16
      · exact hi'.same s
    refine ⟨he, ⟨hd2, h.keep.trans hk2, ?_, hbusy, ?_⟩, fun h16 => ⟨hd2, (hbusy h16).ok hm, h.drv.keep hk2 (by simp) (by simp) (by simp), h.hbv.keep hk2 (by simp), h.hba.keep hk2 (by simp), h.hbo.keep hk2 (by simp), BytesAt.keep h.bytes hk2 (by simp), h.two, h.most, h.keep.trans hk2, Nat.le_trans h.ge hk2.size⟩⟩
    · rcases hc with ⟨_, s⟩ | ⟨_, s⟩
      · exact hi'.wrote hb s
      · exact (hi'.same s).mono (Nat.le_succ _)
    · unfold Dsk.has at *; rw [hg]; exact ha'
  · rintro r w' ⟨h, hp⟩ h16
    exact ⟨hp h16, h.busy h16, h.has⟩
  · rintro e w' ⟨he, h, _⟩
    exact ⟨he, h.dsk, h.keep⟩
end Go.Proofs.YthhcooljjhdjbaaGreat
