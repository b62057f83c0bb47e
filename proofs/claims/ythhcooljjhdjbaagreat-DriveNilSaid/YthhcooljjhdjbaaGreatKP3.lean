/- Plain laws: what holds of a drive and its disk behind each work. No program in sight. -/
import Derived.Test.YthhcooljjhdjbaaGreatKP2
import Derived.Test.YthhcooljjhdjbaaGreatKW48
import Derived.Test.YthhcooljjhdjbaaGreatKW41
set_option linter.unusedVariables false
set_option linter.unusedSimpArgs false
namespace Go.Proofs.YthhcooljjhdjbaaGreat
open Go.RowKit

theorem DInv.new {g : Geo} (hg : g.Ok) (l : List Flt) (hl : l.length ≤ 4096) (ht : ∀ f ∈ l, f.kind ≠ 2) (p : Pow) : DInv 0 (Dsk.new g l p) := by
  have he : Encs (List.replicate g.size Sec.blank) := by
    intro s hs b hb
    rw [List.eq_of_mem_replicate hs] at hb; cases hb
  exact ⟨hg, hl, Nat.le_refl _, ht, he, he, fun a b h => (by cases h), List.length_replicate .., List.length_replicate ..⟩
theorem eraseFrom_ok (key : Int) : ∀ (n k m : Nat) (d : Dsk), DInv m d → k + n ≤ d.geo.bands → DInv (m + n) (eraseFrom key n k d).1 ∧ (eraseFrom key n k d).1.geo = d.geo
  | 0, _, m, d, h, _ => ⟨h, rfl⟩
  | n + 1, k, m, d, h, hk => by
    have h1 := h.eraseAll key k (by omega)
    have hg : (d.eraseAll key k).1.geo = d.geo := by
      rcases d.eraseAll_cases key k (by omega) with ⟨_, s⟩ | ⟨_, s⟩
      · exact s.geo
      · exact s.geo
    unfold eraseFrom
    split
    · obtain ⟨a, b⟩ := eraseFrom_ok key n (k + 1) (m + 1) (d.eraseAll key k).1 h1 (by rw [hg]; omega)
      exact ⟨a.mono (by omega), b.trans hg⟩
    · exact ⟨h1.mono (by omega), hg⟩
theorem newRun_ok {m : Nat} {d : Dsk} (h : DInv m d) (key : Int) (n : Nat) : DInv (m + 64) (newRun d key n).1 ∧ (newRun d key n).1.geo = d.geo := by
  obtain ⟨h1, h2⟩ := eraseFrom_ok key d.geo.bands 0 m d h (by omega)
  have h3 := h.geo.bands
  unfold newRun newFin
  generalize eraseFrom key d.geo.bands 0 d = r at *
  have hf : (r.1.flushAll key).1.geo = r.1.geo := by
    rcases r.1.flushAll_cases key with ⟨_, s⟩ | ⟨_, s⟩
    · exact s.geo
    · exact s.geo
  split
  · split
    · exact ⟨(h1.flushAll key).mono (by omega), hf.trans h2⟩
    · exact ⟨(h1.flushAll key).mono (by omega), hf.trans h2⟩
  · exact ⟨h1.mono (by omega), h2⟩
theorem VOk.new (g : Geo) (hg : g.Ok) (key : Int) (n : Nat) (h1 : 1 ≤ n) (hr : n + 3 * g.band ≤ g.bands * g.band) : VOk g (Drv.new key n g.bands) := by
  have hb := hg.band1
  have hbb := hg.bb_le
  have hat : ∀ b, (Drv.new key n g.bands).at b = .none := by
    intro b
    unfold Drv.at Drv.new
    rw [List.getD_eq_getElem?_getD, List.getElem?_replicate]
    split <;> rfl
  have hbn : ∀ k, (Drv.new key n g.bands).bnd k = .zero := by
    intro b
    unfold Drv.bnd Drv.new
    rw [List.getD_eq_getElem?_getD, List.getElem?_replicate]
    split <;> rfl
  refine ⟨List.length_replicate .., ⟨?_, ?_, ?_, ?_⟩, ?_, ?_, ?_, fun b _ => hat b, fun b hb => ?_, fun b c hb => ?_, fun k _ => ?_⟩
  · show 1 ≤ (List.replicate g.bands Band.zero).length; rw [List.length_replicate]; exact hg.bands1
  · show (List.replicate g.bands Band.zero).length ≤ 64; rw [List.length_replicate]; exact hg.bands
  · omega
  · intro b hb
    have : b = .zero := List.eq_of_mem_replicate hb
    subst this
    show (0 : Int) ≤ 0 ∧ (0 : Int) ≤ 0 ∧ (0 : Int) ≤ g.band
    omega
  · show 1 ≤ (List.replicate n Nw.none).length; rw [List.length_replicate]; exact h1
  · show (List.replicate n Nw.none).length ≤ 120; rw [List.length_replicate]; omega
  · show (List.replicate n Nw.none).length + _ ≤ _; rw [List.length_replicate]; exact hr
  · rw [hat] at hb; exact absurd hb (by decide)
  · rw [hat] at hb; exact absurd hb (by decide)
  · rw [hbn]
    have : (Drv.new key n g.bands).liveN g k = 0 := by
      unfold Drv.liveN Drv.new
      rw [List.countP_eq_zero]
      intro a ha
      have : a = .none := List.eq_of_mem_replicate ha
      subst this
      simp [Nw.none]
    rw [this]; rfl
theorem appTail_ok {m : Nat} {v : Drv} {d : Dsk} (hi : DInv m d) (hv : VOk d.geo v) (x : Ent) (hb : 0 ≤ x.block ∧ x.block < v.entries.length) (k : Nat) (hk : k < d.geo.bands) (hu : (v.bnd k).used < d.geo.band) (r : Dsk × Int) :
    VOk d.geo (appTail v d x k r).1.1 := by
  unfold appTail
  split
  · exact hv.fail _
  · obtain ⟨o1, o2, o3, o4⟩ := (hv.time v.stamp).unlink hi.geo x.block.toNat (by show _ < v.entries.length; omega)
    exact o1.link x.block.toNat (by rw [o4]; show _ < v.entries.length; omega) o2 x.kind x.version k hk (by rw [o3]; exact hu)
theorem append_ok {m : Nat} {v : Drv} {d : Dsk} (hi : DInv m d) (hv : VOk d.geo v) (x : Ent) (hx : x.Ok) (hb : x.block < v.entries.length) (ex : Int) (hex : ex < d.geo.bands) :
    VOk d.geo (appendRun v d x ex).1.1 ∧ DInv (m + 1) (appendRun v d x ex).1.2 ∧ (appendRun v d x ex).1.2.geo = d.geo := by
  by_cases ho : (openAns (v.openList d.geo ex) d.geo.band).2 = 0
  · obtain ⟨k, h1, h2, h3, h4⟩ := hv.open_spec ex hex ho
    have ho2 : openAns (v.openList d.geo ex) d.geo.band = ((k : Int), 0) := by rw [← h2, ← ho]
    rw [appendRun_eq v d x ex k ho2]
    refine ⟨appTail_ok hi hv x ⟨hx.b0, hb⟩ k h1 h3 _, ?_⟩
    have henc : IsEnc (encode x v.stamp) := ⟨x, v.stamp, hx, by unfold Drv.stamp; rw [IntKind.wrap_u64]; omega, by unfold Drv.stamp; rw [IntKind.wrap_u64]; omega, rfl⟩
    have hhas : d.has ((d.geo.random : Int) + k * d.geo.band + (v.bnd k).used) = true := by
      unfold Dsk.has
      have h5 : (k + 1) * d.geo.band ≤ d.geo.bands * d.geo.band := Nat.mul_le_mul_right _ h1
      rw [Nat.add_mul, Nat.one_mul] at h5
      have h6 : ((k : Int) * d.geo.band) = ((k * d.geo.band : Nat) : Int) := by rw [Int.natCast_mul]
      obtain ⟨r0, r1, r2⟩ := hv.bndOk h1
      unfold Geo.size
      simp only [Bool.and_eq_true, decide_eq_true_eq]
      rw [h6]; omega
    have hw := hi.writeAll v.key _ _ hhas henc
    have hg : (d.writeAll v.key ((d.geo.random : Int) + k * d.geo.band + (v.bnd k).used) (encode x v.stamp)).1.geo = d.geo := by
      rcases d.writeAll_cases v.key _ _ hhas (by rw [henc.len]; decide) with ⟨_, s⟩ | ⟨_, s⟩
      · rcases s with s | ⟨_, _, _, _, s⟩
        · exact s.geo
        · exact s.geo
      · exact s.geo
    unfold appTail
    split
    · exact ⟨hw, hg⟩
    · exact ⟨hw, hg⟩
  · unfold appendRun
    rw [if_pos ho]
    exact ⟨hv, hi.mono (Nat.le_succ _), rfl⟩
theorem read_ok {m : Nat} {v : Drv} {d : Dsk} (hi : DInv m d) (hv : VOk d.geo v) (n : Int) : VOk d.geo (readRun v d n).1.1 ∧ DInv m (readRun v d n).1.2 ∧ (readRun v d n).1.2.geo = d.geo := by
  have h1 : ∀ b, DInv m (fetchRun v d b).1 ∧ (fetchRun v d b).1.geo = d.geo := fun b => ⟨(hi.sector v.key (v.at b).address).1, (d.sector_cases v.key (v.at b).address).1.geo⟩
  unfold readRun
  split
  · exact ⟨hv, hi, rfl⟩
  · split
    · exact ⟨hv, hi, rfl⟩
    · split
      · exact ⟨hv, hi, rfl⟩
      · obtain ⟨a, b⟩ := h1 n.toNat
        unfold readFetch
        split
        · exact ⟨hv, a, b⟩
        · split
          · exact ⟨hv, a, b⟩
          · exact ⟨hv.fail _, a, b⟩

/-! ### The example of the document -/
def g5 : Geo := ⟨0, 5, 2, 4, 1⟩
theorem g5Ok : g5.Ok := ⟨by decide, by decide, by decide, by decide, by decide, by decide, by decide, by decide⟩
def x1 : Ent := ⟨1, 1, 5, [7, 0, 0, 0, 0, 0, 0, 0]⟩
def x2 : Ent := ⟨2, 1, 6, [0, 0, 0, 0, 0, 0, 0, 0]⟩
theorem x1Ok : x1.Ok := ⟨by decide, by decide, by decide, by decide, rfl, .inl rfl⟩
theorem x2Ok : x2.Ok := ⟨by decide, by decide, by decide, by decide, rfl, .inr ⟨rfl, rfl⟩⟩
def aD : Dsk := Dsk.new g5 [] Pow.new
def aN : Dsk × Option Drv × Int := newRun aD 0 4
def aV : Drv := Drv.new 0 4 5
def aA : (Drv × Dsk) × Int := appendRun aV aN.1 x1 (-1)
def aR : (Drv × Dsk) × Int × List UInt8 × Int := readRun aA.1.1 aA.1.2 1
def aB : (Drv × Dsk) × Int := appendRun aR.1.1 aR.1.2 x2 (-1)
def aS : (Drv × Dsk) × Int × List UInt8 × Int := readRun aB.1.1 aB.1.2 1
theorem aN2 : aN.2 = (some aV, 0) := by kernel_rfl
theorem aA2 : aA.2 = 0 := by kernel_rfl
theorem aR2 : aR.2 = (5, [7, 0, 0, 0, 0, 0, 0, 0], 0) := by kernel_rfl
theorem aB2 : aB.2 = 0 := by kernel_rfl
theorem aS2 : aS.2 = (0, zero8, 9) := by kernel_rfl
theorem aH1 : putHead aV x1 = 0 := by kernel_rfl
theorem aH2 : putHead aR.1.1 ⟨1, 1, 4, zero8⟩ = 1 := by kernel_rfl
theorem aH3 : putHead aR.1.1 x2 = 0 := by kernel_rfl
theorem aF1 : freeN aV.bands = 5 := by kernel_rfl
theorem aF2 : freeN aR.1.1.bands = 4 := by kernel_rfl
end Go.Proofs.YthhcooljjhdjbaaGreat
