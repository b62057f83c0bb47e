/- Contracts: how many bands are free; the list of bands is valid. -/
import Derived.Test.YthhcooljjhdjbaaGreatKM4
import Derived.Test.YthhcooljjhdjbaaGreatKE2
set_option linter.unusedVariables false
set_option linter.unusedSimpArgs false
namespace Go.Proofs.YthhcooljjhdjbaaGreat
open Go.RowKit

def bandCells (b : Band) : List Value := [.int .i64 b.used, .int .i64 b.live, .int .u64 b.age, .int .u64 b.wear]
structure BandCell (w : World) (q o : Nat) (b : Band) : Prop where
  c0 : w.cell? ⟨q, o, none⟩ = some (.int .i64 b.used)
  c1 : w.cell? ⟨q, o + 1, none⟩ = some (.int .i64 b.live)
  c2 : w.cell? ⟨q, o + 2, none⟩ = some (.int .u64 b.age)
  c3 : w.cell? ⟨q, o + 3, none⟩ = some (.int .u64 b.wear)
theorem BandCell.ext {w w' : World} {q o : Nat} {b : Band} (h : BandCell w q o b) (hx : Ext w w') : BandCell w' q o b :=
  ⟨Keep.cell hx h.c0, Keep.cell hx h.c1, Keep.cell hx h.c2, Keep.cell hx h.c3⟩
/-- A slice that reads as a list of bands, wherever it lies. -/
def BandsIn (w : World) (v : Value) (l : List Band) : Prop :=
  ∃ q c, v = .slice (some ⟨q, 0, none⟩) l.length c ∧ ∀ (i : Nat) (b : Band), l[i]? = some b → BandCell w q (i * 4) b
theorem BandsIn.ext {w w' : World} {v : Value} {l : List Band} (h : BandsIn w v l) (hx : Ext w w') : BandsIn w' v l :=
  let ⟨q, c, hv, h⟩ := h
  ⟨q, c, hv, fun i b hb => (h i b hb).ext hx⟩

set_option maxHeartbeats 1000000 in
theorem bfree {w : World} {v : Value} {l : List Band} (h : BandsIn w v l) (hl : l.length ≤ 64) : Calls Tryz.prog 70 #[v] w fun e w' => e = .returned (.int .i64 (freeN l)) ∧ Ext w w' := by
  obtain ⟨q, c, rfl, h⟩ := h
  have H := Lib.hid h
  clear h
  unfold freeN
  go_enter Tryz.func70, Tryz.ntmps70
  go_wp2
  go_loopw [3, 8] (fun x i wr => ∃ k : Nat, k ≤ l.length ∧ i = .int .i64 k ∧ x = .int .i64 (freeUpto l k) ∧ Ext w wr) (fun _ i _ => l.length - (intOf i).toNat)
  case atStart => exact ⟨0, Nat.zero_le _, rfl, rfl, Ext.refl _⟩
  case round =>
    obtain ⟨k, hk, rfl, rfl, hx⟩ := hrel
    by_cases hlt : k < l.length
    · have hd : l.getD k .zero = l[k] := by rw [List.getD_eq_getElem?_getD, List.getElem?_eq_getElem hlt]; rfl
      have HR := Lib.hid (freeUpto_range l k)
      have HS := Lib.hid (show freeUpto l (k + 1) = if (l[k].used == 0) = true then freeUpto l k + 1 else freeUpto l k by rw [← hd]; rfl)
      obtain ⟨d0, d1, d2, d3⟩ := (H.out k _ (List.getElem?_eq_getElem hlt)).ext hx
      have HX := Lib.hid hx
      clear hx hd
      have hn0 := HR.out.1
      have hn1 : freeUpto l k ≤ 64 := by have := HR.out.2; omega
      generalize freeUpto l k = n at *
      generalize l[k] = b at *
      by_cases hb : (b.used == 0) = true
      · rw [if_pos hb] at HS
        go_wp2
        go_roundw
        case rel => exact ⟨k + 1, by omega, by go_num, by rw [HS.out], by exact (HX.out.alloc _)⟩
        case measure => simp [intOf]; omega
      · rw [if_neg hb] at HS
        have hb : (b.used == 0) = false := by simpa using hb
        go_wp2
        go_roundw
        case rel => exact ⟨k + 1, by omega, by go_num, by rw [HS.out], by exact (HX.out.alloc _)⟩
        case measure => simp [intOf]; omega
    · have hkl : k = l.length := by omega
      subst hkl
      have HX := Lib.hid hx
      clear hx
      go_wp2
      go_ret
      exact ⟨rfl, HX.out⟩

set_option maxHeartbeats 1000000 in
theorem bindex {w : World} {v : Value} {l : List Band} {size : Int} {z : Nat} (h : BandsIn w v l) (hok : BandsOk l size) (hz : Blk w z 3 #[.int .i64 size]) :
    Calls Tryz.prog 163 #[v, .func (.func 130) #[] #[.pointer (some ⟨z, 0, none⟩)]] w fun e w' => e = .returned (.int .i64 (-1)) ∧ Ext w w' := by
  obtain ⟨q, c, rfl, h⟩ := h
  have hl := hok.most
  have H := Lib.hid h
  have HO := Lib.hid hok.ok
  have HZ := Lib.hid hz
  clear h hok hz
  go_enter Tryz.func163, Tryz.ntmps163
  go_wp2
  go_loopw [8] (fun i wr => ∃ k : Nat, k ≤ l.length ∧ i = .int .i64 k ∧ Ext w wr) (fun i _ => l.length - (intOf i).toNat)
  case atStart => exact ⟨0, Nat.zero_le _, rfl, Ext.refl _⟩
  case round =>
    obtain ⟨k, hk, rfl, hx⟩ := hrel
    by_cases hlt : k < l.length
    · obtain ⟨d0, d1, d2, d3⟩ := (H.out k _ (List.getElem?_eq_getElem hlt)).ext hx
      obtain ⟨o1, o2, o3⟩ := HO.out _ (List.getElem_mem hlt)
      have z0 : wr.cell? ⟨z, 0, none⟩ = some (.int .i64 size) := (HZ.out.ext hx).cell 0 rfl
      have zl := (HZ.out.ext hx).lt
      have HX := Lib.hid hx
      clear hx
      generalize l[k] = b at *
      have b1 : decide (b.live < 0) = false := by simpa using o1
      have b2 : decide (b.used < b.live) = false := by simpa using o2
      have b3 : decide (size < b.used) = false := by simpa using o3
      clear o1 o2 o3
      go_wp2_with go_in
      go_roundw
      case rel => exact ⟨k + 1, by omega, by go_num, by exact (HX.out.alloc _)⟩
      case measure => simp [intOf]; omega
    · have hkl : k = l.length := by omega
      subst hkl
      have HX := Lib.hid hx
      clear hx
      go_wp2
      go_ret
      exact ⟨rfl, HX.out⟩
theorem bvalid {w : World} {v : Value} {l : List Band} {size : Int} (h : BandsIn w v l) (hok : BandsOk l size) : Calls Tryz.prog 103 #[v, .int .i64 size] w fun e w' => e = .returned (.bool true) ∧ Ext w w' := by
  have hx0 : Ext w (w.alloc (.cells #[.int .i64 size] 3)) := (Ext.refl w).alloc _
  have I := Lib.hid (bindex (h.ext hx0) hok (z := w.heap.size) (Blk.new w #[.int .i64 size] 3))
  have HX0 := Lib.hid hx0
  obtain ⟨q, c, rfl, h⟩ := h
  have h1 : (1 : Int) ≤ (l.length : Int) := by have := hok.one; omega
  have h2 : (l.length : Int) ≤ 64 := by have := hok.most; omega
  have h3 := hok.size1
  clear h hok hx0
  go_enter Tryz.func103, Tryz.ntmps103
  go_wp2_with (first
    | (go_at_call 163; refine I.out.mono ?_; rintro e w1 ⟨rfl, hx⟩)
    | go_in)
  have HX := Lib.hid (HX0.out.trans hx)
  clear hx I HX0
  go_ret
  exact ⟨rfl, HX.out⟩
end Go.Proofs.YthhcooljjhdjbaaGreat
