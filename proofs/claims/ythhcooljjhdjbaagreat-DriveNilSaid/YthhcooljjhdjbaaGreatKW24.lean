/- Contracts: the open band, the least worn band. -/
import Derived.Test.YthhcooljjhdjbaaGreatKW23
set_option linter.unusedVariables false
set_option linter.unusedSimpArgs false
namespace Go.Proofs.YthhcooljjhdjbaaGreat
open Go.RowKit

theorem cell_lt {w : World} {b i : Nat} {v : Value} (h : w.cell? ⟨b, i, none⟩ = some v) : b < w.heap.size := by
  rcases Nat.lt_or_ge b w.heap.size with h1 | h1
  · exact h1
  · rw [World.cell?] at h
    simp [Array.getElem?_eq_none h1] at h
set_option maxHeartbeats 2000000 in
theorem bopen {w : World} {v : Value} {l : List Band} {size : Int} (h : BandsIn w v l) (hok : BandsOk l size) : Calls Tryz.prog 73 #[v, .int .i64 size] w fun e w' => e = .returned (.int .i64 (openBand l size)) ∧ Ext w w' := by
  have hx0 : Ext w (w.alloc (.cells #[v] 35)) := (Ext.refl w).alloc _
  have VV := Lib.hid (bvalid (h.ext hx0) hok)
  have HL := Lib.hid (Blk.new w #[v] 35)
  have HX0 := Lib.hid hx0
  obtain ⟨q, c, rfl, h⟩ := h
  have hl := hok.most
  have H := Lib.hid h
  clear h hok hx0
  unfold openBand
  go_enter Tryz.func73, Tryz.ntmps73
  go_wp2_with fail
  refine VV.out.mono ?_
  rintro e w1 ⟨rfl, hx⟩
  have HL1 := Lib.hid (HL.out.ext hx)
  have l0 : w1.cell? ⟨w.heap.size, 0, none⟩ = some (.slice (some ⟨q, 0, none⟩) l.length c) := HL1.out.cell 0 rfl
  have ll := HL1.out.lt
  have HX1 := Lib.hid (HX0.out.trans hx)
  clear hx VV HX0 HL
  go_wp2_with fail
  have HB0 := Lib.hid (Blk.new w1 #[.int .i64 (-1)] 3)
  have HLa := Lib.hid (HL1.out.alloc (.cells #[.int .i64 (-1)] 3))
  have HXa := Lib.hid (HX1.out.alloc (.cells #[.int .i64 (-1)] 3))
  have hge := HX1.out.size
  clear l0 HL1 HX1
  generalize hW : w1.alloc (.cells #[.int .i64 (-1)] 3) = W at *
  generalize w1.heap.size = o at *
  generalize hB : w.heap.size = bx at *
  clear hW
  go_loopw [16] (fun i wr => ∃ k : Nat, k ≤ l.length ∧ i = .int .i64 k ∧ Ext w wr ∧ Blk wr bx 35 #[.slice (some ⟨q, 0, none⟩) l.length c] ∧ Blk wr o 3 #[.int .i64 (openUpto l size k)]) (fun i _ => l.length - (intOf i).toNat)
  case atStart => exact ⟨0, Nat.zero_le _, rfl, HXa.out, HLa.out, HB0.out⟩
  case round =>
    obtain ⟨k, hk, rfl, hx, hbl, hbo⟩ := hrel
    clear HXa HLa HB0
    have o0 : wr.cell? ⟨o, 0, none⟩ = some (.int .i64 (openUpto l size k)) := hbo.cell 0 rfl
    have of : wr.frozen? ⟨o, 0, none⟩ = false := hbo.free 0
    have l0 : wr.cell? ⟨bx, 0, none⟩ = some (.slice (some ⟨q, 0, none⟩) l.length c) := hbl.cell 0 rfl
    have ol := hbo.lt
    have bl := hbl.lt
    have HX := Lib.hid hx
    have HLr := Lib.hid hbl
    have HOr := Lib.hid hbo
    by_cases hlt : k < l.length
    · have hd : l.getD k .zero = l[k] := by rw [List.getD_eq_getElem?_getD, List.getElem?_eq_getElem hlt]; rfl
      have HS : openUpto l size (k + 1) = if 0 < l[k].used ∧ l[k].used < size ∧ (openUpto l size k < 0 ∨ (l.getD (openUpto l size k).toNat .zero).age < l[k].age) then (k : Int) else openUpto l size k := by rw [← hd]; rfl
      obtain ⟨d0, d1, d2, d3⟩ := (H.out k _ (List.getElem?_eq_getElem hlt)).ext hx
      have hr := openUpto_range l size k
      have hP : ∀ p : Nat, p < k → ∃ bp, l.getD p .zero = bp ∧ BandCell wr q (p * 4) bp := by
        intro p hp
        refine ⟨l[p]'(by omega), by rw [List.getD_eq_getElem?_getD, List.getElem?_eq_getElem (by omega)]; rfl, (H.out p _ (List.getElem?_eq_getElem (by omega))).ext hx⟩
      have HP := Lib.hid hP
      clear hx hbl hbo hd hP
      generalize openUpto l size k = n at *
      generalize l[k] = b at *
      by_cases h1 : 0 < b.used
      · by_cases h2 : b.used < size
        · rcases (show n = -1 ∨ ∃ p : Nat, n = (p : Int) ∧ p < k by rcases (show n = -1 ∨ 0 ≤ n by omega) with h | h; exact .inl h; exact .inr ⟨n.toNat, by omega, by omega⟩) with hn | ⟨p, hn, hpk⟩
          · subst hn
            rw [if_pos ⟨h1, h2, .inl (by decide)⟩] at HS
            have HS := Lib.hid HS
            clear hr
            go_wp2_with go_in
            go_quiet (fail)
            go_wp2
            go_roundw
            case rel => exact ⟨k + 1, by omega, by go_num, by exact ((HX.out.alloc _).drewN _).set_new (by omega) 0 _, by exact ((HLr.out.alloc _).drewN _).set_ne _ _ (by show o ≠ bx; omega), by rw [HS.out]; exact ((HOr.out.alloc _).drewN _).set 0 _⟩
            case measure => simp [intOf]; omega
          · subst hn
            obtain ⟨bp, hbp, e0, e1, e2, e3⟩ := HP.out p hpk
            rw [Int.toNat_natCast, hbp] at HS
            clear hr hbp
            have ql := cell_lt d0
            have hp0 : decide ((p : Int) < 0) = false := by simp
            have hpl : p < l.length := by omega
            have hpl2 : (p : Int) < (l.length : Int) := by omega
            by_cases h3 : bp.age < b.age
            · rw [if_pos ⟨h1, h2, .inr h3⟩] at HS
              have HS := Lib.hid HS
              go_wp2_with go_in
              go_quiet (fail)
              go_wp2
              go_roundw
              case rel => exact ⟨k + 1, by omega, by go_num, by exact ((HX.out.alloc _).drewN _).set_new (by omega) 0 _, by exact ((HLr.out.alloc _).drewN _).set_ne _ _ (by show o ≠ bx; omega), by rw [HS.out]; exact ((HOr.out.alloc _).drewN _).set 0 _⟩
              case measure => simp [intOf]; omega
            · rw [if_neg (by omega)] at HS
              have HS := Lib.hid HS
              go_wp2_with go_in
              go_quiet (fail)
              go_wp2
              go_roundw
              case rel => exact ⟨k + 1, by omega, by go_num, by exact ((HX.out.alloc _).drewN _), by exact ((HLr.out.alloc _).drewN _), by rw [HS.out]; exact ((HOr.out.alloc _).drewN _)⟩
              case measure => simp [intOf]; omega
        · rw [if_neg (by omega)] at HS
          have HS := Lib.hid HS
          clear hr
          go_wp2_with fail
          go_roundw
          case rel => exact ⟨k + 1, by omega, by go_num, by exact (HX.out.alloc _), by exact (HLr.out.alloc _), by rw [HS.out]; exact (HOr.out.alloc _)⟩
          case measure => simp [intOf]; omega
      · rw [if_neg (by omega)] at HS
        have HS := Lib.hid HS
        clear hr
        go_wp2_with fail
        go_roundw
        case rel => exact ⟨k + 1, by omega, by go_num, by exact (HX.out.alloc _), by exact (HLr.out.alloc _), by rw [HS.out]; exact (HOr.out.alloc _)⟩
        case measure => simp [intOf]; omega
    · have hkl : k = l.length := by omega
      subst hkl
      clear hx hbl hbo
      go_wp2
      go_ret
      exact ⟨rfl, HX.out⟩
end Go.Proofs.YthhcooljjhdjbaaGreat
