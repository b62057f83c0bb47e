/- Contract: the least worn free band. -/
import Derived.Test.YthhcooljjhdjbaaGreatKW24
set_option linter.unusedVariables false
set_option linter.unusedSimpArgs false
namespace Go.Proofs.YthhcooljjhdjbaaGreat
open Go.RowKit

def leastV (l : List Band) : Array Value := if least l < 0 then #[.int .i64 0, .int .i64 9] else #[.int .i64 (least l), .int .i64 0]
set_option maxHeartbeats 2000000 in
theorem wleast {w : World} {v : Value} {l : List Band} (h : BandsIn w v l) (hl : l.length ≤ 64) : Calls Tryz.prog 146 #[v] w fun e w' => e = .returned (.tuple (leastV l)) ∧ Ext w w' := by
  obtain ⟨q, c, rfl, h⟩ := h
  have H := Lib.hid h
  clear h
  have HV := Lib.hid (show leastV l = if leastUpto l l.length < 0 then #[.int .i64 0, .int .i64 9] else #[.int .i64 (leastUpto l l.length), .int .i64 0] from rfl)
  go_enter Tryz.func146, Tryz.ntmps146
  go_wp2
  go_loopw [4, 9] (fun x i wr => ∃ k : Nat, k ≤ l.length ∧ i = .int .i64 k ∧ x = .int .i64 (leastUpto l k) ∧ Ext w wr) (fun _ i _ => l.length - (intOf i).toNat)
  case atStart => exact ⟨0, Nat.zero_le _, rfl, rfl, Ext.refl _⟩
  case round =>
    obtain ⟨k, hk, rfl, rfl, hx⟩ := hrel
    have HX := Lib.hid hx
    by_cases hlt : k < l.length
    · have hd : l.getD k .zero = l[k] := by rw [List.getD_eq_getElem?_getD, List.getElem?_eq_getElem hlt]; rfl
      have HS : leastUpto l (k + 1) = if l[k].used = 0 ∧ (leastUpto l k < 0 ∨ l[k].wear < (l.getD (leastUpto l k).toNat .zero).wear) then (k : Int) else leastUpto l k := by rw [← hd]; rfl
      obtain ⟨d0, d1, d2, d3⟩ := (H.out k _ (List.getElem?_eq_getElem hlt)).ext hx
      have ql := cell_lt d0
      have hr := leastUpto_range l k
      have hP : ∀ p : Nat, p < k → ∃ bp, l.getD p .zero = bp ∧ BandCell wr q (p * 4) bp := by
        intro p hp
        refine ⟨l[p]'(by omega), by rw [List.getD_eq_getElem?_getD, List.getElem?_eq_getElem (by omega)]; rfl, (H.out p _ (List.getElem?_eq_getElem (by omega))).ext hx⟩
      have HP := Lib.hid hP
      clear hx hd hP
      generalize leastUpto l k = n at *
      generalize l[k] = b at *
      by_cases h1 : b.used = 0
      · have h1b : (b.used == 0) = true := by simpa using h1
        rcases (show n = -1 ∨ ∃ p : Nat, n = (p : Int) ∧ p < k by rcases (show n = -1 ∨ 0 ≤ n by omega) with h | h; exact .inl h; exact .inr ⟨n.toNat, by omega, by omega⟩) with hn | ⟨p, hn, hpk⟩
        · subst hn
          rw [if_pos ⟨h1, .inl (by decide)⟩] at HS
          have HS := Lib.hid HS
          clear hr h1
          go_wp2_with fail
          go_quiet (fail)
          go_wp2
          go_roundw
          case rel => exact ⟨k + 1, by omega, by go_num, by rw [HS.out], by exact ((HX.out.alloc _).drewN _)⟩
          case measure => simp [intOf]; omega
        · subst hn
          obtain ⟨bp, hbp, e0, e1, e2, e3⟩ := HP.out p hpk
          rw [Int.toNat_natCast, hbp] at HS
          clear hr hbp
          have hp0 : decide ((p : Int) < 0) = false := by simp
          have hpl : p < l.length := by omega
          have hpl2 : (p : Int) < (l.length : Int) := by omega
          by_cases h3 : b.wear < bp.wear
          · rw [if_pos ⟨h1, .inr h3⟩] at HS
            have HS := Lib.hid HS
            clear h1
            go_wp2_with fail
            go_quiet (fail)
            go_wp2
            go_roundw
            case rel => exact ⟨k + 1, by omega, by go_num, by rw [HS.out], by exact ((HX.out.alloc _).drewN _)⟩
            case measure => simp [intOf]; omega
          · rw [if_neg (by omega)] at HS
            have HS := Lib.hid HS
            clear h1
            go_wp2_with fail
            go_quiet (fail)
            go_wp2
            go_roundw
            case rel => exact ⟨k + 1, by omega, by go_num, by rw [HS.out], by exact ((HX.out.alloc _).drewN _)⟩
            case measure => simp [intOf]; omega
      · rw [if_neg (by omega)] at HS
        have HS := Lib.hid HS
        have h1b : (b.used == 0) = false := by simpa using h1
        clear hr h1
        go_wp2_with fail
        go_quiet (fail)
        go_wp2
        go_roundw
        case rel => exact ⟨k + 1, by omega, by go_num, by rw [HS.out], by exact ((HX.out.alloc _).drewN _)⟩
        case measure => simp [intOf]; omega
    · have hkl : k = l.length := by omega
      subst hkl
      clear hx
      generalize leastUpto l l.length = n at *
      by_cases hn : n < 0
      · rw [if_pos hn] at HV
        go_wp2
        go_ret2
        exact ⟨by rw [HV.out]; rfl, HX.out⟩
      · rw [if_neg hn] at HV
        go_wp2
        go_ret2
        exact ⟨by rw [HV.out]; rfl, HX.out⟩
end Go.Proofs.YthhcooljjhdjbaaGreat
