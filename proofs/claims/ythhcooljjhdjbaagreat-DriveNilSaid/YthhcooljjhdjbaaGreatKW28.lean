/- Contract: an operation is repeated. -/
import Derived.Test.YthhcooljjhdjbaaGreatKM4
import Derived.Test.YthhcooljjhdjbaaGreatKW4
set_option linter.unusedVariables false
set_option linter.unusedSimpArgs false
namespace Go.Proofs.YthhcooljjhdjbaaGreat
open Go.RowKit

set_option maxHeartbeats 4000000 in
theorem dretry (F : FuncId) (hF : F = 48 ∨ F = 61 ∨ F = 63 ∨ F = 77 ∨ F = 80 ∨ F = 92 ∨ F = 111) {σ : Type} (step : σ → σ × Int) (I : σ → World → Prop) (J : σ × Int → World → Prop) (caps : Array Value)
    (H : ∀ s w, I s w → Calls Tryz.prog F caps w fun e w' => e = .returned (.int .i64 (step s).2) ∧ J (step s) w') (HJ : ∀ r w, J r w → r.2 = 16 → I r.1 w) (s : σ) (w : World) (h : I s w) :
    Calls Tryz.prog 47 #[.func (.func F) #[] caps] w fun e w' => e = .returned (.int .i64 (retryRun step s).2) ∧ J (retryRun step s) w' := by
  have H1 := Lib.hid (H s w h)
  have HS := Lib.hid H
  have HT := Lib.hid HJ
  have HR := Lib.hid (show retryRun step s = retryCont step 8 (step s) from rfl)
  clear H h HJ
  generalize retryRun step s = res at *
  generalize step s = r at *
  rcases hF with rfl | rfl | rfl | rfl | rfl | rfl | rfl
  all_goals (
    go_enter Tryz.func47, Tryz.ntmps47
    go_wp2_with fail
    refine H1.out.mono ?_
    rintro e w1 ⟨rfl, hi⟩
    have HI := Lib.hid hi
    clear hi H1
    go_wp2_with fail
    go_loopw [3, 4] (fun x i wr => ∃ (m : Nat) (q : σ × Int), m ≤ 8 ∧ i = .int .i64 ((8 - m : Nat) : Int) ∧ x = .int .i64 q.2 ∧ J q wr ∧ res = retryCont step m q) (fun _ i _ => 8 - (intOf i).toNat)
    case atStart => exact ⟨8, r, by omega, rfl, rfl, HI.out, HR.out⟩
    case round =>
      obtain ⟨m, q, hm, rfl, rfl, hi, hr⟩ := hrel
      clear HI HR
      by_cases hb : q.2 = 16
      · cases m with
        | zero =>
          have hr : res = q := hr
          subst hr
          have HI := Lib.hid hi
          clear hi
          go_wp2_with fail
          go_ret
          exact ⟨rfl, HI.out⟩
        | succ m =>
          have hr : res = retryCont step m (step q.1) := by rw [hr]; show (if q.2 = 16 then _ else _) = _; rw [if_pos hb]
          have hqb : (q.2 == 16) = true := by simpa using hb
          have HC := Lib.hid (HS.out q.1 wr (HT.out q wr hi hb))
          have HR := Lib.hid hr
          have hlt : (((8 - (m + 1) : Nat) : Int) < 8) := by omega
          have hj : 8 - (m + 1) + 1 = 8 - m := by omega
          clear hi hr hb
          generalize hn : 8 - (m + 1) = n at *
          clear hn
          go_wp2_with fail
          refine HC.out.mono ?_
          rintro e w2 ⟨rfl, hi2⟩
          have HI2 := Lib.hid hi2
          clear hi2 HC
          go_wp2_with fail
          go_roundw
          case rel => exact ⟨m, _, by omega, by rw [← hj]; go_num, rfl, HI2.out, HR.out⟩
          case measure => simp [intOf]; omega
      · cases m with
        | zero =>
          have hr : res = q := hr
          subst hr
          have HI := Lib.hid hi
          clear hi hb
          go_wp2_with fail
          go_ret
          exact ⟨rfl, HI.out⟩
        | succ m =>
          replace hr : res = q := by rw [hr]; show (if q.2 = 16 then _ else _) = _; rw [if_neg hb]
          subst hr
          have hqb : (res.2 == 16) = false := by simpa using hb
          have HI := Lib.hid hi
          have hlt : (((8 - (m + 1) : Nat) : Int) < 8) := by omega
          clear hi hb
          generalize 8 - (m + 1) = n at *
          clear hm
          go_wp2_with fail
          go_ret
          exact ⟨rfl, HI.out⟩)
end Go.Proofs.YthhcooljjhdjbaaGreat
