/- Contracts: a list of faults is valid; a disk is made. -/
import Derived.Test.YthhcooljjhdjbaaGreatKW15
set_option linter.unusedVariables false
set_option linter.unusedSimpArgs false
namespace Go.Proofs.YthhcooljjhdjbaaGreat
open Go.RowKit

/-- A slice that reads as a list of faults, wherever it lies. -/
def FltRead (w : World) (v : Value) (l : List Flt) : Prop :=
  (v = .slice none 0 0 ∧ l = []) ∨ ∃ b off cap, v = .slice (some ⟨b, off, none⟩) l.length cap ∧ ∀ (i : Nat) (f : Flt), l[i]? = some f →
    w.cell? ⟨b, off + i * 3, none⟩ = some (.int .i64 f.place) ∧ w.cell? ⟨b, off + i * 3 + 1, none⟩ = some (.int .i64 f.kind) ∧ w.cell? ⟨b, off + i * 3 + 2, none⟩ = some (.int .i64 f.to)
theorem FltRead.ext {w w' : World} {v : Value} {l : List Flt} (h : FltRead w v l) (hx : Ext w w') : FltRead w' v l := by
  rcases h with h | ⟨b, off, cap, hv, h⟩
  · exact .inl h
  · exact .inr ⟨b, off, cap, hv, fun i f hf => let ⟨h1, h2, h3⟩ := h i f hf; ⟨Keep.cell hx h1, Keep.cell hx h2, Keep.cell hx h3⟩⟩
def FltOk (l : List Flt) : Prop := ∀ (i : Nat) (f : Flt), l[i]? = some f →
  0 ≤ f.place ∧ (∀ g, 0 < i → l[i - 1]? = some g → g.place < f.place) ∧ 1 ≤ f.kind ∧ f.kind ≤ 7 ∧ 0 ≤ f.to ∧ (f.to ≠ 0 → f.kind = 3 ∨ f.kind = 5)
def lastPlace (l : List Flt) (k : Nat) : Int := if k = 0 then -1 else (l.getD (k - 1) ⟨0, 0, 0⟩).place

set_option maxHeartbeats 2000000 in
theorem fvalid {w : World} {v : Value} {l : List Flt} (h : FltRead w v l) (hok : FltOk l) (hl : l.length ≤ 4096) :
    Calls Tryz.prog 84 #[v] w fun e w' => e = .returned (.bool true) ∧ Ext w w' := by
  rcases h with ⟨rfl, rfl⟩ | ⟨b, off, cap, rfl, h⟩
  · go_enter Tryz.func84, Tryz.ntmps84
    go_wp2
    go_loop [8] (fun i => i = .int .i64 0) (fun _ => 0)
    case atStart => rfl
    case round =>
      subst hrel
      go_wp2
      go_ret
      exact ⟨rfl, Ext.refl _⟩
  · have H := Lib.hid h
    have HO := Lib.hid hok
    clear h hok
    go_enter Tryz.func84, Tryz.ntmps84
    go_wp2
    go_loopw [3, 8] (fun last i wr => ∃ k : Nat, k ≤ l.length ∧ i = .int .i64 k ∧ last = .int .i64 (lastPlace l k) ∧ Ext w wr) (fun _ i _ => l.length - (intOf i).toNat)
    case atStart => exact ⟨0, Nat.zero_le _, rfl, rfl, Ext.refl _⟩
    case round =>
      obtain ⟨k, hk, rfl, rfl, hx⟩ := hrel
      by_cases hlt : k < l.length
      · have hlk : l[k]? = some l[k] := List.getElem?_eq_getElem hlt
        obtain ⟨d0, d1, d2⟩ := H.out k _ hlk
        have d0 := Keep.cell hx d0
        have d1 := Keep.cell hx d1
        have d2 := Keep.cell hx d2
        obtain ⟨o1, o2, o3, o4, o5, o6⟩ := HO.out k _ hlk
        have hnext : lastPlace l (k + 1) = l[k].place := by unfold lastPlace; rw [if_neg (by omega), Nat.add_sub_cancel, List.getD_eq_getElem?_getD, hlk, Option.getD_some]
        have hlast : ¬ l[k].place ≤ lastPlace l k := by
          unfold lastPlace
          split
          · omega
          · have := o2 l[k - 1] (by omega) (List.getElem?_eq_getElem (by omega))
            rw [List.getD_eq_getElem?_getD, List.getElem?_eq_getElem (by omega), Option.getD_some]
            omega
        have HN := Lib.hid hnext
        have HX := Lib.hid hx
        clear hnext hx hlk o2
        generalize lastPlace l k = last at hlast
        generalize l[k] = f at *
        have hk2 : (k : Int) < 4096 := by omega
        have hb1 : decide (f.place ≤ last) = false := by simpa using hlast
        have hb2 : decide (f.kind < 1) = false := by simpa using o3
        have hb3 : decide (7 < f.kind) = false := by simpa using o4
        have hb4 : decide (f.to < 0) = false := by simpa using o5
        clear hlast o1 o3 o4 o5
        by_cases ht : f.to = 0
        · have htb : (f.to != 0) = false := by simp [ht]
          clear o6 ht
          go_wp2
          go_roundw
          case rel => exact ⟨k + 1, by omega, by go_num, by rw [HN.out], HX.out.alloc _⟩
          case measure => simp [intOf]; omega
        · have htb : (f.to != 0) = true := by simpa [bne] using ht
          rcases o6 ht with h3 | h3
          · have h3b : (f.kind == 3) = true := by simpa using h3
            clear ht o6 h3
            go_wp2
            go_roundw
            case rel => exact ⟨k + 1, by omega, by go_num, by rw [HN.out], HX.out.alloc _⟩
            case measure => simp [intOf]; omega
          · have h3b : (f.kind == 3) = false := by simp [h3]
            have h5b : (f.kind == 5) = true := by simpa using h3
            clear ht o6 h3
            go_wp2
            go_roundw
            case rel => exact ⟨k + 1, by omega, by go_num, by rw [HN.out], HX.out.alloc _⟩
            case measure => simp [intOf]; omega
      · have HX := Lib.hid hx
        clear hx
        generalize lastPlace l k = last
        go_wp2
        go_ret
        exact ⟨rfl, HX.out⟩

theorem flat_at (l : List Flt) (j : Nat) (u : Value) (h : (l.flatMap fltCells)[j]? = some u) : ∃ (i : Nat) (f : Flt), l[i]? = some f ∧ ((j = i * 3 ∧ u = .int .i64 f.place) ∨ (j = i * 3 + 1 ∧ u = .int .i64 f.kind) ∨ (j = i * 3 + 2 ∧ u = .int .i64 f.to)) := by
  have hj := (List.getElem?_eq_some_iff.1 h).1
  rw [length_fltCells] at hj
  have hi : j / 3 < l.length := by omega
  obtain ⟨h0, h1, h2⟩ := flt_cells l (j / 3) l[j / 3] (List.getElem?_eq_getElem hi)
  refine ⟨j / 3, l[j / 3], List.getElem?_eq_getElem hi, ?_⟩
  have hm : j % 3 = 0 ∨ j % 3 = 1 ∨ j % 3 = 2 := by omega
  rcases hm with hm | hm | hm
  · left
    have e : j / 3 * 3 = j := by omega
    rw [e, h] at h0
    exact ⟨e.symm, Option.some.inj h0⟩
  · right; left
    have e : j / 3 * 3 + 1 = j := by omega
    rw [e, h] at h1
    exact ⟨e.symm, Option.some.inj h1⟩
  · right; right
    have e : j / 3 * 3 + 2 = j := by omega
    rw [e, h] at h2
    exact ⟨e.symm, Option.some.inj h2⟩
theorem addr_add (b off j : Nat) : (⟨b, off, none⟩ : Addr).add j = ⟨b, off + j, none⟩ := by
  unfold Addr.add; split
  · rename_i h; subst h; rfl
  · rfl
theorem cloneFaults {w : World} {v : Value} {l : List Flt} (h : FltRead w v l) (hl : l.length ≤ 4096) :
    Calls Tryz.prog 86 #[v] w fun e w' => ∃ a c, e = .returned (.slice a l.length c) ∧ FaultsAt w' (.slice a l.length c) l ∧ Ext w w' := by
  rcases h with ⟨rfl, rfl⟩ | ⟨b, off, cap, rfl, h⟩
  · exact (clone49nil w).mono fun e w' ⟨he, hw⟩ => ⟨none, 0, he, World.ownsRow_nil _ _ _ _, by rw [hw]; exact Ext.refl _⟩
  · refine (clone49 ⟨b, off, none⟩ l.length cap (l.flatMap fltCells) w (length_fltCells l) (fun j u hj => ?_) (fltCells_one l) hl).mono ?_
    · rw [addr_add]
      obtain ⟨i, f, hf, hc⟩ := flat_at l j u hj
      obtain ⟨h0, h1, h2⟩ := h i f hf
      rcases hc with ⟨rfl, rfl⟩ | ⟨rfl, rfl⟩ | ⟨rfl, rfl⟩
      · exact h0
      · exact h1
      · exact h2
    · rintro e w' ⟨g, c', rfl, hown, hx⟩
      exact ⟨_, _, rfl, ownsRow_base hown (Nat.zero_le _), hx⟩

end Go.Proofs.YthhcooljjhdjbaaGreat
