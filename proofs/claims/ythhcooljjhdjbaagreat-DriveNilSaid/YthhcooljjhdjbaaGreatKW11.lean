/- Contracts: an operation of the disk. -/
import Derived.Test.YthhcooljjhdjbaaGreatKW10
set_option linter.unusedVariables false
set_option linter.unusedSimpArgs false
namespace Go.Proofs.YthhcooljjhdjbaaGreat
open Go.RowKit

/-- What stands ahead of the work: the disk as the work finds it, and the fault, or an error. -/
def Dsk.pre (d : Dsk) (key : Int) : Dsk × (Int ⊕ Flt) :=
  if d.state ≠ 0 then (d, .inl d.state) else
  let d1 := { d with pow := d.pow.call }
  if d1.pow.off then (d1, .inl 13) else
  if key ≠ d1.key then (d1, .inl 17) else
  let f := faultAt d1.faults d1.ops
  let d2 := { d1 with ops := wrap64 (d1.ops + 1) }
  if f.kind = 7 then ({ d2 with dead := true }, .inl 14) else
  if f.kind = 6 then (d2, .inl 16) else (d2, .inr f)
theorem Dsk.perform_eq {α : Type} (d : Dsk) (key : Int) (x : α) (work : Dsk → Flt → Dsk × α × Int) :
    d.perform key x work = match d.pre key with | (d', .inl e) => (d', x, e) | (d', .inr f) => work d' f := by
  unfold Dsk.perform Dsk.pre
  split
  · rfl
  · simp only []
    split
    · rfl
    · split
      · rfl
      · split
        · rfl
        · split <;> rfl
def PerfGoal (B : Nat) (w : World) (ad ap : Nat) (F : FuncId) (caps : Array Value) (R : Value → World → Prop) : Dsk × (Int ⊕ Flt) → Prop
  | (d', .inl e) => ∀ w', DskAt B w' ad ap d' → Keep B DT w w' → R (.int .i64 e) w'
  | (d', .inr f) => ∀ w', DskAt B w' ad ap d' → Keep B DT w w' → Calls Tryz.prog F (#[fltV f] ++ caps) w' fun e w'' => ∃ v, e = .returned v ∧ R v w''
def PerfPost (R : Value → World → Prop) (e : Ending) (w : World) : Prop := ∃ v, e = .returned v ∧ R v w

set_option maxHeartbeats 4000000 in
theorem dperform (F : FuncId) (hF : F = 88 ∨ F = 97 ∨ F = 121 ∨ F = 148) {B : Nat} {w : World} {ad ap : Nat} {d : Dsk} (h : DskAt B w ad ap d) (hok : d.faults.length ≤ 4096) (key : Int) (caps : Array Value) (R : Value → World → Prop)
    (hR : PerfGoal B w ad ap F caps R (d.pre key)) : Calls Tryz.prog 87 #[.pointer (some ⟨ad, 0, none⟩), .int .u64 key, .func (.func F) #[] caps] w (PerfPost R) := by
  have HF := Lib.hid hF
  clear hF
  have S := dstate h
  obtain ⟨ac, fv, h⟩ := h
  have H := Lib.hid h
  clear h
  by_cases hs : d.state = 0
  · rw [hs] at S
    go_enter Tryz.func87, Tryz.ntmps87
    go_wp2_with fail
    refine S.mono ?_
    rintro e w1 ⟨rfl, hx⟩
    have H1 := Lib.hid (H.out.keep hx (by simp))
    have c12 : w1.cell? ⟨ad, 12, none⟩ = some (.pointer (some ⟨ap, 0, none⟩)) := H1.out.blk.cell 12 rfl
    have PC := pcall H1.out.pow H.out.gep
    have HX := Lib.hid hx
    clear S hx
    go_wp2_with fail
    refine PC.mono ?_
    rintro e w2 ⟨rfl, hp2, hk2⟩
    have H2 : Hid (DskIn B w2 ad ap { d with pow := d.pow.call } ac fv) :=
      Lib.hid ⟨H1.out.blk.keep hk2 (by simp), H.out.ge, hp2, H.out.gep, H1.out.cache.keep hk2 (by simp), H1.out.faults.keep hk2 (by simp)⟩
    have HK2 : Hid (Keep B DT w w2) := Lib.hid ((HX.out.keep _ _).trans (hk2.mono (Nat.le_refl _) (by simp)))
    clear hp2 hk2 PC c12
    by_cases ho : d.pow.call.off = true
    · have hp : d.pre key = ({ d with pow := d.pow.call }, .inl 13) := by unfold Dsk.pre; rw [if_neg (by simp [hs])]; simp only [ho, if_true]
      rw [hp] at hR
      have HR := Lib.hid hR
      clear hR hp
      go_wp2
      go_ret
      exact ⟨_, rfl, HR.out w2 ⟨ac, fv, H2.out⟩ HK2.out⟩
    · have ho2 : d.pow.call.off = false := by simpa using ho
      have c14 : w2.cell? ⟨ad, 14, none⟩ = some (.int .u64 d.key) := H2.out.blk.cell 14 rfl
      by_cases hkey : key = d.key
      · have hke : (key != d.key) = false := by simp [hkey]
        have c4 : w2.cell? ⟨ad, 4, none⟩ = some (.int .i64 d.ops) := H2.out.blk.cell 4 rfl
        have c11 : w2.cell? ⟨ad, 11, none⟩ = some fv := H2.out.blk.cell 11 rfl
        have hlt := H2.out.blk.lt
        have FA := fun w' (hx : Ext w2 w') => fat (H2.out.faults.keep hx (by simp)) d.ops hok
        have hpre : d.pre key = (if (faultAt d.faults d.ops).kind = 7 then ({ d with pow := d.pow.call, ops := wrap64 (d.ops + 1), dead := true }, .inl 14) else
            if (faultAt d.faults d.ops).kind = 6 then ({ d with pow := d.pow.call, ops := wrap64 (d.ops + 1) }, .inl 16) else ({ d with pow := d.pow.call, ops := wrap64 (d.ops + 1) }, .inr (faultAt d.faults d.ops))) := by
          unfold Dsk.pre; rw [if_neg (by simp [hs])]; simp only [ho2]; rw [if_neg (by simp), if_neg (by simp [hkey])]
        rw [hpre] at hR
        generalize faultAt d.faults d.ops = f at hR FA
        have HR := Lib.hid hR
        have HKE := Lib.hid hkey
        clear hR hkey hpre hs ho
        go_upto_region 8 with fail
        go_cut [8] (fun s8 wx => ∃ b, s8 = .pointer (some ⟨b, 0, none⟩) ∧ Blk wx b 49 #[.int .i64 f.place, .int .i64 f.kind, .int .i64 f.to] ∧ Ext w2 wx)
        case first =>
          go_region_with (first
            | (go_at_call 119; refine (FA _ ((Ext.refl w2).drew.alloc _)).mono ?_; rintro e w3 ⟨bb, rfl, hx3⟩; simp only [fltV]; have hx4 := ((Ext.refl w2).drew.alloc _).trans hx3; have hb := (Blk.new w2.drew #[.int .i64 0, .int .i64 0, .int .i64 0] 49).ext hx3; have c0' : w3.cell? ⟨w2.heap.size, 0, none⟩ = some (.int .i64 0) := hb.cell 0 rfl; have c1' : w3.cell? ⟨w2.heap.size, 1, none⟩ = some (.int .i64 0) := hb.cell 1 rfl; have c2' : w3.cell? ⟨w2.heap.size, 2, none⟩ = some (.int .i64 0) := hb.cell 2 rfl; have f0' : w3.frozen? ⟨w2.heap.size, 0, none⟩ = false := hb.free 0; have f1' : w3.frozen? ⟨w2.heap.size, 1, none⟩ = false := hb.free 1; have f2' : w3.frozen? ⟨w2.heap.size, 2, none⟩ = false := hb.free 2)
            | (go_at_call 119; refine (FA _ (Ext.refl w2).drew).mono ?_; rintro e w3 ⟨bb, rfl, hx3⟩; simp only [fltV]; have hx4 := (Ext.refl w2).drew.trans hx3))
          all_goals (go_wp2_with fail; go_meet)
          all_goals first
            | (have _t := c0'; case rel => exact ⟨w2.heap.size, rfl, ((hb.set 0 _).set 1 _).set 2 _, Keep.set_new (Keep.set_new (Keep.set_new hx4 (Nat.le_refl _) _ _) (Nat.le_refl _) _ _) (Nat.le_refl _) _ _⟩)
            | (case rel => exact ⟨w3.heap.size, rfl, Blk.new _ _ _, hx4.alloc _⟩)
        case rest =>
          obtain ⟨b, rfl, hb, hx3⟩ := hcut
          have H3 := Lib.hid (H2.out.keep hx3 (by simp))
          have HK3 : Hid (Keep B DT w wc) := Lib.hid (HK2.out.trans (hx3.keep _ _))
          have d4 : wc.cell? ⟨ad, 4, none⟩ = some (.int .i64 d.ops) := H3.out.blk.cell 4 rfl
          have f4 : wc.frozen? ⟨ad, 4, none⟩ = false := H3.out.blk.free 4
          have k4 : Keep B [109] wc (wc.setCell ⟨ad, 4, none⟩ (.int .i64 (wrap64 (d.ops + 1)))) := (Keep.refl _ _ _).set H3.out.blk H.out.ge (by simp) _ _
          have H4 : Hid (DskIn B (wc.setCell ⟨ad, 4, none⟩ (.int .i64 (wrap64 (d.ops + 1)))) ad ap { d with pow := d.pow.call, ops := wrap64 (d.ops + 1) } ac fv) :=
            Lib.hid ⟨H3.out.blk.set 4 _, H.out.ge, H3.out.pow.keep k4 (by simp), H.out.gep, H3.out.cache.keep k4 (by simp), H3.out.faults.keep k4 (by simp)⟩
          have HK4 : Hid (Keep B DT w (wc.setCell ⟨ad, 4, none⟩ (.int .i64 (wrap64 (d.ops + 1))))) := Lib.hid (HK3.out.trans (k4.mono (Nat.le_refl _) (by simp)))
          have b0 : wc.cell? ⟨b, 0, none⟩ = some (.int .i64 f.place) := hb.cell 0 rfl
          have b1 : wc.cell? ⟨b, 1, none⟩ = some (.int .i64 f.kind) := hb.cell 1 rfl
          have b2 : wc.cell? ⟨b, 2, none⟩ = some (.int .i64 f.to) := hb.cell 2 rfl
          have hne : b ≠ ad := hb.ne H3.out.blk (by decide)
          have c15 : wc.cell? ⟨ad, 15, none⟩ = some (.bool d.dead) := H3.out.blk.cell 15 rfl
          have f15 : wc.frozen? ⟨ad, 15, none⟩ = false := H3.out.blk.free 15
          clear k4 hb hx3 FA c4 c11
          by_cases h7 : f.kind = 7
          · have h7b : (f.kind == 7) = true := by simpa using h7
            rw [if_pos h7] at HR
            clear h7
            go_wp2
            go_ret
            have k5 : Keep B [109] _ ((wc.setCell ⟨ad, 4, none⟩ (.int .i64 (wrap64 (d.ops + 1)))).setCell ⟨ad, 15, none⟩ (.bool true)) := (Keep.refl _ _ _).set H4.out.blk H.out.ge (by simp) _ _
            exact ⟨_, rfl, HR.out _ ⟨ac, fv, H4.out.blk.set 15 _, H.out.ge, H4.out.pow.keep k5 (by simp), H.out.gep, H4.out.cache.keep k5 (by simp), H4.out.faults.keep k5 (by simp)⟩ (HK4.out.trans (k5.mono (Nat.le_refl _) (by simp)))⟩
          · have h7b : (f.kind == 7) = false := by simpa using h7
            rw [if_neg h7] at HR
            clear h7
            by_cases h6 : f.kind = 6
            · have h6b : (f.kind == 6) = true := by simpa using h6
              rw [if_pos h6] at HR
              clear h6
              go_wp2
              go_ret
              exact ⟨_, rfl, HR.out _ ⟨ac, fv, H4.out⟩ HK4.out⟩
            · have h6b : (f.kind == 6) = false := by simpa using h6
              rw [if_neg h6] at HR
              clear h6
              have RR := HR.out _ ⟨ac, fv, H4.out⟩ HK4.out
              simp only [fltV] at RR
              rcases HF.out with rfl | rfl | rfl | rfl
              all_goals
                go_wp2_with fail
                refine RR.mono ?_
                rintro e w5 ⟨v, rfl, hv⟩
                go_wp2
                go_ret
                exact ⟨v, rfl, hv⟩
      · have hke : (key != d.key) = true := by simpa [bne] using hkey
        have hp : d.pre key = ({ d with pow := d.pow.call }, .inl 17) := by unfold Dsk.pre; rw [if_neg (by simp [hs])]; simp only [ho2]; rw [if_neg (by simp), if_pos hkey]
        rw [hp] at hR
        have HR := Lib.hid hR
        clear hR hp hkey ho hs
        go_wp2
        go_ret
        exact ⟨_, rfl, HR.out w2 ⟨ac, fv, H2.out⟩ HK2.out⟩
  · have hp : d.pre key = (d, .inl d.state) := by unfold Dsk.pre; rw [if_pos hs]
    rw [hp] at hR
    have hs2 : (d.state != 0) = true := by simpa [bne] using hs
    have HR := Lib.hid hR
    clear hR hp hs
    go_enter Tryz.func87, Tryz.ntmps87
    go_wp2_with fail
    refine S.mono ?_
    rintro e w1 ⟨rfl, hx⟩
    go_wp2
    go_ret
    exact ⟨_, rfl, HR.out w1 ⟨ac, fv, H.out.keep hx (by simp)⟩ (hx.keep _ _)⟩
end Go.Proofs.YthhcooljjhdjbaaGreat
