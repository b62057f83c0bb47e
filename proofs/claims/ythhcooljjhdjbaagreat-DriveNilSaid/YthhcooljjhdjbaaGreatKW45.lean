/- Contracts: an entry is put: the cases in which it is rejected. -/
import Derived.Test.YthhcooljjhdjbaaGreatKW43
set_option linter.unusedVariables false
set_option linter.unusedSimpArgs false
namespace Go.Proofs.YthhcooljjhdjbaaGreat
open Go.RowKit

def putHead (v : Drv) (x : Ent) : Int :=
  if v.failed ≠ 0 then v.failed else
  if ¬ (0 ≤ x.block ∧ x.block < v.entries.length) then 2 else
  if x.version = 0 ∨ x.version < (v.at x.block.toNat).version then 1 else 0
def entAgg (k b v : Int) (d0 d1 d2 d3 d4 d5 d6 d7 : UInt8) : Value := .agg #[.int .i64 k, .int .i64 b, .int .u64 v, .int .u8 (d0.toNat : Int), .int .u8 (d1.toNat : Int), .int .u8 (d2.toNat : Int), .int .u8 (d3.toNat : Int), .int .u8 (d4.toNat : Int), .int .u8 (d5.toNat : Int), .int .u8 (d6.toNat : Int), .int .u8 (d7.toNat : Int)]
set_option maxRecDepth 8000 in
set_option maxHeartbeats 2000000 in
theorem vput_nil (w : World) (k b v : Int) (d0 d1 d2 d3 d4 d5 d6 d7 : UInt8) : Calls Tryz.prog 46 #[.pointer none, entAgg k b v d0 d1 d2 d3 d4 d5 d6 d7] w fun e w' => e = .returned (.int .i64 8) ∧ Ext w w' := by
  have S := fun w => vstate_nil w
  unfold entAgg
  go_enter Tryz.func46, Tryz.ntmps46
  go_wp2_with fail
  refine (S _).mono ?_
  rintro e w1 ⟨rfl, rfl⟩
  go_wp2_with fail
  go_ret
  exact ⟨rfl, (Ext.refl _).alloc _⟩
set_option maxRecDepth 8000 in
set_option maxHeartbeats 2000000 in
theorem vputErr {B : Nat} {w : World} {vd ad : Nat} {v : Drv} (h : DrvAt B w vd ad v) (k b x : Int) (d0 d1 d2 d3 d4 d5 d6 d7 : UInt8) (he : putHead v ⟨k, b, x, [d0, d1, d2, d3, d4, d5, d6, d7]⟩ ≠ 0) :
    Calls Tryz.prog 46 #[.pointer (some ⟨vd, 0, none⟩), entAgg k b x d0 d1 d2 d3 d4 d5 d6 d7] w fun e w' => e = .returned (.int .i64 (putHead v ⟨k, b, x, [d0, d1, d2, d3, d4, d5, d6, d7]⟩)) ∧ Ext w w' := by
  obtain ⟨W0, hW0⟩ : ∃ W0, W0 = w.alloc (.cells #[.int .i64 k, .int .i64 b, .int .u64 x, .int .u8 (d0.toNat : Int), .int .u8 (d1.toNat : Int), .int .u8 (d2.toNat : Int), .int .u8 (d3.toNat : Int), .int .u8 (d4.toNat : Int), .int .u8 (d5.toNat : Int), .int .u8 (d6.toNat : Int), .int .u8 (d7.toNat : Int)] 89) := ⟨_, rfl⟩
  have hx0 : Ext w W0 := by rw [hW0]; exact (Ext.refl _).alloc _
  have h0 := h.ext hx0
  have S := vstate h0
  have H := vhas h0 b
  have hb2 : Blk W0 w.heap.size 89 (entCells ⟨k, b, x, [d0, d1, d2, d3, d4, d5, d6, d7]⟩) := by rw [hW0]; exact Blk.new _ _ _
  have q1 : W0.cell? ⟨w.heap.size, 1, none⟩ = some (.int .i64 b) := hb2.cell 1 rfl
  have q2 : W0.cell? ⟨w.heap.size, 2, none⟩ = some (.int .u64 x) := hb2.cell 2 rfl
  have HW0 := Lib.hid hW0
  rw [hW0] at S H
  obtain ⟨eb, ce, bw, hdr⟩ := h
  have HD0 := Lib.hid hdr
  have HX0 := Lib.hid hx0
  replace S := Lib.hid S
  replace H := Lib.hid H
  unfold entAgg putHead at *
  dsimp only at he ⊢
  clear h0 hb2 hdr
  by_cases hf : v.failed = 0
  · have hfb : (v.failed != 0) = false := by simp [hf]
    rw [if_neg (fun h => h hf)] at he ⊢
    by_cases hb : 0 ≤ b ∧ b < v.entries.length
    · rw [if_neg (fun h => h hb)] at he ⊢
      by_cases hx : x = 0 ∨ x < (v.at b.toNat).version
      · rw [if_pos hx]
        obtain ⟨n, rfl⟩ : ∃ n : Nat, b = (n : Int) := ⟨b.toNat, by omega⟩
        have hbb : decide (0 ≤ (n : Int) ∧ (n : Int) < v.entries.length) = true := by simpa using hb
        replace H := H.out
        rw [hbb] at H
        replace H := Lib.hid H
        rw [Int.toNat_natCast] at hx
        have hnl : (n : Int) < (v.entries.length : Int) := hb.2
        have hdr := HD0.out.keep HX0.out (by simp) (by simp) (by simp)
        obtain ⟨_, e1, _⟩ := hdr.entry n (by omega)
        have c2 : W0.cell? ⟨vd, 2, none⟩ = some (.slice (some ⟨eb, 0, none⟩) v.entries.length ce) := hdr.blk.cell 2 rfl
        have l1 := cell_lt q1
        have l2 := cell_lt c2
        have l3 := cell_lt e1
        generalize v.at n = nn at *
        clear he hb hbb hf HD0 hdr hx0 hW0
        by_cases hx0 : x = 0
        · have hxb : (x == 0) = true := by simp [hx0]
          clear hx hx0
          go_enter Tryz.func46, Tryz.ntmps46
          go_wp2_with fail
          refine S.out.mono ?_
          rintro e w1 ⟨rfl, rfl⟩
          go_wp2_with fail
          refine H.out.mono ?_
          rintro e w1 ⟨rfl, rfl⟩
          go_wp2_with fail
          have e0 := HW0.out
          rw [← e0]
          clear e0
          go_quiet (fail)
          go_wp2
          go_ret
          exact ⟨rfl, HX0.out.drewN _⟩
        · have hxb : (x == 0) = false := by simp [hx0]
          have hxl : decide (x < nn.version) = true := by simpa using hx.resolve_left hx0
          clear hx hx0
          go_enter Tryz.func46, Tryz.ntmps46
          go_wp2_with fail
          refine S.out.mono ?_
          rintro e w1 ⟨rfl, rfl⟩
          go_wp2_with fail
          refine H.out.mono ?_
          rintro e w1 ⟨rfl, rfl⟩
          go_wp2_with fail
          have e0 := HW0.out
          rw [← e0]
          clear e0
          go_quiet (fail)
          go_wp2
          go_ret
          exact ⟨rfl, HX0.out.drewN _⟩
      · rw [if_neg hx] at he; exact absurd rfl he
    · have hbb : decide (0 ≤ b ∧ b < v.entries.length) = false := by simpa using hb
      rw [if_pos hb]
      rw [hbb] at H
      clear he hb hbb
      go_enter Tryz.func46, Tryz.ntmps46
      go_wp2_with fail
      refine S.out.mono ?_
      rintro e w1 ⟨rfl, rfl⟩
      go_wp2_with fail
      refine H.out.mono ?_
      rintro e w1 ⟨rfl, rfl⟩
      go_wp2_with fail
      go_ret
      exact ⟨rfl, (Ext.refl _).alloc _⟩
  · have hfb : (v.failed != 0) = true := by simpa [bne] using hf
    rw [if_pos hf]
    clear he hf
    go_enter Tryz.func46, Tryz.ntmps46
    go_wp2_with fail
    refine S.out.mono ?_
    rintro e w1 ⟨rfl, rfl⟩
    go_wp2_with fail
    go_ret
    exact ⟨rfl, (Ext.refl _).alloc _⟩
end Go.Proofs.YthhcooljjhdjbaaGreat
