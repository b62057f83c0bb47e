/- Contracts: geometry. -/
import Derived.Test.YthhcooljjhdjbaaGreatRows
import Derived.Deep.QuietTactic
import Derived.BigQuiet
import Derived.Test.YthhcooljjhdjbaaGreatKB
import Derived.Test.YthhcooljjhdjbaaGreatKE1
import Derived.Test.YthhcooljjhdjbaaGreatKM4
set_option linter.unusedVariables false
set_option linter.unusedSimpArgs false
namespace Go.Proofs.YthhcooljjhdjbaaGreat
open Go.RowKit

section
variable {P : Program} {ops : Array Oper} {a : Act} {o : Oper} {w : World}
theorem wp_region_ext {id : Nat} {Q : Exit → Act → World → Prop} {l : List Oper} (hm : P.follows .mixedOrders = true) (hB : Region.lexB .any l.toArray = true)
    (h : wpQuiet P l.toArray (Ext w) (fun a' => ∀ w', Ext w w' → Q .normal a' w') l a) : (Code.region id l.toArray true).wp P Q a w :=
  wp_region_quiet (C := Ext w) hm hB (Ext.refl w).drew (by simpa using h)
theorem qx_val {K : Act → Prop} {v : Value} (h : ∀ w', Ext w w' → (execOp a.eval o).run P w' = .ok (.value v) w') (hk : K (a.put o.dst v)) : o.quiet P a (Ext w) K :=
  ⟨v, fun w' hw' => by unfold Oper.quietAt; rw [h w' hw']; exact ⟨rfl, rfl⟩, hk⟩
theorem qx_call {K : Act → Prop} {v : Value} {f : FuncId} {args : Array Value} (h : ∀ w', (execOp a.eval o).run P w' = .ok (.enter f args) w')
    (hc : ∀ w', Ext w w' → Calls P f args w' fun e w'' => e = .returned v ∧ Ext w' w'') (hk : K (a.put o.dst v)) : o.quiet P a (Ext w) K :=
  ⟨v, fun w' hw' => by unfold Oper.quietAt; rw [h w']; exact ⟨rfl, (hc w' hw').mono fun e w'' ⟨h1, h2⟩ => ⟨h1, hw'.trans h2⟩⟩, hk⟩
end

def geoV (g : Geo) : Value := .agg #[.int .i64 g.random, .int .i64 g.bands, .int .i64 g.tracks, .int .i64 g.sectors, .int .i64 g.overlap]

theorem mul_cast_le {a b n : Nat} (h : a * b ≤ n) : 0 ≤ (a : Int) * b ∧ (a : Int) * b ≤ n := by
  rw [← Int.natCast_mul]; exact ⟨Int.natCast_nonneg _, Int.ofNat_le.2 h⟩

set_option maxHeartbeats 400000 in
theorem gvalid (g : Geo) (hg : g.Ok) (w : World) : Calls Tryz.prog 91 #[geoV g] w fun e w' => e = .returned (.bool true) ∧ Ext w w' := by
  have hg' := hg
  obtain ⟨h2, h3, h4, h5, h6, h7, h8, -⟩ := hg
  have h1 := hg'.random
  unfold geoV
  go_enter Tryz.func91, Tryz.ntmps91
  go_wp2
  go_ret
  exact ⟨by simp; omega, (Ext.refl _).alloc _⟩

set_option maxHeartbeats 400000 in
theorem gband (g : Geo) (hg : g.Ok) (w : World) : Calls Tryz.prog 90 #[geoV g] w fun e w' => e = .returned (.int .i64 g.band) ∧ Ext w w' := by
  obtain ⟨hb0, hb⟩ := mul_cast_le (a := g.tracks) (b := g.sectors) hg.band_le
  have V := fun w => gvalid g hg w
  unfold geoV at *
  go_enter Tryz.func90, Tryz.ntmps90
  go_wp2_with (go_at_call 91; refine (V _).mono ?_; rintro e w1 ⟨rfl, hx⟩; obtain ⟨hxc, hxf, hxs⟩ := hx.facts; simp only [World.size_alloc] at hxc hxf hxs)
  go_ret
  refine ⟨?_, ((Ext.refl _).alloc _).trans hx⟩
  simp [Geo.band]

set_option maxHeartbeats 400000 in
theorem gsize (g : Geo) (hg : g.Ok) (w : World) : Calls Tryz.prog 58 #[geoV g] w fun e w' => e = .returned (.int .i64 g.size) ∧ Ext w w' := by
  have hb : (g.band : Int) ≤ 120 := by have := hg.band_le; omega
  have hb1 : (g.bands : Int) ≤ 64 := by have := hg.bands; omega
  have hb2 : (g.random : Int) ≤ 120 := by have := hg.random; omega
  obtain ⟨hb3, hb4⟩ := mul_cast_le (a := g.bands) (b := g.band) hg.bb_le
  have V := fun w => gvalid g hg w
  have Bd := fun w => gband g hg w
  unfold geoV at *
  go_enter Tryz.func58, Tryz.ntmps58
  go_wp2_with (go_at_call 91; refine (V _).mono ?_; rintro e w1 ⟨rfl, hx⟩; obtain ⟨hxc, hxf, hxs⟩ := hx.facts; simp only [World.size_alloc, Nat.add_one_le_iff] at hxc hxf hxs)
  refine wp_region_ext (by kernel_rfl) (by kernel_rfl) ?_
  repeat (
    refine wpQuiet_step (fun K hK => ?_)
    first
      | (rw [if_neg (by exact Bool.false_ne_true)]; refine hK _ ?_; clear hK K; simp only [Act.put, List.setIfInBounds_toArray, List.set_cons_succ, List.set_cons_zero])
      | (rw [if_pos (by rfl)]
         refine qx_val (v := ?_) (fun w' hw' => ?_) (hK _ ?_)
         rotate_left
         · obtain ⟨hc', -, hs'⟩ := hw'.facts
           go_simp
           try go_bits
           rfl
         clear hK K
         simp only [Act.put, List.setIfInBounds_toArray, List.set_cons_succ, List.set_cons_zero])
      | (rw [if_pos (by rfl)]
         refine qx_call (v := ?_) (f := ?_) (args := ?_) (fun w' => ?_) (fun w' hw' => ?_) (hK _ ?_)
         rotate_left 3
         · go_simp
           constructor <;> rfl
         · exact Bd _
         clear hK K
         simp only [Act.put, List.setIfInBounds_toArray, List.set_cons_succ, List.set_cons_zero]))
  refine wpQuiet_nil ?_
  intro w2 hx2
  go_wp2
  go_ret
  refine ⟨?_, (((Ext.refl _).alloc _).trans hx).trans hx2⟩
  simp [Geo.size]

def addressV (g : Geo) (k : Int) : Value := .tuple (if 0 ≤ k ∧ k < g.bands then #[.int .i64 (g.first k.toNat), .int .i64 0] else #[.int .i64 0, .int .i64 2])
theorem addressV_in {g : Geo} {k : Int} (h : 0 ≤ k ∧ k < g.bands) : addressV g k = .tuple #[.int .i64 (g.first k.toNat), .int .i64 0] := by unfold addressV; rw [if_pos h]
theorem addressV_out {g : Geo} {k : Int} (h : ¬ (0 ≤ k ∧ k < g.bands)) : addressV g k = .tuple #[.int .i64 0, .int .i64 2] := by unfold addressV; rw [if_neg h]

set_option maxHeartbeats 400000 in
/-- The first sector of a band. -/
theorem gaddress (g : Geo) (hg : g.Ok) (k : Int) (w : World) : Calls Tryz.prog 161 #[geoV g, .int .i64 k, .int .i64 0, .int .i64 0] w fun e w' =>
    e = .returned (addressV g k) ∧ Ext w w' := by
  have h1 := hg.tracks1; have h2 := hg.tracks; have h3 := hg.sectors1; have h4 := hg.sectors; have h5 := hg.bands; have h6 := hg.random
  have V := fun w => gvalid g hg w
  by_cases hk0 : 0 ≤ k
  · by_cases hk1 : k < g.bands
    · obtain ⟨n, rfl⟩ := Int.eq_ofNat_of_zero_le hk0
      have hn : n < g.bands := by omega
      have i1 : (1 : Int) ≤ g.tracks := by omega
      have i2 : (1 : Int) ≤ g.sectors := by omega
      have i3 : (n : Int) ≤ (g.bands : Int) - 1 := by omega
      have i4 : (0 : Int) ≤ (g.tracks : Int) - 1 := by omega
      have i5 : (0 : Int) ≤ (g.sectors : Int) - 1 := by omega
      obtain ⟨q0, q1⟩ := mul_cast_le (a := n) (b := g.tracks) (n := 120) (Nat.le_trans (Nat.le_trans (Nat.le_mul_of_pos_right _ h3) (by rw [Nat.mul_assoc]; exact Nat.mul_le_mul_right _ (Nat.le_of_lt hn))) hg.bb_le)
      obtain ⟨q2, q3⟩ := mul_cast_le (a := n * g.tracks) (b := g.sectors) (n := 120) (Nat.le_trans (by rw [Nat.mul_assoc]; exact Nat.mul_le_mul_right _ (Nat.le_of_lt hn)) hg.bb_le)
      rw [Int.natCast_mul] at q2 q3
      unfold geoV at *
      go_enter Tryz.func161, Tryz.ntmps161
      go_wp2_with (first | (go_at_call 91; refine (V _).mono ?_; rintro e w1 ⟨rfl, hx⟩; obtain ⟨hxc, hxf, hxs⟩ := hx.facts; simp only [World.size_alloc, Nat.add_one_le_iff] at hxc hxf hxs) | go_in)
      go_ret2
      refine ⟨?_, (((Ext.refl _).alloc _).trans hx)⟩
      rw [addressV_in ⟨hk0, hk1⟩]
      simp [Geo.first, Geo.band, Int.mul_assoc]
    · unfold geoV at *
      have hk2 : decide (k ≤ (g.bands : Int) - 1) = false := by simp; omega
      go_enter Tryz.func161, Tryz.ntmps161
      go_wp2_with (first | (go_at_call 91; refine (V _).mono ?_; rintro e w1 ⟨rfl, hx⟩; obtain ⟨hxc, hxf, hxs⟩ := hx.facts; simp only [World.size_alloc, Nat.add_one_le_iff] at hxc hxf hxs) | go_in)
      go_ret2
      refine ⟨?_, (((Ext.refl _).alloc _).trans hx)⟩
      rw [addressV_out (by omega)]
      simp
  · unfold geoV at *
    have hk2 : decide (0 ≤ k) = false := by simp; omega
    go_enter Tryz.func161, Tryz.ntmps161
    go_wp2_with (first | (go_at_call 91; refine (V _).mono ?_; rintro e w1 ⟨rfl, hx⟩; obtain ⟨hxc, hxf, hxs⟩ := hx.facts; simp only [World.size_alloc, Nat.add_one_le_iff] at hxc hxf hxs) | go_in)
    go_ret2
    refine ⟨?_, (((Ext.refl _).alloc _).trans hx)⟩
    rw [addressV_out (by omega)]
    simp
end Go.Proofs.YthhcooljjhdjbaaGreat
