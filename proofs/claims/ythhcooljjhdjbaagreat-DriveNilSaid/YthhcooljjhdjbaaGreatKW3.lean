/- Contracts: geometry, the place of a sector and what a write destroys. Contracts: slices.Clone at four types. -/
import Derived.Test.YthhcooljjhdjbaaGreatKW1
set_option linter.unusedVariables false
set_option linter.unusedSimpArgs false
namespace Go.Proofs.YthhcooljjhdjbaaGreat
open Go.RowKit

def withinB (n lo hi : Int) : Bool := decide (lo ≤ n) && decide (n ≤ hi)
theorem within_any (n lo hi : Int) (w : World) : Calls Tryz.prog 120 #[.int .i64 n, .int .i64 lo, .int .i64 hi] w fun e w' => e = .returned (.bool (withinB n lo hi)) ∧ Ext w w' := by
  by_cases h : lo ≤ n
  · go_enter Tryz.func120, Tryz.ntmps120
    go_wp2
    go_ret
    exact ⟨by have := h; simp [withinB]; omega, Ext.refl _⟩
  · go_enter Tryz.func120, Tryz.ntmps120
    go_wp2
    go_ret
    exact ⟨by have := h; simp [withinB]; omega, Ext.refl _⟩

/-- Band, track and position. -/
def locateV (g : Geo) (a : Nat) : Value :=
  if g.random ≤ a ∧ a < g.size then
    .tuple #[.int .i64 ((a - g.random : Nat) / g.sectors / g.tracks : Nat), .int .i64 ((a - g.random : Nat) / g.sectors % g.tracks : Nat), .int .i64 ((a - g.random : Nat) % g.sectors : Nat), .int .i64 0]
  else .tuple #[.int .i64 0, .int .i64 0, .int .i64 0, .int .i64 2]

set_option maxRecDepth 20000 in
set_option maxHeartbeats 1000000 in
theorem glocate (g : Geo) (hg : g.Ok) (a : Nat) (ha : a < g.size) (w : World) : Calls Tryz.prog 180 #[geoV g, .int .i64 a] w fun e w' =>
    e = .returned (locateV g a) ∧ Ext w w' := by
  have h1 := hg.tracks1; have h2 := hg.tracks; have h3 := hg.sectors1; have h4 := hg.sectors; have h5 := hg.bands; have h6 := hg.random
  have V := fun w => gvalid g hg w
  have S := fun w => gsize g hg w
  have s1 := hg.size_le
  have j1 : (g.size : Int) ≤ 120 := by omega
  have j2 : (0 : Int) ≤ g.size := by omega
  have j3 : (a : Int) < 120 := by omega
  have j4 : (1 : Int) ≤ g.sectors := by omega
  have j5 : (1 : Int) ≤ g.tracks := by omega
  by_cases hk : g.random ≤ a ∧ a < g.size
  · obtain ⟨hk1, hk2⟩ := hk
    have hl : locateV g a = .tuple #[.int .i64 ((a - g.random : Nat) / g.sectors / g.tracks : Nat), .int .i64 ((a - g.random : Nat) / g.sectors % g.tracks : Nat), .int .i64 ((a - g.random : Nat) % g.sectors : Nat), .int .i64 0] := by
      unfold locateV; rw [if_pos ⟨hk1, hk2⟩]
    obtain ⟨c, rfl⟩ : ∃ c, a = g.random + c := ⟨a - g.random, by omega⟩
    simp only [Nat.add_sub_cancel_left] at hl
    have hb : withinB ((g.random : Int) + c) g.random (g.size - 1) = true := by simp [withinB]; omega
    have HL := Lib.hid hl; clear hl
    unfold geoV at *
    go_enter Tryz.func180, Tryz.ntmps180
    go_wp2_with (first | (go_at_call 91; refine (V _).mono ?_; rintro e w1 ⟨rfl, hx⟩; obtain ⟨hxc, hxf, hxs⟩ := hx.facts; simp only [World.size_alloc, Nat.add_one_le_iff] at hxc hxf hxs))
    refine wp_region_ext (by kernel_rfl) (by kernel_rfl) ?_
    repeat (
      refine wpQuiet_step (fun K hK => ?_)
      first
        | (rw [if_neg (by exact Bool.false_ne_true)]; refine hK _ ?_; clear hK K; simp only [Act.put, List.setIfInBounds_toArray, List.set_cons_succ, List.set_cons_zero])
        | (rw [if_pos (by rfl)]
           refine qx_val (v := ?_) (fun w' hw' => ?_) (hK _ ?_)
           rotate_left
           · obtain ⟨hc', -, hs'⟩ := hw'.facts
             go_simp
             try go_bits
             rfl
           clear hK K
           simp only [Act.put, List.setIfInBounds_toArray, List.set_cons_succ, List.set_cons_zero])
        | (rw [if_pos (by rfl)]
           refine qx_call (v := ?_) (f := ?_) (args := ?_) (fun w' => ?_) (fun w' hw' => ?_) (hK _ ?_)
           rotate_left 3
           · go_simp
             constructor <;> rfl
           · exact S _
           clear hK K
           simp only [Act.put, List.setIfInBounds_toArray, List.set_cons_succ, List.set_cons_zero])
        | (rw [if_pos (by rfl)]
           refine qx_call (v := ?_) (f := ?_) (args := ?_) (fun w' => ?_) (fun w' hw' => ?_) (hK _ ?_)
           rotate_left 3
           · go_simp
             constructor <;> rfl
           · exact within_any _ _ _ _
           clear hK K
           simp only [Act.put, List.setIfInBounds_toArray, List.set_cons_succ, List.set_cons_zero]))
    refine wpQuiet_nil ?_
    intro w2 hx2
    obtain ⟨hx2c, hx2f, hx2s⟩ := hx2.facts; try simp only [World.size_alloc, Nat.add_one_le_iff] at hx2c hx2f hx2s
    have hys := Nat.lt_of_lt_of_le hxs hx2s
    have e1 : (g.random : Int) + c - g.random = c := by omega
    have hc0 : (c : Int) < 120 := by omega
    have hc1 : 0 ≤ (c : Int) / g.sectors := Int.ediv_nonneg (by omega) (by omega)
    have hc2 : (c : Int) / g.sectors < 120 := Int.lt_of_le_of_lt (Int.ediv_le_self _ (by omega)) hc0
    have hc3 : 0 ≤ (c : Int) / g.sectors / g.tracks := Int.ediv_nonneg hc1 (by omega)
    have hc4 : (c : Int) / g.sectors / g.tracks < 120 := Int.lt_of_le_of_lt (Int.ediv_le_self _ hc1) hc2
    go_wp2
    go_quiet (fail)
    go_wp2
    go_quiet (fail)
    go_wp2
    refine bodyPost_ret (v := locateV g (g.random + c)) ?_ rfl ⟨rfl, (((((Ext.refl _).alloc _).trans hx).trans hx2).drewN _).drewN _⟩
    rw [HL.out]
    simp [results, Tryz.results180, go_sem]
  · have hb : withinB a g.random (g.size - 1) = false := by simp [withinB]; omega
    have hl : locateV g a = .tuple #[.int .i64 0, .int .i64 0, .int .i64 0, .int .i64 2] := by unfold locateV; rw [if_neg hk]
    have HL := Lib.hid hl; clear hl
    unfold geoV at *
    go_enter Tryz.func180, Tryz.ntmps180
    go_wp2_with (first | (go_at_call 91; refine (V _).mono ?_; rintro e w1 ⟨rfl, hx⟩; obtain ⟨hxc, hxf, hxs⟩ := hx.facts; simp only [World.size_alloc, Nat.add_one_le_iff] at hxc hxf hxs))
    refine wp_region_ext (by kernel_rfl) (by kernel_rfl) ?_
    repeat (
      refine wpQuiet_step (fun K hK => ?_)
      first
        | (rw [if_neg (by exact Bool.false_ne_true)]; refine hK _ ?_; clear hK K; simp only [Act.put, List.setIfInBounds_toArray, List.set_cons_succ, List.set_cons_zero])
        | (rw [if_pos (by rfl)]
           refine qx_val (v := ?_) (fun w' hw' => ?_) (hK _ ?_)
           rotate_left
           · obtain ⟨hc', -, hs'⟩ := hw'.facts
             go_simp
             try go_bits
             rfl
           clear hK K
           simp only [Act.put, List.setIfInBounds_toArray, List.set_cons_succ, List.set_cons_zero])
        | (rw [if_pos (by rfl)]
           refine qx_call (v := ?_) (f := ?_) (args := ?_) (fun w' => ?_) (fun w' hw' => ?_) (hK _ ?_)
           rotate_left 3
           · go_simp
             constructor <;> rfl
           · exact S _
           clear hK K
           simp only [Act.put, List.setIfInBounds_toArray, List.set_cons_succ, List.set_cons_zero])
        | (rw [if_pos (by rfl)]
           refine qx_call (v := ?_) (f := ?_) (args := ?_) (fun w' => ?_) (fun w' hw' => ?_) (hK _ ?_)
           rotate_left 3
           · go_simp
             constructor <;> rfl
           · exact within_any _ _ _ _
           clear hK K
           simp only [Act.put, List.setIfInBounds_toArray, List.set_cons_succ, List.set_cons_zero]))
    refine wpQuiet_nil ?_
    intro w2 hx2
    obtain ⟨hx2c, hx2f, hx2s⟩ := hx2.facts; try simp only [World.size_alloc, Nat.add_one_le_iff] at hx2c hx2f hx2s
    have hys := Nat.lt_of_lt_of_le hxs hx2s
    go_wp2
    refine bodyPost_ret (v := locateV g a) ?_ rfl ⟨rfl, (((Ext.refl _).alloc _).trans hx).trans hx2⟩
    rw [HL.out]
    simp [results, Tryz.results180, go_sem]

/-- A slice of numbers of the call's own. -/
def IntsV (w w' : World) (v : Value) (l : List Nat) : Prop := w'.ownsRow w.heap.size 3 1 v l.length (l.map fun (n : Nat) => Value.int .i64 n)

theorem Tryz.info3 : (Tryz.prog.info? 3).map (fun i => (i.zero, i.size, i.bytes)) = some (some (.int .i64 0), 1, 8) := by kernel_rfl

def shadowTo (g : Geo) (a k : Nat) : List Nat := (List.range k).map fun i => a + (i + 1) * g.sectors
theorem shadowTo_snoc (g : Geo) (a k : Nat) : shadowTo g a (k + 1) = shadowTo g a k ++ [a + (k + 1) * g.sectors] := by
  unfold shadowTo; rw [List.range_succ, List.map_append]; rfl
theorem length_shadowTo (g : Geo) (a k : Nat) : (shadowTo g a k).length = k := by simp [shadowTo]

set_option maxHeartbeats 1000000 in
theorem gshadow (g : Geo) (hg : g.Ok) (a : Nat) (ha : a < g.size) (w : World) : Calls Tryz.prog 178 #[geoV g, .int .i64 a] w fun e w' =>
    ∃ v, e = .returned v ∧ IntsV w w' v (g.shadow a) ∧ Ext w w' := by
  have h1 := hg.tracks1; have h2 := hg.tracks; have h3 := hg.sectors1; have h4 := hg.sectors; have h7 := hg.overlap
  have s1 := hg.size_le
  have L := fun w => glocate g hg a ha w
  by_cases hk : g.random ≤ a
  · have hl : locateV g a = .tuple #[.int .i64 ((a - g.random : Nat) / g.sectors / g.tracks : Nat), .int .i64 ((a - g.random : Nat) / g.sectors % g.tracks : Nat), .int .i64 ((a - g.random : Nat) % g.sectors : Nat), .int .i64 0] := by
      unfold locateV; rw [if_pos ⟨hk, ha⟩]
    simp only [hl] at L
    clear hl
    generalize (a - g.random) / g.sectors / g.tracks = q1 at L
    generalize (a - g.random) % g.sectors = q2 at L
    have hsh : g.shadow a = shadowTo g a (min g.overlap (g.tracks - 1 - (a - g.random) / g.sectors % g.tracks)) := by
      unfold Geo.shadow shadowTo Geo.shades; rw [if_pos ⟨hk, ha⟩]
    have ht : (a - g.random) / g.sectors % g.tracks < g.tracks := Nat.mod_lt _ (by omega)
    generalize (a - g.random) / g.sectors % g.tracks = t at L hsh ht
    have HS := Lib.hid hsh; clear hsh
    obtain ⟨i0, hi, hz0, hz1, hz2⟩ := info_parts Tryz.info3
    unfold geoV at *
    go_enter Tryz.func178, Tryz.ntmps178
    go_wp2_with (first | (go_at_call 180; refine (L _).mono ?_; rintro e w1 ⟨rfl, hx⟩; obtain ⟨hxc, hxf, hxs⟩ := hx.facts; simp only [World.size_alloc, Nat.add_one_le_iff] at hxc hxf hxs))
    have hsz : w.heap.size < w1.heap.size := hxs
    obtain ⟨m, hm⟩ : ∃ m, m = min g.overlap (g.tracks - 1 - t) := ⟨_, rfl⟩
    rw [← hm] at HS
    have hm3 : m ≤ 3 := by omega
    have HM := Lib.hid hm; clear hm
    go_loopw [9, 10] (fun v i wr => ∃ k : Nat, k ≤ m ∧ i = .int .i64 ((k : Int) + 1) ∧ wr.ownsRow w1.heap.size 3 1 v k ((shadowTo g a k).map fun (n : Nat) => Value.int .i64 n) ∧ Ext w1 wr) (fun _ i _ => m + 1 - (intOf i).toNat)
    case atStart => exact ⟨0, Nat.zero_le _, rfl, World.ownsRow_nil _ _ _ _, Ext.refl _⟩
    case round =>
      obtain ⟨k, hk, rfl, hown, hxr⟩ := hrel
      obtain ⟨hrc, hrf, hrs⟩ := hxr.facts
      have hks : (k : Int) ≤ 3 := by omega
      have hsec : 0 ≤ ((k : Int) + 1) * g.sectors ∧ ((k : Int) + 1) * g.sectors ≤ 256 := by
        have := Nat.mul_le_mul (show k + 1 ≤ 4 by omega) h4
        have e : ((k : Int) + 1) * g.sectors = (((k + 1) * g.sectors : Nat) : Int) := by simp
        rw [e]; omega
      obtain ⟨hsec0, hsec1⟩ := hsec
      by_cases hlt : k < m
      · have ho : (k : Int) + 1 ≤ g.overlap := by have := HM.out; omega
        have ht2 : (t : Int) + (k + 1) < g.tracks := by have := HM.out; omega
        go_wp2_with (at_builtin; refine wpList_append_own _ rfl _ _ 56 rfl w1.heap.size 3 i0 (.int .i64 0) 1 8 Tryz.underlying56 hi hz0 hz1 hz2 rfl (by decide) _ _ _ rfl (hown.alloc _) ⟨wr.heap.size, 0, none⟩ 1 1 [.int .i64 ((a + (k + 1) * g.sectors : Nat) : Int)] rfl rfl ?c1 ?c2 ?c3 ?c4 ?c5 ?_)
        case c1 =>
          intro j u hj
          match j, hj with
          | 0, hj => simp at hj; subst hj; simp [Addr.add]
        case c2 => intro u hu; simp at hu; subst hu; rfl
        case c3 => unfold maxLen; omega
        case c4 => omega
        case c5 => simp; omega
        · intro v' w2 hown' hgrow _
          have hx2 : Ext w1 w2 := (hxr.alloc _).grown hgrow (fun b hb => .inl (by have := (hown.lt b hb).1; omega))
          have hown2 : w2.ownsRow w1.heap.size 3 1 v' (k + 1) ((shadowTo g a (k + 1)).map fun (n : Nat) => Value.int .i64 n) := by
            rw [shadowTo_snoc, List.map_append]; exact hown'
          clear hown' hgrow hown
          go_wp2
          go_roundw
          case rel => exact ⟨k + 1, by omega, by go_num, hown2, hx2⟩
          case measure => simp [intOf]; omega
      · have hor : (k : Int) + 1 ≤ g.overlap → ¬ ((t : Int) + (k + 1) < g.tracks) := by have := HM.out; omega
        by_cases ho : (k : Int) + 1 ≤ g.overlap
        · have ht2 := hor ho
          clear hor
          go_wp2
          go_ret
          obtain rfl : k = m := by omega
          exact ⟨_, rfl, by unfold IntsV; rw [HS.out, length_shadowTo]; exact ownsRow_base hown (Nat.le_of_lt hsz), (((Ext.refl _).alloc _).trans hx).trans hxr⟩
        · clear hor
          go_wp2
          go_ret
          obtain rfl : k = m := by omega
          exact ⟨_, rfl, by unfold IntsV; rw [HS.out, length_shadowTo]; exact ownsRow_base hown (Nat.le_of_lt hsz), (((Ext.refl _).alloc _).trans hx).trans hxr⟩
  · have hl : locateV g a = .tuple #[.int .i64 0, .int .i64 0, .int .i64 0, .int .i64 2] := by unfold locateV; rw [if_neg (by omega)]
    have hsh : g.shadow a = [] := by unfold Geo.shadow Geo.shades; rw [if_neg (by omega)]; rfl
    simp only [hl] at L
    have HS := Lib.hid hsh; clear hsh hl
    unfold geoV at *
    go_enter Tryz.func178, Tryz.ntmps178
    go_wp2_with (first | (go_at_call 180; refine (L _).mono ?_; rintro e w1 ⟨rfl, hx⟩; obtain ⟨hxc, hxf, hxs⟩ := hx.facts; simp only [World.size_alloc, Nat.add_one_le_iff] at hxc hxf hxs))
    go_ret
    exact ⟨_, rfl, by unfold IntsV; rw [HS.out]; exact World.ownsRow_nil _ _ _ _, ((Ext.refl _).alloc _).trans hx⟩
end Go.Proofs.YthhcooljjhdjbaaGreat
namespace Go.Proofs.YthhcooljjhdjbaaGreat
open Go.RowKit

theorem Tryz.info5 : (Tryz.prog.info? 5).map (fun i => (i.zero, i.size, i.bytes)) = some (some (.int .u8 0), 1, 1) := by kernel_rfl
set_option maxHeartbeats 1000000 in
theorem clone5 (a : Addr) (n cap : Nat) (xs : List Value) (w : World) (hl : xs.length = n * 1) (hc : ∀ j u, xs[j]? = some u → w.cell? (a.add j) = some u) (h1 : ∀ u ∈ xs, u.oneCell' = true) (hn : n ≤ 4096) :
    Calls Tryz.prog 170 #[.slice (some a) n cap] w fun e w' => ∃ g c', e = .returned (.slice (some ⟨g, 0, none⟩) n c') ∧ w'.ownsRow w.heap.size 5 1 (.slice (some ⟨g, 0, none⟩) n c') n xs ∧ Ext w w' := by
  obtain ⟨i0, hi, hz0, hz1, hz2⟩ := info_parts Tryz.info5
  have hown : (w.alloc (.cells #[] 5)).ownsRow w.heap.size 5 1 (.slice (some ⟨w.heap.size, 0, none⟩) 0 0) 0 [] := World.ownsRow_made w #[] 0 (Nat.le_refl _) (by unfold maxLen; omega) rfl
  have hc' : ∀ j u, xs[j]? = some u → (w.alloc (.cells #[] 5)).cell? (a.add j) = some u := fun j u h => Ext.cell ((Ext.refl w).alloc _) (hc j u h)
  have HC := Lib.hid hc'
  have HL := Lib.hid hl
  have H1 := Lib.hid h1
  clear hc hc' hl h1
  have e0 := fun w => Lib.run_eql_slice_nil (P := Tryz.prog) w 65 5 (some a) n cap 0 0 Tryz.underlying65
  go_enter Tryz.func170, Tryz.ntmps170
  go_wp2_with (at_builtin; refine wpList_append_own _ rfl _ _ 65 rfl w.heap.size 5 i0 (.int .u8 0) 1 1 Tryz.underlying65 hi hz0 hz1 hz2 rfl (by decide) _ _ _ rfl hown a n cap xs rfl HL.out HC.out H1.out ?c3 ?c4 ?c5 ?_)
  case c3 => unfold maxLen; omega
  case c4 => omega
  case c5 => simp
  · intro v' w1 hown' hgrow hnil
    have hx : Ext w w1 := ((Ext.refl w).alloc _).grown hgrow (fun b hb => .inl (by have := (hown.lt b hb).1; omega))
    have hex : ∃ g c', v' = .slice (some ⟨g, 0, none⟩) n c' := by
      rcases hown'.2 with ⟨h, _⟩ | ⟨g, c', cur, h, _⟩
      · exact (hnil h).elim
      · exact ⟨g, c', by simpa using h⟩
    obtain ⟨g, c', hv⟩ := hex
    rw [hv] at hown' ⊢
    try simp only [Nat.zero_add, List.nil_append] at hown'
    clear hgrow hnil hown hv
    go_wp2
    go_ret
    exact ⟨g, c', rfl, hown', hx⟩
theorem clone5nil (w : World) : Calls Tryz.prog 170 #[.slice none 0 0] w fun e w' => e = .returned (.slice none 0 0) ∧ w' = w := by
  have e0 := fun w => Lib.run_eql_slice_nil (P := Tryz.prog) w 65 5 none 0 0 0 0 Tryz.underlying65
  go_enter Tryz.func170, Tryz.ntmps170
  go_wp2
  go_ret
  exact ⟨rfl, rfl⟩

theorem Tryz.info49 : (Tryz.prog.info? 49).map (fun i => (i.zero, i.size, i.bytes)) = some (some (.agg #[.int .i64 0, .int .i64 0, .int .i64 0]), 3, 24) := by kernel_rfl
set_option maxHeartbeats 1000000 in
theorem clone49 (a : Addr) (n cap : Nat) (xs : List Value) (w : World) (hl : xs.length = n * 3) (hc : ∀ j u, xs[j]? = some u → w.cell? (a.add j) = some u) (h1 : ∀ u ∈ xs, u.oneCell' = true) (hn : n ≤ 4096) :
    Calls Tryz.prog 86 #[.slice (some a) n cap] w fun e w' => ∃ g c', e = .returned (.slice (some ⟨g, 0, none⟩) n c') ∧ w'.ownsRow w.heap.size 49 3 (.slice (some ⟨g, 0, none⟩) n c') n xs ∧ Ext w w' := by
  obtain ⟨i0, hi, hz0, hz1, hz2⟩ := info_parts Tryz.info49
  have hown : (w.alloc (.cells #[] 49)).ownsRow w.heap.size 49 3 (.slice (some ⟨w.heap.size, 0, none⟩) 0 0) 0 [] := World.ownsRow_made w #[] 0 (Nat.le_refl _) (by unfold maxLen; omega) rfl
  have hc' : ∀ j u, xs[j]? = some u → (w.alloc (.cells #[] 49)).cell? (a.add j) = some u := fun j u h => Ext.cell ((Ext.refl w).alloc _) (hc j u h)
  have HC := Lib.hid hc'
  have HL := Lib.hid hl
  have H1 := Lib.hid h1
  clear hc hc' hl h1
  have e0 := fun w => Lib.run_eql_slice_nil (P := Tryz.prog) w 43 49 (some a) n cap 0 0 Tryz.underlying43
  go_enter Tryz.func86, Tryz.ntmps86
  go_wp2_with (at_builtin; refine wpList_append_own _ rfl _ _ 43 rfl w.heap.size 49 i0 (.agg #[.int .i64 0, .int .i64 0, .int .i64 0]) 3 24 Tryz.underlying43 hi hz0 hz1 hz2 rfl (by decide) _ _ _ rfl hown a n cap xs rfl HL.out HC.out H1.out ?c3 ?c4 ?c5 ?_)
  case c3 => unfold maxLen; omega
  case c4 => omega
  case c5 => simp
  · intro v' w1 hown' hgrow hnil
    have hx : Ext w w1 := ((Ext.refl w).alloc _).grown hgrow (fun b hb => .inl (by have := (hown.lt b hb).1; omega))
    have hex : ∃ g c', v' = .slice (some ⟨g, 0, none⟩) n c' := by
      rcases hown'.2 with ⟨h, _⟩ | ⟨g, c', cur, h, _⟩
      · exact (hnil h).elim
      · exact ⟨g, c', by simpa using h⟩
    obtain ⟨g, c', hv⟩ := hex
    rw [hv] at hown' ⊢
    try simp only [Nat.zero_add, List.nil_append] at hown'
    clear hgrow hnil hown hv
    go_wp2
    go_ret
    exact ⟨g, c', rfl, hown', hx⟩
theorem clone49nil (w : World) : Calls Tryz.prog 86 #[.slice none 0 0] w fun e w' => e = .returned (.slice none 0 0) ∧ w' = w := by
  have e0 := fun w => Lib.run_eql_slice_nil (P := Tryz.prog) w 43 49 none 0 0 0 0 Tryz.underlying43
  go_enter Tryz.func86, Tryz.ntmps86
  go_wp2
  go_ret
  exact ⟨rfl, rfl⟩

theorem Tryz.info76 : (Tryz.prog.info? 76).map (fun i => (i.zero, i.size, i.bytes)) = some (some (.agg #[.int .i64 0, .int .i64 0, .int .u64 0, .int .u64 0]), 4, 32) := by kernel_rfl
set_option maxHeartbeats 1000000 in
theorem clone76 (a : Addr) (n cap : Nat) (xs : List Value) (w : World) (hl : xs.length = n * 4) (hc : ∀ j u, xs[j]? = some u → w.cell? (a.add j) = some u) (h1 : ∀ u ∈ xs, u.oneCell' = true) (hn : n ≤ 4096) :
    Calls Tryz.prog 45 #[.slice (some a) n cap] w fun e w' => ∃ g c', e = .returned (.slice (some ⟨g, 0, none⟩) n c') ∧ w'.ownsRow w.heap.size 76 4 (.slice (some ⟨g, 0, none⟩) n c') n xs ∧ Ext w w' := by
  obtain ⟨i0, hi, hz0, hz1, hz2⟩ := info_parts Tryz.info76
  have hown : (w.alloc (.cells #[] 76)).ownsRow w.heap.size 76 4 (.slice (some ⟨w.heap.size, 0, none⟩) 0 0) 0 [] := World.ownsRow_made w #[] 0 (Nat.le_refl _) (by unfold maxLen; omega) rfl
  have hc' : ∀ j u, xs[j]? = some u → (w.alloc (.cells #[] 76)).cell? (a.add j) = some u := fun j u h => Ext.cell ((Ext.refl w).alloc _) (hc j u h)
  have HC := Lib.hid hc'
  have HL := Lib.hid hl
  have H1 := Lib.hid h1
  clear hc hc' hl h1
  have e0 := fun w => Lib.run_eql_slice_nil (P := Tryz.prog) w 35 76 (some a) n cap 0 0 Tryz.underlying35
  go_enter Tryz.func45, Tryz.ntmps45
  go_wp2_with (at_builtin; refine wpList_append_own _ rfl _ _ 35 rfl w.heap.size 76 i0 (.agg #[.int .i64 0, .int .i64 0, .int .u64 0, .int .u64 0]) 4 32 Tryz.underlying35 hi hz0 hz1 hz2 rfl (by decide) _ _ _ rfl hown a n cap xs rfl HL.out HC.out H1.out ?c3 ?c4 ?c5 ?_)
  case c3 => unfold maxLen; omega
  case c4 => omega
  case c5 => simp
  · intro v' w1 hown' hgrow hnil
    have hx : Ext w w1 := ((Ext.refl w).alloc _).grown hgrow (fun b hb => .inl (by have := (hown.lt b hb).1; omega))
    have hex : ∃ g c', v' = .slice (some ⟨g, 0, none⟩) n c' := by
      rcases hown'.2 with ⟨h, _⟩ | ⟨g, c', cur, h, _⟩
      · exact (hnil h).elim
      · exact ⟨g, c', by simpa using h⟩
    obtain ⟨g, c', hv⟩ := hex
    rw [hv] at hown' ⊢
    try simp only [Nat.zero_add, List.nil_append] at hown'
    clear hgrow hnil hown hv
    go_wp2
    go_ret
    exact ⟨g, c', rfl, hown', hx⟩
theorem clone76nil (w : World) : Calls Tryz.prog 45 #[.slice none 0 0] w fun e w' => e = .returned (.slice none 0 0) ∧ w' = w := by
  have e0 := fun w => Lib.run_eql_slice_nil (P := Tryz.prog) w 35 76 none 0 0 0 0 Tryz.underlying35
  go_enter Tryz.func45, Tryz.ntmps45
  go_wp2
  go_ret
  exact ⟨rfl, rfl⟩

theorem Tryz.info196 : (Tryz.prog.info? 196).map (fun i => (i.zero, i.size, i.bytes)) = some (some (.agg #[.int .i64 0, .slice none 0 0]), 2, 32) := by kernel_rfl
set_option maxHeartbeats 1000000 in
theorem clone196 (a : Addr) (n cap : Nat) (xs : List Value) (w : World) (hl : xs.length = n * 2) (hc : ∀ j u, xs[j]? = some u → w.cell? (a.add j) = some u) (h1 : ∀ u ∈ xs, u.oneCell' = true) (hn : n ≤ 4096) :
    Calls Tryz.prog 151 #[.slice (some a) n cap] w fun e w' => ∃ g c', e = .returned (.slice (some ⟨g, 0, none⟩) n c') ∧ w'.ownsRow w.heap.size 196 2 (.slice (some ⟨g, 0, none⟩) n c') n xs ∧ Ext w w' := by
  obtain ⟨i0, hi, hz0, hz1, hz2⟩ := info_parts Tryz.info196
  have hown : (w.alloc (.cells #[] 196)).ownsRow w.heap.size 196 2 (.slice (some ⟨w.heap.size, 0, none⟩) 0 0) 0 [] := World.ownsRow_made w #[] 0 (Nat.le_refl _) (by unfold maxLen; omega) rfl
  have hc' : ∀ j u, xs[j]? = some u → (w.alloc (.cells #[] 196)).cell? (a.add j) = some u := fun j u h => Ext.cell ((Ext.refl w).alloc _) (hc j u h)
  have HC := Lib.hid hc'
  have HL := Lib.hid hl
  have H1 := Lib.hid h1
  clear hc hc' hl h1
  have e0 := fun w => Lib.run_eql_slice_nil (P := Tryz.prog) w 160 196 (some a) n cap 0 0 Tryz.underlying160
  go_enter Tryz.func151, Tryz.ntmps151
  go_wp2_with (at_builtin; refine wpList_append_own _ rfl _ _ 160 rfl w.heap.size 196 i0 (.agg #[.int .i64 0, .slice none 0 0]) 2 32 Tryz.underlying160 hi hz0 hz1 hz2 rfl (by decide) _ _ _ rfl hown a n cap xs rfl HL.out HC.out H1.out ?c3 ?c4 ?c5 ?_)
  case c3 => unfold maxLen; omega
  case c4 => omega
  case c5 => simp
  · intro v' w1 hown' hgrow hnil
    have hx : Ext w w1 := ((Ext.refl w).alloc _).grown hgrow (fun b hb => .inl (by have := (hown.lt b hb).1; omega))
    have hex : ∃ g c', v' = .slice (some ⟨g, 0, none⟩) n c' := by
      rcases hown'.2 with ⟨h, _⟩ | ⟨g, c', cur, h, _⟩
      · exact (hnil h).elim
      · exact ⟨g, c', by simpa using h⟩
    obtain ⟨g, c', hv⟩ := hex
    rw [hv] at hown' ⊢
    try simp only [Nat.zero_add, List.nil_append] at hown'
    clear hgrow hnil hown hv
    go_wp2
    go_ret
    exact ⟨g, c', rfl, hown', hx⟩
theorem clone196nil (w : World) : Calls Tryz.prog 151 #[.slice none 0 0] w fun e w' => e = .returned (.slice none 0 0) ∧ w' = w := by
  have e0 := fun w => Lib.run_eql_slice_nil (P := Tryz.prog) w 160 196 none 0 0 0 0 Tryz.underlying160
  go_enter Tryz.func151, Tryz.ntmps151
  go_wp2
  go_ret
  exact ⟨rfl, rfl⟩
end Go.Proofs.YthhcooljjhdjbaaGreat
