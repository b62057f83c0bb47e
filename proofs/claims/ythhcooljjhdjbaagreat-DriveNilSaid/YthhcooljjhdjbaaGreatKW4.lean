/- Contracts: media. -/
import Derived.Deep.DeepCutAuto
import Derived.Deep.CutBlock
import Derived.Deep.RegionWith
import Derived.Test.YthhcooljjhdjbaaGreatKR1
import Derived.Test.YthhcooljjhdjbaaGreatKW3
set_option linter.unusedVariables false
set_option linter.unusedSimpArgs false
namespace Go.Proofs.YthhcooljjhdjbaaGreat
open Go.RowKit

def mhasB (g : Geo) (a : Int) : Bool := decide (0 ≤ a) && decide (a < g.size)
set_option maxHeartbeats 1000000 in
theorem mhas {B : Nat} {w : World} {m sd cap : Nat} {g : Geo} {secs : List Sec} (h : MediaAt B w m sd cap g secs) (a : Int) :
    Calls Tryz.prog 173 #[.pointer (some ⟨m, 0, none⟩), .int .i64 a] w fun e w' => e = .returned (.bool (mhasB g a)) ∧ w = w' := by
  have c5 : w.cell? ⟨m, 5, none⟩ = some (.slice (some ⟨sd, 0, none⟩) g.size cap) := h.blk.cell 5 rfl
  clear h
  by_cases h0 : 0 ≤ a
  · have e : mhasB g a = decide (a < g.size) := by simp [mhasB, h0]
    have HE := Lib.hid e; clear e
    go_enter Tryz.func173, Tryz.ntmps173
    go_wp2
    go_ret
    exact ⟨by rw [HE.out]; simp, rfl⟩
  · have e : mhasB g a = false := by simp [mhasB, h0]
    have HE := Lib.hid e; clear e
    go_enter Tryz.func173, Tryz.ntmps173
    go_wp2
    go_ret
    exact ⟨by rw [HE.out]; simp, rfl⟩

theorem byteV_oneCell (b : List UInt8) : ∀ u ∈ b.map byteV, u.oneCell' = true := by
  intro u hu
  obtain ⟨x, _, rfl⟩ := List.mem_map.1 hu
  rfl
theorem cloneBytes {w : World} {y : Value} {b : List UInt8} (h : BytesAt w y b) (hne : b ≠ []) (hl : b.length ≤ 4096) :
    Calls Tryz.prog 170 #[y] w fun e w' => ∃ q yc, e = .returned (.slice (some ⟨q, 0, none⟩) b.length yc) ∧ BytesAt w' (.slice (some ⟨q, 0, none⟩) b.length yc) b ∧ Ext w w' := by
  rcases h.2 with ⟨rfl, h0⟩ | ⟨g, cap, cur, rfl, _⟩
  · exact absurd (List.eq_nil_of_length_eq_zero h0) hne
  · refine (clone5 ⟨g, 0, none⟩ b.length cap (b.map byteV) w (by simp) (h.cells (g := g) rfl) (byteV_oneCell b) hl).mono ?_
    rintro e w' ⟨g', c', rfl, hown, hx⟩
    exact ⟨_, _, rfl, ownsRow_base hown (Nat.zero_le _), hx⟩

set_option maxHeartbeats 1000000 in
theorem mread_yes {B : Nat} {w : World} {m sd cap : Nat} {g : Geo} {secs : List Sec} (h : MediaAt B w m sd cap g secs) (a : Nat) (b : List UInt8) (hb : secs[a]? = some (.data b)) (hl : b.length ≤ 64) (hl1 : b ≠ []) (hg : g.Ok) :
    Calls Tryz.prog 152 #[.pointer (some ⟨m, 0, none⟩), .int .i64 a] w fun e w' => ∃ q yc, e = .returned (.tuple #[.slice (some ⟨q, 0, none⟩) b.length yc, .int .i64 0]) ∧ BytesAt w' (.slice (some ⟨q, 0, none⟩) b.length yc) b ∧ Ext w w' := by
  have H := mhas h a
  have c5 : w.cell? ⟨m, 5, none⟩ = some (.slice (some ⟨sd, 0, none⟩) g.size cap) := h.blk.cell 5 rfl
  obtain ⟨cells, row, sc⟩ := h.row
  have hlt : a < secs.length := (List.getElem?_eq_some_iff.1 hb).1
  have hlen := h.len
  obtain ⟨y, y1, y2, y3⟩ := sc.2 a _ hb
  have d0 := row.cellAt (a * 2) (by omega)
  have d1 := row.cellAt (a * 2 + 1) (by omega)
  rw [y1] at d0
  simp only [Sec.state] at d0
  rw [y2] at d1
  have hm : mhasB g a = true := by simp [mhasB]; omega
  have hsz := hg.size_le
  have CB := cloneBytes y3 hl1 (by omega)
  clear h row sc hb y1 y2 y3
  go_enter Tryz.func152, Tryz.ntmps152
  go_wp2_with (first | (go_at_call 173; refine H.mono ?_; rintro e w1 ⟨rfl, rfl⟩))
  refine CB.mono ?_
  rintro e w2 ⟨q', yc', rfl, hy, hx⟩
  go_wp2
  go_ret2
  exact ⟨q', yc', rfl, hy, hx⟩
set_option maxHeartbeats 1000000 in
theorem mread_no {B : Nat} {w : World} {m sd cap : Nat} {g : Geo} {secs : List Sec} (h : MediaAt B w m sd cap g secs) (a : Nat) (s : Sec) (hb : secs[a]? = some s) (hs : s.state = 0 ∨ s.state = 2) (hg : g.Ok) :
    Calls Tryz.prog 152 #[.pointer (some ⟨m, 0, none⟩), .int .i64 a] w fun e w' => e = .returned (.tuple #[.slice none 0 0, .int .i64 15]) ∧ w' = w := by
  have H := mhas h a
  have c5 : w.cell? ⟨m, 5, none⟩ = some (.slice (some ⟨sd, 0, none⟩) g.size cap) := h.blk.cell 5 rfl
  obtain ⟨cells, row, sc⟩ := h.row
  have hlt : a < secs.length := (List.getElem?_eq_some_iff.1 hb).1
  have hlen := h.len
  have d0 := row.cellAt (a * 2) (by omega)
  rw [sc.state hb] at d0
  have hm : mhasB g a = true := by simp [mhasB]; omega
  have hsz := hg.size_le
  clear h row sc hb
  rcases hs with hs | hs
  · rw [hs] at d0
    clear hs
    go_enter Tryz.func152, Tryz.ntmps152
    go_wp2_with (first | (go_at_call 173; refine H.mono ?_; rintro e w1 ⟨rfl, rfl⟩))
    go_ret2
    exact ⟨rfl, rfl⟩
  · rw [hs] at d0
    clear hs
    go_enter Tryz.func152, Tryz.ntmps152
    go_wp2_with (first | (go_at_call 173; refine H.mono ?_; rintro e w1 ⟨rfl, rfl⟩))
    go_ret2
    exact ⟨rfl, rfl⟩
theorem mread_out {B : Nat} {w : World} {m sd cap : Nat} {g : Geo} {secs : List Sec} (h : MediaAt B w m sd cap g secs) (a : Int) (ha : ¬ (0 ≤ a ∧ a < g.size)) :
    Calls Tryz.prog 152 #[.pointer (some ⟨m, 0, none⟩), .int .i64 a] w fun e w' => e = .returned (.tuple #[.slice none 0 0, .int .i64 2]) ∧ w' = w := by
  have H := mhas h a
  have hm : mhasB g a = false := by simp [mhasB]; omega
  clear h ha
  go_enter Tryz.func152, Tryz.ntmps152
  go_wp2_with (first | (go_at_call 173; refine H.mono ?_; rintro e w1 ⟨rfl, rfl⟩))
  go_ret2
  exact ⟨rfl, rfl⟩

/-- One sector of the medium stored anew. -/
theorem MediaAt.store {B : Nat} {w : World} {m sd cap : Nat} {g : Geo} {secs : List Sec} (h : MediaAt B w m sd cap g secs) (i : Nat) (hi : i < g.size) (s : Sec) (y : Value) (hy : SecBytes w s y) (h1 : y.oneCell' = true) :
    MediaAt B ((w.setCell ⟨sd, i * 2, none⟩ (.int .i64 s.state)).setCell ⟨sd, i * 2 + 1, none⟩ y) m sd cap g (secs.set i s) := by
  obtain ⟨cells, row, sc⟩ := h.row
  have hb : ∃ cs, Blk w sd 196 cs ∧ B ≤ sd := by
    rcases row.2 with ⟨h', _⟩ | ⟨g', cap', cur, h', hB, hg, _⟩
    · simp at h'
    · simp only [Value.slice.injEq, Option.some.injEq, Addr.mk.injEq, and_true, true_and] at h'
      obtain ⟨rfl, rfl⟩ := h'
      exact ⟨cur, hg, hB⟩
  obtain ⟨cs, hcs, hB⟩ := hb
  have hne : sd ≠ m := hcs.ne h.blk (by decide)
  have k1 : Keep 0 [196] w (w.setCell ⟨sd, i * 2, none⟩ (.int .i64 s.state)) := (Keep.refl _ _ _).set hcs (Nat.zero_le _) (by simp) _ _
  have k2 : Keep 0 [196] w ((w.setCell ⟨sd, i * 2, none⟩ (.int .i64 s.state)).setCell ⟨sd, i * 2 + 1, none⟩ y) := k1.set (hcs.set _ _) (Nat.zero_le _) (by simp) _ _
  refine ⟨h.blk.keep k2 (by simp), by rw [List.length_set]; exact h.len, (cells.set (i * 2) (.int .i64 s.state)).set (i * 2 + 1) y, ?_, (sc.set i s y hy).keep k2 (by simp)⟩
  exact ((row.stored (i * 2) (.int .i64 s.state)).1.stored (i * 2 + 1) y).1

/-- The block of the sectors. -/
theorem MediaAt.secBlk {B : Nat} {w : World} {m sd cap : Nat} {g : Geo} {secs : List Sec} (h : MediaAt B w m sd cap g secs) : ∃ cs, Blk w sd 196 cs ∧ B ≤ sd := by
  obtain ⟨cells, row, sc⟩ := h.row
  rcases row.2 with ⟨h', _⟩ | ⟨g', cap', cur, h', hB, hg, _⟩
  · simp at h'
  · simp only [Value.slice.injEq, Option.some.injEq, Addr.mk.injEq, and_true, true_and] at h'
    obtain ⟨rfl, rfl⟩ := h'
    exact ⟨cur, hg, hB⟩
theorem MediaAt.sec_lt {B : Nat} {w : World} {m sd cap : Nat} {g : Geo} {secs : List Sec} (h : MediaAt B w m sd cap g secs) : sd < w.heap.size := let ⟨_, h, _⟩ := h.secBlk; h.lt
theorem MediaAt.keepOf {B : Nat} {Ts : List TypeId} {w w' : World} {m sd cap : Nat} {g : Geo} {secs : List Sec} (h : MediaAt B w m sd cap g secs) (hk : w.grownBy w' (some sd)) (hT : 196 ∈ Ts) : Keep B Ts w w' := by
  obtain ⟨cs, hcs, hB⟩ := h.secBlk
  exact grown_keep hk hcs hB hT
/-- What the walk asks of the two cells of a sector. -/
theorem MediaAt.at {B : Nat} {w : World} {m sd cap : Nat} {g : Geo} {secs : List Sec} (h : MediaAt B w m sd cap g secs) (i : Nat) (hi : i < g.size) :
    ∃ x y, w.cell? ⟨sd, i * 2, none⟩ = some x ∧ w.cell? ⟨sd, i * 2 + 1, none⟩ = some y ∧ w.frozen? ⟨sd, i * 2, none⟩ = false ∧ w.frozen? ⟨sd, i * 2 + 1, none⟩ = false := by
  obtain ⟨cells, row, sc⟩ := h.row
  have hl := h.len
  obtain ⟨y, y1, y2, y3⟩ := sc.2 i (secs[i]'(by omega)) (by simp)
  exact ⟨_, y, (row.cellAt (i * 2) (by omega)).trans y1, (row.cellAt (i * 2 + 1) (by omega)).trans y2, row.frozenAt _, row.frozenAt _⟩

theorem shadow_mem {g : Geo} (hg : g.Ok) {a s : Nat} (h : s ∈ g.shadow a) : s < g.size := by
  unfold Geo.shadow at h
  obtain ⟨i, hi, rfl⟩ := List.mem_map.1 h
  rw [List.mem_range] at hi
  unfold Geo.shades at hi
  split at hi
  · rename_i hr
    obtain ⟨h1, h2⟩ := hr
    have hs := hg.sectors1
    have ht := hg.tracks1
    unfold Geo.size Geo.band at *
    obtain ⟨c, rfl⟩ : ∃ c, a = g.random + c := ⟨a - g.random, by omega⟩
    rw [Nat.add_sub_cancel_left] at hi
    have hc : c < g.bands * (g.tracks * g.sectors) := by omega
    have e1 : c / g.sectors / g.tracks < g.bands := by
      rw [Nat.div_div_eq_div_mul]
      refine Nat.div_lt_of_lt_mul ?_
      rw [Nat.mul_comm g.sectors g.tracks, Nat.mul_comm]
      exact hc
    have e2 : c = g.sectors * (c / g.sectors) + c % g.sectors := (Nat.div_add_mod c g.sectors).symm
    have e3 : c / g.sectors = g.tracks * (c / g.sectors / g.tracks) + c / g.sectors % g.tracks := (Nat.div_add_mod _ _).symm
    have e4 : c % g.sectors < g.sectors := Nat.mod_lt _ hs
    have e5 : c / g.sectors + (i + 1) ≤ g.tracks * (c / g.sectors / g.tracks) + (g.tracks - 1) := by omega
    have e6 : g.tracks * (c / g.sectors / g.tracks) + g.tracks ≤ g.bands * g.tracks := by
      have := Nat.mul_le_mul_left g.tracks e1
      rw [Nat.mul_succ, Nat.mul_comm g.tracks g.bands] at this
      exact this
    have e7 : c / g.sectors + (i + 1) + 1 ≤ g.bands * g.tracks := by omega
    have e8 := Nat.mul_le_mul_right g.sectors e7
    rw [Nat.add_mul, Nat.add_mul, Nat.one_mul, Nat.mul_assoc] at e8
    rw [Nat.mul_comm g.sectors] at e2
    omega
  · omega

theorem oneCell_of_Bytes {w : World} {y : Value} {b : List UInt8} (h : BytesAt w y b) : y.oneCell' = true := by
  rcases h.2 with ⟨rfl, h0⟩ | ⟨g, cap, cur, rfl, _⟩ <;> rfl

set_option maxHeartbeats 2000000 in
theorem mwrite_in {B : Nat} {w : World} {m sd cap : Nat} {g : Geo} {secs : List Sec} (h : MediaAt B w m sd cap g secs) (a : Nat) (ha : a < g.size) (y : Value) (b : List UInt8) (hy : BytesAt w y b) (hne : b ≠ []) (hl : b.length ≤ 64) (hg : g.Ok) (hB : B ≤ w.heap.size) :
    Calls Tryz.prog 172 #[.pointer (some ⟨m, 0, none⟩), .int .i64 a, y] w fun e w' => e = .returned (.int .i64 0) ∧ MediaAt B w' m sd cap g (writeSec g secs a b) ∧ w.grownBy w' (some sd) := by
  have H := mhas h a
  have c5 : w.cell? ⟨m, 5, none⟩ = some (.slice (some ⟨sd, 0, none⟩) g.size cap) := h.blk.cell 5 rfl
  have hm : mhasB g a = true := by simp [mhasB]; omega
  have hsz := hg.size_le
  have CB := fun w' (hx : Ext w w') => cloneBytes (BytesAt.keep hy hx (by simp)) hne (by omega)
  have hyn : ∃ ya yc, y = .slice ya b.length yc := by
    rcases hy.2 with ⟨rfl, h0⟩ | ⟨g, cap, cur, rfl, _⟩
    · exact ⟨_, _, by rw [h0]⟩
    · exact ⟨_, _, rfl⟩
  obtain ⟨ya, yc, rfl⟩ := hyn
  have hlen64 : (b.length : Int) ≤ 64 := by omega
  have HM := Lib.hid h
  clear h hy
  go_enter Tryz.func172, Tryz.ntmps172
  go_upto_region 7 with (go_at_call 173; refine H.mono ?_; rintro e w1 ⟨rfl, rfl⟩)
  go_cut [] (fun wx => MediaAt B wx m sd cap g (secs.set a (.data b)) ∧ w.grownBy wx (some sd))
  case first =>
    go_region_with (go_at_call 170; refine (CB _ (Ext.refl _).drew).mono ?_; rintro e w2 ⟨q', yc', rfl, hy', hx⟩; have hx0 := (Ext.refl w).drew.trans hx; have c5' := hx0.cell c5; obtain ⟨x, z, d0, d1, f0, f1⟩ := (HM.out.keep hx0 (by simp) (by simp) (by simp)).at a ha)
    all_goals (go_wp2_with fail; go_meet; case rel => exact ⟨(HM.out.keep hx0 (by simp) (by simp) (by simp)).store a ha (.data b) _ hy' rfl, grown_set (grown_set (hx0.grownBy _) _ _) _ _⟩)
  case rest =>
    obtain ⟨hm1, hk1⟩ := hcut
    have g0 : wc.cell? ⟨m, 0, none⟩ = some (.int .i64 g.random) := hm1.blk.cell 0 rfl
    have g1 : wc.cell? ⟨m, 1, none⟩ = some (.int .i64 g.bands) := hm1.blk.cell 1 rfl
    have g2 : wc.cell? ⟨m, 2, none⟩ = some (.int .i64 g.tracks) := hm1.blk.cell 2 rfl
    have g3 : wc.cell? ⟨m, 3, none⟩ = some (.int .i64 g.sectors) := hm1.blk.cell 3 rfl
    have g4 : wc.cell? ⟨m, 4, none⟩ = some (.int .i64 g.overlap) := hm1.blk.cell 4 rfl
    have S := gshadow g hg a ha wc
    have HW : Hid (writeSec g secs a b = (g.shadow a).foldl (fun l s => l.set s .dead) (secs.set a (.data b))) := rfl
    have hsh := fun s => shadow_mem (g := g) hg (a := a) (s := s)
    have HS := Lib.hid hsh
    have h3 : (g.shadow a).length ≤ 3 := by
      have := hg.overlap
      simp only [Geo.shadow, List.length_map, List.length_range, Geo.shades]
      split <;> omega
    generalize g.shadow a = l at S HW HS h3
    clear hsh H c5 hm CB
    have HM1 := Lib.hid hm1
    have HK1 := Lib.hid hk1
    clear hm1 hk1
    unfold geoV at S
    go_wp2_with fail
    refine S.mono ?_
    rintro e w2 ⟨v, rfl, hv, hx⟩
    have hk2 := grown_trans HK1.out (hx.grownBy (some sd))
    have hm2 := HM1.out.keep hx (by simp) (by simp) (by simp)
    rcases ownsRow_shape hv with ⟨rfl, h0⟩ | ⟨q, c, rfl, hq⟩
    · have hl0 : l = [] := List.eq_nil_of_length_eq_zero h0
      subst hl0
      clear hv h0
      have HK2 := Lib.hid hk2
      have HM2 := Lib.hid hm2
      clear hk2 hm2
      go_wp2
      go_loop [37] (fun i => i = .int .i64 0) (fun _ => 0)
      case atStart => rfl
      case round =>
        subst hrel
        go_wp2
        go_ret
        exact ⟨rfl, by rw [HW.out]; exact HM2.out, HK2.out⟩
    · have HV := Lib.hid hv
      have HK2 := Lib.hid hk2
      have HM2 := Lib.hid hm2
      clear hv hk2 hm2
      go_wp2
      go_loopw [37] (fun i wr => ∃ k : Nat, k ≤ l.length ∧ i = .int .i64 k ∧ MediaAt B wr m sd cap g ((l.take k).foldl (fun l s => l.set s .dead) (secs.set a (.data b))) ∧ w.grownBy wr (some sd) ∧ w2.grownBy wr (some sd)) (fun i _ => l.length - (intOf i).toNat)
      case atStart => exact ⟨0, Nat.zero_le _, rfl, HM2.out, HK2.out, grown_refl _ _⟩
      case round =>
        obtain ⟨k, hk, rfl, hmr, hkr, hkr2⟩ := hrel
        by_cases hlt : k < l.length
        · have hs : l[k] < g.size := HS.out _ (List.getElem_mem hlt)
          have e5 : wr.cell? ⟨m, 5, none⟩ = some (.slice (some ⟨sd, 0, none⟩) g.size cap) := hmr.blk.cell 5 rfl
          obtain ⟨x, z, d0, d1, f0, f1⟩ := hmr.at (l[k]) hs
          have hq1 : wr.cell? ⟨q, k, none⟩ = some (.int .i64 l[k]) := by
            rw [(ownsRow_keep HV.out (HM2.out.keepOf (Ts := [196]) hkr2 (by simp)) (by simp)).cellAt k (by omega)]; simp [hlt]
          have HMr := Lib.hid hmr
          have HKr := Lib.hid hkr
          have HKr2 := Lib.hid hkr2
          clear hmr hkr hkr2
          have hk64 : (k : Int) < 3 := by omega
          generalize hgl : l[k] = s at *
          have HGL := Lib.hid hgl
          clear hgl
          have hs2 : (s : Int) < 120 := by omega
          go_wp2
          go_roundw
          case rel =>
            refine ⟨k + 1, by omega, by go_num, ?_, grown_set (grown_set HKr.out _ _) _ _, grown_set (grown_set HKr2.out _ _) _ _⟩
            have e : l.take (k + 1) = l.take k ++ [s] := by rw [List.take_succ_eq_append_getElem hlt, HGL.out]
            rw [e, List.foldl_append]
            exact HMr.out.store s hs .dead _ rfl rfl
          case measure => simp [intOf]; omega
        · have HMr := Lib.hid hmr
          have HKr := Lib.hid hkr
          clear hmr hkr hkr2
          go_wp2
          go_ret
          obtain rfl : k = l.length := by omega
          refine ⟨rfl, ?_, HKr.out⟩
          have := HMr.out
          rw [List.take_length] at this
          rw [HW.out]; exact this

theorem mwrite_out {B : Nat} {w : World} {m sd cap : Nat} {g : Geo} {secs : List Sec} (h : MediaAt B w m sd cap g secs) (a : Int) (ha : ¬ (0 ≤ a ∧ a < g.size)) (y : Value) :
    Calls Tryz.prog 172 #[.pointer (some ⟨m, 0, none⟩), .int .i64 a, y] w fun e w' => e = .returned (.int .i64 2) ∧ w = w' := by
  have H := mhas h a
  have hm : mhasB g a = false := by simp [mhasB]; omega
  clear h ha
  go_enter Tryz.func172, Tryz.ntmps172
  go_wp2_with (first | (go_at_call 173; refine H.mono ?_; rintro e w1 ⟨rfl, rfl⟩))
  go_ret
  exact ⟨rfl, rfl⟩

theorem length_blanks (f n : Nat) (l : List Sec) : (blanks f n l).length = l.length := by
  unfold blanks
  induction n generalizing l with
  | zero => rfl
  | succ n ih => rw [List.range_succ, List.foldl_append]; simp only [List.foldl_cons, List.foldl_nil, List.length_set]; exact ih l
theorem blanks_succ (f n : Nat) (l : List Sec) : blanks f (n + 1) l = (blanks f n l).set (f + n) .blank := by
  unfold blanks; rw [List.range_succ, List.foldl_append]; rfl
theorem first_le {g : Geo} {k i : Nat} (hk : k < g.bands) (hi : i < g.band) : g.first k + i < g.size := by
  unfold Geo.first Geo.size
  have := Nat.mul_le_mul_right g.band hk
  rw [Nat.succ_mul] at this
  omega
set_option maxHeartbeats 2000000 in
theorem merase_in {B : Nat} {w : World} {m sd cap : Nat} {g : Geo} {secs : List Sec} (h : MediaAt B w m sd cap g secs) (k : Nat) (hk : k < g.bands) (hg : g.Ok) :
    Calls Tryz.prog 127 #[.pointer (some ⟨m, 0, none⟩), .int .i64 k] w fun e w' => e = .returned (.int .i64 0) ∧ MediaAt B w' m sd cap g (eraseBand g secs k) ∧ w.grownBy w' (some sd) := by
  have g0 : w.cell? ⟨m, 0, none⟩ = some (.int .i64 g.random) := h.blk.cell 0 rfl
  have g1 : w.cell? ⟨m, 1, none⟩ = some (.int .i64 g.bands) := h.blk.cell 1 rfl
  have g2 : w.cell? ⟨m, 2, none⟩ = some (.int .i64 g.tracks) := h.blk.cell 2 rfl
  have g3 : w.cell? ⟨m, 3, none⟩ = some (.int .i64 g.sectors) := h.blk.cell 3 rfl
  have g4 : w.cell? ⟨m, 4, none⟩ = some (.int .i64 g.overlap) := h.blk.cell 4 rfl
  have A := gaddress g hg k w
  have hA := addressV_in (g := g) (k := k) ⟨by omega, by omega⟩
  rw [Int.toNat_natCast] at hA
  rw [hA] at A
  clear hA
  have BD := fun w' => gband g hg w'
  have HM := Lib.hid h
  have hb1 := hg.band_le
  have hF : g.first k + g.band ≤ 120 := by have := first_le hk (show g.band - 1 < g.band by have := hg.band1; omega); have := hg.size_le; have := hg.band1; omega
  have HF := fun i hi => first_le (g := g) (k := k) (i := i) hk hi
  have HFI := Lib.hid HF
  clear h HF
  have HW : Hid (eraseBand g secs k = blanks (g.first k) g.band secs) := rfl
  generalize g.first k = f at A HW hF HFI
  generalize hbd : g.band = n at BD HW hb1 hF HFI
  clear hbd
  unfold geoV at A BD
  go_enter Tryz.func127, Tryz.ntmps127
  go_wp2_with fail
  refine A.mono ?_
  rintro e w1 ⟨rfl, hx⟩
  have j0 := hx.cell g0
  have j1 := hx.cell g1
  have j2 := hx.cell g2
  have j3 := hx.cell g3
  have j4 := hx.cell g4
  clear g0 g1 g2 g3 g4 A
  go_wp2_with fail
  refine (BD _).mono ?_
  rintro e w2 ⟨rfl, hx2⟩
  have HM2 := Lib.hid ((HM.out.keep hx (by simp) (by simp) (by simp)).keep hx2 (by simp) (by simp) (by simp))
  have HK2 := Lib.hid ((Ext.trans hx hx2).grownBy (some sd))
  clear j0 j1 j2 j3 j4 hx hx2 BD
  go_wp2
  go_loopw [26] (fun i wr => ∃ j : Nat, j ≤ n ∧ i = .int .i64 j ∧ MediaAt B wr m sd cap g (blanks f j secs) ∧ w.grownBy wr (some sd)) (fun i _ => n - (intOf i).toNat)
  case atStart => exact ⟨0, Nat.zero_le _, rfl, HM2.out, HK2.out⟩
  case round =>
    obtain ⟨j, hj, rfl, hmr, hkr⟩ := hrel
    by_cases hlt : j < n
    · have e5 : wr.cell? ⟨m, 5, none⟩ = some (.slice (some ⟨sd, 0, none⟩) g.size cap) := hmr.blk.cell 5 rfl
      obtain ⟨x, z, d0, d1, f0, f1⟩ := hmr.at (f + j) (HFI.out j hlt)
      have hfj : f + j < g.size := HFI.out j hlt
      have hfi : (f : Int) + j < g.size := by omega
      have hfn : ((f : Int) + j).toNat = f + j := by omega
      have hsz := hg.size_le
      have hj120 : (j : Int) < 120 := by omega
      have hf120 : (f : Int) ≤ 120 := by omega
      have HMr := Lib.hid hmr
      have HKr := Lib.hid hkr
      clear hmr hkr
      go_wp2
      go_roundw
      case rel =>
        refine ⟨j + 1, by omega, by go_num, ?_, grown_set (grown_set HKr.out _ _) _ _⟩
        rw [blanks_succ]
        exact HMr.out.store (f + j) hfj .blank _ rfl rfl
      case measure => simp [intOf]; omega
    · have HMr := Lib.hid hmr
      have HKr := Lib.hid hkr
      clear hmr hkr
      go_wp2
      go_ret
      obtain rfl : j = n := by omega
      exact ⟨rfl, by rw [HW.out]; exact HMr.out, HKr.out⟩
theorem merase_out {B : Nat} {w : World} {m sd cap : Nat} {g : Geo} {secs : List Sec} (h : MediaAt B w m sd cap g secs) (k : Int) (hk : ¬ (0 ≤ k ∧ k < g.bands)) (hg : g.Ok) :
    Calls Tryz.prog 127 #[.pointer (some ⟨m, 0, none⟩), .int .i64 k] w fun e w' => e = .returned (.int .i64 2) ∧ Ext w w' := by
  have g0 : w.cell? ⟨m, 0, none⟩ = some (.int .i64 g.random) := h.blk.cell 0 rfl
  have g1 : w.cell? ⟨m, 1, none⟩ = some (.int .i64 g.bands) := h.blk.cell 1 rfl
  have g2 : w.cell? ⟨m, 2, none⟩ = some (.int .i64 g.tracks) := h.blk.cell 2 rfl
  have g3 : w.cell? ⟨m, 3, none⟩ = some (.int .i64 g.sectors) := h.blk.cell 3 rfl
  have g4 : w.cell? ⟨m, 4, none⟩ = some (.int .i64 g.overlap) := h.blk.cell 4 rfl
  have A := gaddress g hg k w
  rw [addressV_out hk] at A
  clear h hk
  unfold geoV at A
  go_enter Tryz.func127, Tryz.ntmps127
  go_wp2_with fail
  refine A.mono ?_
  rintro e w1 ⟨rfl, hx⟩
  go_wp2
  go_ret
  exact ⟨rfl, hx⟩
end Go.Proofs.YthhcooljjhdjbaaGreat
