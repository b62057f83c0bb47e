/- Contract: a drive without entries is created. -/
import Derived.Test.YthhcooljjhdjbaaGreatKW37
set_option linter.unusedVariables false
set_option linter.unusedSimpArgs false
namespace Go.Proofs.YthhcooljjhdjbaaGreat
open Go.RowKit

theorem Tryz.info84 : (Tryz.prog.info? 84).map (fun i => (i.zero, i.size, i.bytes)) = some (some (.agg #[.int .i64 0, .int .u64 0, .int .i64 0]), 3, 24) := by kernel_rfl
def nwCells (n : Nw) : List Value := [.int .i64 n.kind, .int .u64 n.version, .int .i64 n.address]
theorem length_nwCells (l : List Nw) : (l.flatMap nwCells).length = l.length * 3 := by
  induction l with
  | nil => rfl
  | cons x l ih => rw [List.flatMap_cons, List.length_append, ih, List.length_cons]; simp [nwCells]; omega
theorem nw_cells (l : List Nw) (i : Nat) (n : Nw) (h : l[i]? = some n) :
    (l.flatMap nwCells)[i * 3]? = some (.int .i64 n.kind) ∧ (l.flatMap nwCells)[i * 3 + 1]? = some (.int .u64 n.version) ∧ (l.flatMap nwCells)[i * 3 + 2]? = some (.int .i64 n.address) := by
  induction l generalizing i with
  | nil => simp at h
  | cons x l ih =>
    rw [List.flatMap_cons]
    cases i with
    | zero => simp at h; subst h; simp [nwCells]
    | succ i =>
      rw [List.getElem?_cons_succ] at h
      have e : (nwCells x).length = 3 := rfl
      rw [List.getElem?_append_right (by rw [e]; omega), List.getElem?_append_right (by rw [e]; omega), List.getElem?_append_right (by rw [e]; omega), e]
      have := ih i h
      rw [show (i + 1) * 3 - 3 = i * 3 from by omega, show (i + 1) * 3 + 1 - 3 = i * 3 + 1 from by omega, show (i + 1) * 3 + 2 - 3 = i * 3 + 2 from by omega]
      exact this
theorem NwRow.own {w : World} {B g c : Nat} {l : List Nw} (h : w.ownsRow B 84 3 (.slice (some ⟨g, 0, none⟩) l.length c) l.length (l.flatMap nwCells)) (h1 : 1 ≤ l.length) : B ≤ g ∧ ∃ cur, NwRow w g l cur := by
  rcases h.2 with ⟨hn, _⟩ | ⟨g', cap, cur, hv, hb, hg, hc, hm, hs, ht⟩
  · simp at hn
  · have e : g = g' := by simpa using (Value.slice.inj hv).1
    subst e
    refine ⟨hb, cur, hg, fun i b hi => ?_⟩
    have hlt := (List.getElem?_eq_some_iff.1 hi).1
    have key : ∀ j, j < l.length * 3 → cur[j]? = (l.flatMap nwCells)[j]? := by
      intro j hj
      rw [← ht, List.getElem?_take, if_pos hj]
      simp
    obtain ⟨h0, h1, h2⟩ := nw_cells l i b hi
    exact ⟨by rw [key _ (by omega)]; exact h0, by rw [key _ (by omega)]; exact h1, by rw [key _ (by omega)]; exact h2⟩
/-- Bands as 'make' leaves them. -/
theorem bandsMade (w : World) (n : Nat) : BandsAt (w.alloc (.cells (madeCells #[.int .i64 0, .int .i64 0, .int .u64 0, .int .u64 0] (n * 4)) 76)) (.slice (some ⟨w.heap.size, 0, none⟩) n n) (List.replicate n .zero) := by
  refine ⟨w.heap.size, n, _, by rw [List.length_replicate], Blk.new _ _ _, fun i b hb => ?_⟩
  rw [List.getElem?_replicate] at hb
  split at hb
  · rename_i hlt
    cases hb
    refine ⟨?_, ?_, ?_, ?_⟩
    · simp only [madeCells, Array.getElem?_map, Array.getElem?_range]
      rw [if_pos (by omega)]
      simp [Band.zero]
    · simp only [madeCells, Array.getElem?_map, Array.getElem?_range]
      rw [if_pos (by omega)]
      simp [Band.zero, Nat.add_mod]
    · simp only [madeCells, Array.getElem?_map, Array.getElem?_range]
      rw [if_pos (by omega)]
      simp [Band.zero, Nat.add_mod]
    · simp only [madeCells, Array.getElem?_map, Array.getElem?_range]
      rw [if_pos (by omega)]
      simp [Band.zero, Nat.add_mod]
  · cases hb
def Drv.new (key : Int) (n bands : Nat) : Drv := ⟨key, List.replicate n .none, List.replicate bands .zero, 0, 0⟩
theorem nones_snoc (k : Nat) : (List.replicate (k + 1) Nw.none).flatMap nwCells = (List.replicate k Nw.none).flatMap nwCells ++ nwCells .none := by
  rw [List.replicate_succ', List.flatMap_append]; simp

set_option maxRecDepth 8000 in
set_option maxHeartbeats 4000000 in
theorem vcreate {B : Nat} {w : World} {ad ap : Nat} {d : Dsk} (h : DskAt B w ad ap d) (hg : d.geo.Ok) (key : Int) (n : Nat) (h1 : 1 ≤ n) (hr : n + 3 * d.geo.band ≤ d.geo.bands * d.geo.band) :
    Calls Tryz.prog 56 #[.pointer (some ⟨ad, 0, none⟩), .int .u64 key, .int .i64 n] w fun e w' => ∃ vd, e = .returned (.tuple #[.pointer (some ⟨vd, 0, none⟩), .int .i64 0]) ∧ DrvAt w.heap.size w' vd ad (Drv.new key n d.geo.bands) ∧ Ext w w' := by
  have D := Lib.hid (dgeo h)
  have hbb := hg.bb_le
  have hb1 := hg.band1
  have hn : n ≤ 120 := by omega
  have hm : ((d.geo.bands : Int) - 3) * d.geo.band = ((d.geo.bands * d.geo.band : Nat) : Int) - 3 * d.geo.band := by rw [Int.sub_mul, Int.natCast_mul]
  have hm0 : (0 : Int) ≤ ((d.geo.bands : Int) - 3) * d.geo.band := by rw [hm]; omega
  have hm1 : ((d.geo.bands : Int) - 3) * d.geo.band ≤ 120 := by rw [hm]; omega
  have hm2 : (n : Int) ≤ ((d.geo.bands : Int) - 3) * d.geo.band := by rw [hm]; omega
  have hbs := hg.bands
  have hbs1 := hg.bands1
  have hn1 : (1 : Int) ≤ (n : Int) := by omega
  have hn2 : (n : Int) ≤ 120 := by omega
  have hbs2 : (d.geo.bands : Int) ≤ 64 := by omega
  have hbs3 : (1 : Int) ≤ (d.geo.bands : Int) := by omega
  have G := fun w => gband d.geo hg w
  obtain ⟨i0, hi, hz0, hz1, hz2⟩ := info_parts Tryz.info76
  have mk := fun w => run_make (P := Tryz.prog) w 35 76 i0 (.agg #[.int .i64 0, .int .i64 0, .int .u64 0, .int .u64 0]) Tryz.underlying35 hi hz0 .i64 .i64 (d.geo.bands : Int) (d.geo.bands : Int) (by omega) (by omega) (by rw [hz2]; omega) (by omega)
  rw [hz1] at mk
  simp only [Int.toNat_natCast, Value.cells] at mk
  clear hi hz0 hz1 hz2 i0
  obtain ⟨i0, hi, hz0, hz1, hz2⟩ := info_parts Tryz.info84
  have hd1 : decide ((n : Int) < 1) = false := by simp; omega
  have hd2 : decide ((65536 : Int) < (n : Int)) = false := by simp; omega
  have hw : wrap64 (((d.geo.bands : Int) - 3) * d.geo.band) = ((d.geo.bands : Int) - 3) * d.geo.band := by unfold wrap64; omega
  have hd3 : decide (((d.geo.bands : Int) - 3) * d.geo.band < (n : Int)) = false := by simp; omega
  clear h hm hg hbb hb1 hr hbs hbs1 hm2 hn1
  unfold geoV at *
  go_enter Tryz.func56, Tryz.ntmps56
  go_wp2_with fail
  refine D.out.mono ?_
  rintro e w1 ⟨rfl, hx⟩
  go_wp2_with fail
  refine wp_region_ext (by kernel_rfl) (by kernel_rfl) ?_
  repeat (
    refine wpQuiet_step (fun K hK => ?_)
    first
      | (rw [if_neg (by exact Bool.false_ne_true)]; refine hK _ ?_; clear hK K; simp only [Act.put, List.setIfInBounds_toArray, List.set_cons_succ, List.set_cons_zero])
      | (rw [if_pos (by rfl)]
         refine qx_val (v := ?_) (fun w' hw' => ?_) (hK _ ?_)
         rotate_left
         · obtain ⟨hc', -, hs'⟩ := hw'.facts
           go_simp
           try go_bits
           rfl
         clear hK K
         simp only [Act.put, List.setIfInBounds_toArray, List.set_cons_succ, List.set_cons_zero])
      | (rw [if_pos (by rfl)]
         refine qx_call (v := ?_) (f := ?_) (args := ?_) (fun w' => ?_) (fun w' hw' => ?_) (hK _ ?_)
         rotate_left 3
         · go_simp
           constructor <;> rfl
         · with_reducible exact G _
         clear hK K
         simp only [Act.put, List.setIfInBounds_toArray, List.set_cons_succ, List.set_cons_zero]))
  refine wpQuiet_nil ?_
  intro w2 hx2
  have p1 : w2.cell? ⟨w1.heap.size, 1, none⟩ = some (.int .i64 d.geo.bands) := ((Blk.new w1 #[.int .i64 d.geo.random, .int .i64 d.geo.bands, .int .i64 d.geo.tracks, .int .i64 d.geo.sectors, .int .i64 d.geo.overlap] 42).ext hx2).cell 1 rfl
  have l1 := cell_lt p1
  have HX2 := Lib.hid ((hx.alloc _).trans hx2)
  have hge : w.heap.size ≤ w2.heap.size := HX2.out.size
  clear hx hx2 hd1 hd2 hd3 hm0 hm1 G D hw
  go_wp2_with fail
  have HBV : Hid (Blk ((w2.alloc (.cells (madeCells #[.int .i64 0, .int .i64 0, .int .u64 0, .int .u64 0] (d.geo.bands * 4)) 76)).alloc (.cells #[.pointer (some ⟨ad, 0, none⟩), .int .u64 key, .slice none 0 0, .slice (some ⟨w2.heap.size, 0, none⟩) d.geo.bands d.geo.bands, .int .u64 0, .int .i64 0] 87)) (w2.heap.size + 1) 87 #[.pointer (some ⟨ad, 0, none⟩), .int .u64 key, .slice none 0 0, .slice (some ⟨w2.heap.size, 0, none⟩) d.geo.bands d.geo.bands, .int .u64 0, .int .i64 0]) := Lib.hid (by
    have := Blk.new (w2.alloc (.cells (madeCells #[.int .i64 0, .int .i64 0, .int .u64 0, .int .u64 0] (d.geo.bands * 4)) 76)) #[.pointer (some ⟨ad, 0, none⟩), .int .u64 key, .slice none 0 0, .slice (some ⟨w2.heap.size, 0, none⟩) d.geo.bands d.geo.bands, .int .u64 0, .int .i64 0] 87
    rw [World.size_alloc] at this; exact this)
  have HBD : Hid (BandsAt ((w2.alloc (.cells (madeCells #[.int .i64 0, .int .i64 0, .int .u64 0, .int .u64 0] (d.geo.bands * 4)) 76)).alloc (.cells #[.pointer (some ⟨ad, 0, none⟩), .int .u64 key, .slice none 0 0, .slice (some ⟨w2.heap.size, 0, none⟩) d.geo.bands d.geo.bands, .int .u64 0, .int .i64 0] 87)) (.slice (some ⟨w2.heap.size, 0, none⟩) d.geo.bands d.geo.bands) (List.replicate d.geo.bands .zero)) :=
    Lib.hid ((bandsMade w2 d.geo.bands).keep ((Ext.refl _).alloc _) (by simp))
  have HXA : Hid (Ext w ((w2.alloc (.cells (madeCells #[.int .i64 0, .int .i64 0, .int .u64 0, .int .u64 0] (d.geo.bands * 4)) 76)).alloc (.cells #[.pointer (some ⟨ad, 0, none⟩), .int .u64 key, .slice none 0 0, .slice (some ⟨w2.heap.size, 0, none⟩) d.geo.bands d.geo.bands, .int .u64 0, .int .i64 0] 87))) := Lib.hid ((HX2.out.alloc _).alloc _)
  clear HX2 p1 l1 mk
  generalize (w2.alloc (.cells (madeCells #[.int .i64 0, .int .i64 0, .int .u64 0, .int .u64 0] (d.geo.bands * 4)) 76)).alloc (.cells #[.pointer (some ⟨ad, 0, none⟩), .int .u64 key, .slice none 0 0, .slice (some ⟨w2.heap.size, 0, none⟩) d.geo.bands d.geo.bands, .int .u64 0, .int .i64 0] 87) = W3 at *
  generalize w2.heap.size = gb at *
  go_loopw [40] (fun i wr => ∃ (k : Nat) (ev : Value), k ≤ n ∧ i = .int .i64 k ∧ Blk wr (gb + 1) 87 #[.pointer (some ⟨ad, 0, none⟩), .int .u64 key, ev, .slice (some ⟨gb, 0, none⟩) d.geo.bands d.geo.bands, .int .u64 0, .int .i64 0] ∧ wr.ownsRow w.heap.size 84 3 ev k ((List.replicate k Nw.none).flatMap nwCells) ∧ BandsAt wr (.slice (some ⟨gb, 0, none⟩) d.geo.bands d.geo.bands) (List.replicate d.geo.bands .zero) ∧ Ext w wr) (fun i _ => n - (intOf i).toNat)
  case atStart => exact ⟨0, .slice none 0 0, Nat.zero_le _, rfl, HBV.out, World.ownsRow_nil _ _ _ _, HBD.out, HXA.out⟩
  case round =>
    obtain ⟨k, ev, hk, rfl, hbv, hown, hbd, hx⟩ := hrel
    clear HBV HBD HXA
    have v2 : wr.cell? ⟨gb + 1, 2, none⟩ = some ev := hbv.cell 2 rfl
    have vl := hbv.lt
    by_cases hlt : k < n
    · have hlt2 : (k : Int) < (n : Int) := by omega
      have hxb : Ext wr (wr.alloc (.cells #[.int .i64 0, .int .u64 0, .int .i64 (-1)] 84)) := (Ext.refl _).alloc _
      have ho2 := hown.alloc (.cells #[.int .i64 0, .int .u64 0, .int .i64 (-1)] 84)
      have HBV := Lib.hid (hbv.ext hxb)
      have HBD := Lib.hid (hbd.keep hxb (by simp))
      have HX := Lib.hid (hx.trans hxb)
      have HO := Lib.hid ho2
      clear hbv hown hbd hx hxb ho2
      go_wp2_with (at_builtin; refine wpList_append_own _ rfl _ _ 85 rfl w.heap.size 84 i0 (.agg #[.int .i64 0, .int .u64 0, .int .i64 0]) 3 24 Tryz.underlying85 hi hz0 hz1 hz2 rfl (by decide) _ _ _ rfl HO.out ⟨wr.heap.size, 0, none⟩ 1 1 [.int .i64 0, .int .u64 0, .int .i64 (-1)] rfl rfl ?c1 ?c2 ?c3 ?c4 ?c5 ?_)
      case c1 =>
        intro j u hj
        match j, hj with
        | 0, hj => simp at hj; subst hj; simp [Addr.add]
        | 1, hj => simp at hj; subst hj; simp [Addr.add]
        | 2, hj => simp at hj; subst hj; simp [Addr.add]
      case c2 => intro u hu; simp at hu; rcases hu with rfl | rfl | rfl <;> rfl
      case c3 => unfold maxLen; omega
      case c4 => omega
      case c5 => simp; omega
      · intro v' wa hown' hgrow _
        obtain ⟨g', c', hv'⟩ : ∃ g c, v' = .slice (some ⟨g, 0, none⟩) (k + 1) c := by
          rcases ownsRow_shape hown' with ⟨_, h0⟩ | ⟨q, c', h, _⟩
          · exact absurd h0 (Nat.succ_ne_zero k)
          · exact ⟨q, c', h⟩
        subst hv'
        have hk2 := own_keep HO.out hgrow
        have hxa : Ext w wa := HX.out.grown hgrow (fun b hb => .inl (by have := (HO.out.lt b hb).1; omega))
        have hbv2 := HBV.out.keep hk2 (by simp)
        have hbd2 := HBD.out.keep hk2 (by simp)
        have v2c : wa.cell? ⟨gb + 1, 2, none⟩ = some ev := hbv2.cell 2 rfl
        have v2' : wa.frozen? ⟨gb + 1, 2, none⟩ = false := hbv2.free 2
        have vl2 := hbv2.lt
        have ho3 : wa.ownsRow w.heap.size 84 3 (.slice (some ⟨g', 0, none⟩) (k + 1) c') (k + 1) ((List.replicate (k + 1) Nw.none).flatMap nwCells) := by rw [nones_snoc]; exact hown'
        have k3 : Keep 0 [87] wa (wa.setCell ⟨gb + 1, 2, none⟩ (.slice (some ⟨g', 0, none⟩) (k + 1) c')) := (Keep.refl _ _ _).set hbv2 (Nat.zero_le _) (by simp) _ _
        have HF : Hid (Blk (wa.setCell ⟨gb + 1, 2, none⟩ (.slice (some ⟨g', 0, none⟩) (k + 1) c')) (gb + 1) 87 #[.pointer (some ⟨ad, 0, none⟩), .int .u64 key, .slice (some ⟨g', 0, none⟩) (k + 1) c', .slice (some ⟨gb, 0, none⟩) d.geo.bands d.geo.bands, .int .u64 0, .int .i64 0] ∧ (wa.setCell ⟨gb + 1, 2, none⟩ (.slice (some ⟨g', 0, none⟩) (k + 1) c')).ownsRow w.heap.size 84 3 (.slice (some ⟨g', 0, none⟩) (k + 1) c') (k + 1) ((List.replicate (k + 1) Nw.none).flatMap nwCells) ∧ BandsAt (wa.setCell ⟨gb + 1, 2, none⟩ (.slice (some ⟨g', 0, none⟩) (k + 1) c')) (.slice (some ⟨gb, 0, none⟩) d.geo.bands d.geo.bands) (List.replicate d.geo.bands .zero) ∧ Ext w (wa.setCell ⟨gb + 1, 2, none⟩ (.slice (some ⟨g', 0, none⟩) (k + 1) c'))) :=
          Lib.hid ⟨hbv2.set 2 _, ownsRow_keep ho3 k3 (by simp), hbd2.keep k3 (by simp), hxa.set_new (by omega) 2 _⟩
        clear hown' hgrow hk2 hxa hbv2 hbd2 ho3 k3 HBV HBD HX HO v2 vl
        go_wp2_with fail
        go_roundw
        case rel => exact ⟨k + 1, _, by omega, by go_num, HF.out⟩
        case measure => simp [intOf]; omega
    · have hkn : k = n := by omega
      subst hkn
      have HF : Hid (∃ vd, Value.pointer (some ⟨gb + 1, 0, none⟩) = .pointer (some ⟨vd, 0, none⟩) ∧ DrvAt w.heap.size wr vd ad (Drv.new key k d.geo.bands) ∧ Ext w wr) := Lib.hid (by
        rcases ownsRow_shape hown with ⟨_, h0⟩ | ⟨q, c, he, hq⟩
        · omega
        · subst he
          have hl : (List.replicate k Nw.none).length = k := List.length_replicate ..
          have ho2 : wr.ownsRow w.heap.size 84 3 (.slice (some ⟨q, 0, none⟩) (List.replicate k Nw.none).length c) (List.replicate k Nw.none).length ((List.replicate k Nw.none).flatMap nwCells) := by rw [hl]; exact hown
          obtain ⟨_, hrow⟩ := NwRow.own ho2 (by rw [hl]; exact h1)
          refine ⟨gb + 1, rfl, ⟨q, c, _, ⟨?_, by omega, hrow, hq, hbd⟩⟩, hx⟩
          unfold drvCells Drv.new
          dsimp only
          rw [hl]
          exact hbv)
      clear hbv hown hbd hx
      go_wp2_with fail
      go_ret2
      obtain ⟨vd', e1, h2⟩ := HF.out
      rw [← (Value.pointer.inj e1 |> Option.some.inj |> Addr.mk.inj).1] at h2
      exact ⟨gb + 1, rfl, h2⟩
end Go.Proofs.YthhcooljjhdjbaaGreat
