/- Contract: an encoding is decoded. -/
import Derived.Test.YthhcooljjhdjbaaGreatKW21
set_option linter.unusedVariables false
set_option linter.unusedSimpArgs false
namespace Go.Proofs.YthhcooljjhdjbaaGreat
open Go.RowKit

theorem BytesIn.ext {w w' : World} {v : Value} {l : List UInt8} (h : BytesIn w v l) (hx : Ext w w') : BytesIn w' v l := by
  rcases h with h | ⟨b, off, cap, hv, h⟩
  · exact .inl h
  · exact .inr ⟨b, off, cap, hv, fun i c hc => Keep.cell hx (h i c hc)⟩
theorem BytesIn.sub {w : World} {b off : Nat} {l : List UInt8} (h : ∀ (i : Nat) (c : UInt8), l[i]? = some c → w.cell? ⟨b, off + i, none⟩ = some (.int .u8 (c.toNat : Int))) (k n cap : Nat) (hk : k + n ≤ l.length) :
    BytesIn w (.slice (some ⟨b, off + k, none⟩) n cap) ((l.drop k).take n) := by
  have hl : ((l.drop k).take n).length = n := by simp; omega
  refine .inr ⟨b, off + k, cap, by rw [hl], fun i c hc => ?_⟩
  rw [List.getElem?_take] at hc
  split at hc
  · rw [List.getElem?_drop] at hc
    rw [Nat.add_assoc]
    exact h _ _ hc
  · cases hc
def DecPost (w : World) (e : Ent) (t : Int) (r : Ending) (w' : World) : Prop := r = .returned (.tuple #[entV e, .int .u64 t, .int .i64 0]) ∧ Ext w w'

theorem quietExt {P : Program} {f : FuncId} {args : Array Value} {w : World} {v : Value} (h : Calls P f args w fun e w' => e = .returned v ∧ w' = w) : Calls P f args w fun e w' => e = .returned v ∧ Ext w w' :=
  h.mono fun e w' ⟨h1, h2⟩ => ⟨h1, h2 ▸ Ext.refl _⟩
theorem esub {w : World} {b off : Nat} {out : List UInt8} (h : ∀ (i : Nat) (c : UInt8), out[i]? = some c → w.cell? ⟨b, off + i, none⟩ = some (.int .u8 (c.toNat : Int))) (k n cap : Nat) (hk : k + n ≤ out.length) (h1 : 1 ≤ n) (h8 : n ≤ 8) {x : Int} (hx : getFold ((out.drop k).take n) n = x) :
    Calls Tryz.prog 100 #[.slice (some ⟨b, off + k, none⟩) n cap] w fun e w' => e = .returned (.int .u64 x) ∧ w' = w := by
  have hl : ((out.drop k).take n).length = n := by simp; omega
  have := eget (BytesIn.sub h k n cap hk) (by omega) (by omega)
  rw [hl, hx] at this
  exact this
theorem entStored {w w1 : World} {q : Nat} {z0 z1 z2 z3 z4 z5 z6 z7 z8 z9 z10 : Value} (hb : Blk w1 q 89 #[z0, z1, z2, z3, z4, z5, z6, z7, z8, z9, z10]) (hx : Ext w w1) (hq : w.heap.size ≤ q) (k bl v : Int) (d0 d1 d2 d3 d4 d5 d6 d7 : UInt8) :
    Blk ((((((((((((w1.setCell ⟨q, 0, none⟩ (.int .i64 k)).setCell ⟨q, 1, none⟩ (.int .i64 bl)).setCell ⟨q, 2, none⟩ (.int .u64 v)).setCell ⟨q, 3, none⟩ (.int .u8 (d0.toNat : Int))).setCell ⟨q, 4, none⟩ (.int .u8 (d1.toNat : Int))).setCell ⟨q, 5, none⟩ (.int .u8 (d2.toNat : Int))).setCell ⟨q, 6, none⟩ (.int .u8 (d3.toNat : Int))).setCell ⟨q, 7, none⟩ (.int .u8 (d4.toNat : Int))).setCell ⟨q, 8, none⟩ (.int .u8 (d5.toNat : Int))).setCell ⟨q, 9, none⟩ (.int .u8 (d6.toNat : Int))).setCell ⟨q, 10, none⟩ (.int .u8 (d7.toNat : Int))).drew) q 89 (entCells ⟨k, bl, v, [d0, d1, d2, d3, d4, d5, d6, d7]⟩) ∧ Ext w ((((((((((((w1.setCell ⟨q, 0, none⟩ (.int .i64 k)).setCell ⟨q, 1, none⟩ (.int .i64 bl)).setCell ⟨q, 2, none⟩ (.int .u64 v)).setCell ⟨q, 3, none⟩ (.int .u8 (d0.toNat : Int))).setCell ⟨q, 4, none⟩ (.int .u8 (d1.toNat : Int))).setCell ⟨q, 5, none⟩ (.int .u8 (d2.toNat : Int))).setCell ⟨q, 6, none⟩ (.int .u8 (d3.toNat : Int))).setCell ⟨q, 7, none⟩ (.int .u8 (d4.toNat : Int))).setCell ⟨q, 8, none⟩ (.int .u8 (d5.toNat : Int))).setCell ⟨q, 9, none⟩ (.int .u8 (d6.toNat : Int))).setCell ⟨q, 10, none⟩ (.int .u8 (d7.toNat : Int))).drew) := by
  constructor
  · have := ((((((((((hb.set 0 (.int .i64 k)).set 1 (.int .i64 bl)).set 2 (.int .u64 v)).set 3 (.int .u8 (d0.toNat : Int))).set 4 (.int .u8 (d1.toNat : Int))).set 5 (.int .u8 (d2.toNat : Int))).set 6 (.int .u8 (d3.toNat : Int))).set 7 (.int .u8 (d4.toNat : Int))).set 8 (.int .u8 (d5.toNat : Int))).set 9 (.int .u8 (d6.toNat : Int))).set 10 (.int .u8 (d7.toNat : Int))
    rw [entCells8]
    simp only [List.setIfInBounds_toArray, List.set_cons_succ, List.set_cons_zero] at this
    exact this.drew
  · exact (Keep.set_new (Keep.set_new (Keep.set_new (Keep.set_new (Keep.set_new (Keep.set_new (Keep.set_new (Keep.set_new (Keep.set_new (Keep.set_new (Keep.set_new hx hq _ _) hq _ _) hq _ _) hq _ _) hq _ _) hq _ _) hq _ _) hq _ _) hq _ _) hq _ _) hq _ _).drew
set_option maxRecDepth 8000 in
set_option maxHeartbeats 20000000 in
theorem edecode {w : World} {b off cap : Nat} {out : List UInt8} {e : Ent} {t : Int} (h : ∀ (i : Nat) (c : UInt8), out[i]? = some c → w.cell? ⟨b, off + i, none⟩ = some (.int .u8 (c.toNat : Int))) (hc : 37 ≤ cap) (hp : EncParts out e t) (he : e.Ok) :
    Calls Tryz.prog 69 #[.slice (some ⟨b, off, none⟩) 37 cap] w (DecPost w e t) := by
  obtain ⟨hl, h1, h2, h3, h4, h5, h6⟩ := hp
  have H : ∀ w', Ext w w' → ∀ (i : Nat) (c : UInt8), out[i]? = some c → w'.cell? ⟨b, off + i, none⟩ = some (.int .u8 (c.toNat : Int)) := fun w' hx i c hc => Keep.cell hx (h i c hc)
  have G1 := fun w' hx c => quietExt (esub (H w' hx) 29 8 c (by omega) (by decide) (by decide) h1)
  have G2 := fun w' hx c => esub (H w' hx) 1 4 c (by omega) (by decide) (by decide) h3
  have G3 := fun w' hx c => esub (H w' hx) 5 8 c (by omega) (by decide) (by decide) h4
  have G4 := fun w' hx c => esub (H w' hx) 21 8 c (by omega) (by decide) (by decide) h6
  have S1 : ∀ w', Ext w w' → ∀ c, Calls Tryz.prog 101 #[.slice (some ⟨b, off, none⟩) 29 c] w' fun e w2 => e = .returned (.int .u64 (crcSum (out.take 29))) ∧ Ext w' w2 := by
    intro w' hx c
    have hh := BytesIn.sub (H w' hx) 0 29 c (by omega)
    rw [List.drop_zero, Nat.add_zero] at hh
    exact quietExt (csum hh (by simp; omega))
  have HH := Lib.hid h
  clear h H h1 h3 h4 h6
  have H0 : w.cell? ⟨b, off, none⟩ = some (.int .u8 e.kind) := by
    rw [← h2]
    refine HH.out 0 _ ?_
    rw [List.getD_eq_getElem?_getD, List.getElem?_eq_getElem (by omega)]; rfl
  have HV := Lib.hid (evalid e he)
  obtain ⟨k, bl, v, l⟩ := e
  obtain ⟨d0, d1, d2, d3, d4, d5, d6, d7, hd⟩ := len8 he.len
  have hd : l = [d0, d1, d2, d3, d4, d5, d6, d7] := hd
  subst hd
  have h5 : (out.drop 13).take 8 = [d0, d1, d2, d3, d4, d5, d6, d7] := h5
  have D : ∀ i c, [d0, d1, d2, d3, d4, d5, d6, d7][i]? = some c → w.cell? ⟨b, off + (13 + i), none⟩ = some (.int .u8 (c.toNat : Int)) := by
    intro i c hi
    have hi8 := (List.getElem?_eq_some_iff.1 hi).1
    refine HH.out (13 + i) c ?_
    rw [← h5, List.getElem?_take, if_pos (by simpa using hi8), List.getElem?_drop] at hi
    exact hi
  have D0 := D 0 _ rfl
  have D1 := D 1 _ rfl
  have D2 := D 2 _ rfl
  have D3 := D 3 _ rfl
  have D4 := D 4 _ rfl
  have D5 := D 5 _ rfl
  have D6 := D 6 _ rfl
  have D7 := D 7 _ rfl
  have wk : IntKind.i64.wrap k = k := by rcases he.kind with h | ⟨h, _⟩ <;> (have h : k = _ := h; rw [h]; rfl)
  have wb : IntKind.i64.wrap bl = bl := by have h0 := he.b0; have h1 := he.b1; simp only at h0 h1; rw [IntKind.wrap_i64]; omega
  have hat : ∀ w', (Instr.arrayAt 27 (.slice (some ⟨b, off + 13, none⟩) 8 (cap - 13))).run Tryz.prog w' = .ok (.pointer (some ⟨b, off + 13, none⟩)) w' := fun w' => run_arrayAt w' 27 _ 8 _ 8 (cap - 13) Tryz.underlying27 (Nat.le_refl _)
  clear D h2 h5 he
  simp only at G2 G3
  simp only at H0
  generalize crcSum (out.take 29) = cs at *
  have HG1 := Lib.hid G1
  have HG2 := Lib.hid G2
  have HG3 := Lib.hid G3
  have HG4 := Lib.hid G4
  have HS1 := Lib.hid S1
  clear G1 G2 G3 G4 S1
  unfold DecPost entV at *
  rw [entCells8] at *
  have m5 : (5 : Int) ≤ (cap : Int) := by omega
  have m13 : (13 : Int) ≤ (cap : Int) := by omega
  have m21 : (21 : Int) ≤ (cap : Int) := by omega
  have m29 : (29 : Int) ≤ (cap : Int) := by omega
  have n29 : ¬ cap = 29 := by omega
  have n1 : ¬ cap = 1 := by omega
  have n5 : ¬ cap = 5 := by omega
  have n13 : ¬ cap = 13 := by omega
  have n21 : ¬ cap = 21 := by omega
  go_enter Tryz.func69, Tryz.ntmps69
  go_wp2_with fail
  have hx0 : Ext w (w.alloc (.cells #[.int .i64 0, .int .i64 0, .int .u64 0, .int .u8 0, .int .u8 0, .int .u8 0, .int .u8 0, .int .u8 0, .int .u8 0, .int .u8 0, .int .u8 0] 89)) := (Ext.refl w).alloc _
  have HX0 := Lib.hid hx0
  clear hx0
  refine wp_region_ext (by kernel_rfl) (by kernel_rfl) ?_
  repeat (
    refine wpQuiet_step (fun K hK => ?_)
    first
      | (rw [if_neg (by exact Bool.false_ne_true)]; refine hK _ ?_; clear hK K; simp only [Act.put, List.setIfInBounds_toArray, List.set_cons_succ, List.set_cons_zero])
      | (rw [if_pos (by rfl)]
         refine qx_val (v := ?_) (fun w' hw' => ?_) (hK _ ?_)
         rotate_left
         · obtain ⟨hc', -, hs'⟩ := hw'.facts
           go_simp
           try go_bits
           rfl
         clear hK K
         simp only [Act.put, List.setIfInBounds_toArray, List.set_cons_succ, List.set_cons_zero])
      | (rw [if_pos (by rfl)]
         refine qx_call (v := ?_) (f := ?_) (args := ?_) (fun w' => ?_) (fun w' hw' => ?_) (hK _ ?_)
         rotate_left 3
         · go_simp
           constructor <;> rfl
         · with_reducible exact HG1.out _ (HX0.out.trans (by assumption)) _
         clear hK K
         simp only [Act.put, List.setIfInBounds_toArray, List.set_cons_succ, List.set_cons_zero])
      | (rw [if_pos (by rfl)]
         refine qx_call (v := ?_) (f := ?_) (args := ?_) (fun w' => ?_) (fun w' hw' => ?_) (hK _ ?_)
         rotate_left 3
         · go_simp
           constructor <;> rfl
         · with_reducible exact HS1.out _ (HX0.out.trans (by assumption)) _
         clear hK K
         simp only [Act.put, List.setIfInBounds_toArray, List.set_cons_succ, List.set_cons_zero]))
  refine wpQuiet_nil ?_
  intro w1 hx1
  have HB1 := Lib.hid ((Blk.new w #[.int .i64 0, .int .i64 0, .int .u64 0, .int .u8 0, .int .u8 0, .int .u8 0, .int .u8 0, .int .u8 0, .int .u8 0, .int .u8 0, .int .u8 0] 89).ext hx1)
  have HX1 := Lib.hid (HX0.out.trans hx1)
  have q := HB1.out.lt
  clear hx1
  have E0 : w1.cell? ⟨b, off + 13, none⟩ = some (.int .u8 (d0.toNat : Int)) := Keep.cell HX1.out D0
  have E1 : w1.cell? ⟨b, off + 14, none⟩ = some (.int .u8 (d1.toNat : Int)) := Keep.cell HX1.out D1
  have E2 : w1.cell? ⟨b, off + 15, none⟩ = some (.int .u8 (d2.toNat : Int)) := Keep.cell HX1.out D2
  have E3 : w1.cell? ⟨b, off + 16, none⟩ = some (.int .u8 (d3.toNat : Int)) := Keep.cell HX1.out D3
  have E4 : w1.cell? ⟨b, off + 17, none⟩ = some (.int .u8 (d4.toNat : Int)) := Keep.cell HX1.out D4
  have E5 : w1.cell? ⟨b, off + 18, none⟩ = some (.int .u8 (d5.toNat : Int)) := Keep.cell HX1.out D5
  have E6 : w1.cell? ⟨b, off + 19, none⟩ = some (.int .u8 (d6.toNat : Int)) := Keep.cell HX1.out D6
  have E7 : w1.cell? ⟨b, off + 20, none⟩ = some (.int .u8 (d7.toNat : Int)) := Keep.cell HX1.out D7
  have Ek : w1.cell? ⟨b, off, none⟩ = some (.int .u8 k) := Keep.cell HX1.out H0
  have g0 : w1.cell? ⟨w.heap.size, 0, none⟩ = some (.int .i64 0) := HB1.out.cell 0 rfl
  have f0 : w1.frozen? ⟨w.heap.size, 0, none⟩ = false := HB1.out.free 0
  have g1 : w1.cell? ⟨w.heap.size, 1, none⟩ = some (.int .i64 0) := HB1.out.cell 1 rfl
  have f1 : w1.frozen? ⟨w.heap.size, 1, none⟩ = false := HB1.out.free 1
  have g2 : w1.cell? ⟨w.heap.size, 2, none⟩ = some (.int .u64 0) := HB1.out.cell 2 rfl
  have f2 : w1.frozen? ⟨w.heap.size, 2, none⟩ = false := HB1.out.free 2
  have g3 : w1.cell? ⟨w.heap.size, 3, none⟩ = some (.int .u8 0) := HB1.out.cell 3 rfl
  have f3 : w1.frozen? ⟨w.heap.size, 3, none⟩ = false := HB1.out.free 3
  have g4 : w1.cell? ⟨w.heap.size, 4, none⟩ = some (.int .u8 0) := HB1.out.cell 4 rfl
  have f4 : w1.frozen? ⟨w.heap.size, 4, none⟩ = false := HB1.out.free 4
  have g5 : w1.cell? ⟨w.heap.size, 5, none⟩ = some (.int .u8 0) := HB1.out.cell 5 rfl
  have f5 : w1.frozen? ⟨w.heap.size, 5, none⟩ = false := HB1.out.free 5
  have g6 : w1.cell? ⟨w.heap.size, 6, none⟩ = some (.int .u8 0) := HB1.out.cell 6 rfl
  have f6 : w1.frozen? ⟨w.heap.size, 6, none⟩ = false := HB1.out.free 6
  have g7 : w1.cell? ⟨w.heap.size, 7, none⟩ = some (.int .u8 0) := HB1.out.cell 7 rfl
  have f7 : w1.frozen? ⟨w.heap.size, 7, none⟩ = false := HB1.out.free 7
  have g8 : w1.cell? ⟨w.heap.size, 8, none⟩ = some (.int .u8 0) := HB1.out.cell 8 rfl
  have f8 : w1.frozen? ⟨w.heap.size, 8, none⟩ = false := HB1.out.free 8
  have g9 : w1.cell? ⟨w.heap.size, 9, none⟩ = some (.int .u8 0) := HB1.out.cell 9 rfl
  have f9 : w1.frozen? ⟨w.heap.size, 9, none⟩ = false := HB1.out.free 9
  have g10 : w1.cell? ⟨w.heap.size, 10, none⟩ = some (.int .u8 0) := HB1.out.cell 10 rfl
  have f10 : w1.frozen? ⟨w.heap.size, 10, none⟩ = false := HB1.out.free 10
  clear D0 D1 D2 D3 D4 D5 D6 D7 H0
  go_upto_region 5 with fail
  go_cut [] (fun wx => Blk wx w.heap.size 89 (entCells ⟨k, bl, v, [d0, d1, d2, d3, d4, d5, d6, d7]⟩) ∧ Ext w wx)
  case first =>
    go_region_with (first
      | (go_at_call 100; (first | (with_reducible refine Calls.mono (HG2.out _ HX1.out.drew _) ?_) | (with_reducible refine Calls.mono (HG3.out _ HX1.out.drew _) ?_)); rintro e w2 ⟨rfl, rfl⟩))
    all_goals (go_wp2_with fail; go_meet)
    all_goals (case rel => exact entStored HB1.out HX1.out (Nat.le_refl _) k bl v d0 d1 d2 d3 d4 d5 d6 d7)
  case rest =>
    obtain ⟨hb2, hx2⟩ := hcut
    clear E0 E1 E2 E3 E4 E5 E6 E7 Ek g0 g1 g2 g3 g4 g5 g6 g7 g8 g9 g10 f0 f1 f2 f3 f4 f5 f6 f7 f8 f9 f10
    obtain ⟨c0, c1, c2, c3, c4, c5, c6, c7, c8, c9, c10⟩ := entFacts hb2
    have HB2 := Lib.hid hb2
    have HX2 := Lib.hid hx2
    have HVW := Lib.hid (HV.out wc)
    clear hb2 hx2 HV
    go_wp2_with fail
    refine HVW.out.mono ?_
    rintro e w3 ⟨rfl, hx3⟩
    clear c0 c1 c2 c3 c4 c5 c6 c7 c8 c9 c10
    have hb3 := HB2.out.ext hx3
    obtain ⟨c0, c1, c2, c3, c4, c5, c6, c7, c8, c9, c10⟩ := entFacts hb3
    have f0 : w3.frozen? ⟨w.heap.size, 0, none⟩ = false := hb3.free 0
    have f1 : w3.frozen? ⟨w.heap.size, 1, none⟩ = false := hb3.free 1
    have f2 : w3.frozen? ⟨w.heap.size, 2, none⟩ = false := hb3.free 2
    have f3 : w3.frozen? ⟨w.heap.size, 3, none⟩ = false := hb3.free 3
    have f4 : w3.frozen? ⟨w.heap.size, 4, none⟩ = false := hb3.free 4
    have f5 : w3.frozen? ⟨w.heap.size, 5, none⟩ = false := hb3.free 5
    have f6 : w3.frozen? ⟨w.heap.size, 6, none⟩ = false := hb3.free 6
    have f7 : w3.frozen? ⟨w.heap.size, 7, none⟩ = false := hb3.free 7
    have f8 : w3.frozen? ⟨w.heap.size, 8, none⟩ = false := hb3.free 8
    have f9 : w3.frozen? ⟨w.heap.size, 9, none⟩ = false := hb3.free 9
    have f10 : w3.frozen? ⟨w.heap.size, 10, none⟩ = false := hb3.free 10
    have HB3 := Lib.hid hb3
    have HX3 := Lib.hid (HX2.out.trans hx3)
    clear hb3 hx3 HVW
    go_upto_region 8 with fail
    go_cut [3, 4] (fun s3 s4 wx => s3 = .int .u64 t ∧ s4 = .int .i64 0 ∧ Blk wx w.heap.size 89 (entCells ⟨k, bl, v, [d0, d1, d2, d3, d4, d5, d6, d7]⟩) ∧ Ext w wx)
    case first =>
      go_region_with (first
        | (go_at_call 100; (with_reducible refine Calls.mono (HG4.out _ HX3.out.drew _) ?_); rintro e w2 ⟨rfl, rfl⟩))
      all_goals (go_wp2_with fail; go_meet)
      all_goals (case rel => exact ⟨rfl, rfl, entStored HB3.out HX3.out (Nat.le_refl _) k bl v d0 d1 d2 d3 d4 d5 d6 d7⟩)
    case rest =>
      obtain ⟨rfl, rfl, hb4, hx4⟩ := hcut
      clear c0 c1 c2 c3 c4 c5 c6 c7 c8 c9 c10
      obtain ⟨c0, c1, c2, c3, c4, c5, c6, c7, c8, c9, c10⟩ := entFacts hb4
      have HX4 := Lib.hid hx4
      clear hb4 hx4
      go_wp2
      exact bodyPost_ret (v := .tuple #[.agg #[.int .i64 k, .int .i64 bl, .int .u64 v, .int .u8 (d0.toNat : Int), .int .u8 (d1.toNat : Int), .int .u8 (d2.toNat : Int), .int .u8 (d3.toNat : Int), .int .u8 (d4.toNat : Int), .int .u8 (d5.toNat : Int), .int .u8 (d6.toNat : Int), .int .u8 (d7.toNat : Int)], .int .u64 t, .int .i64 0]) (by simp [results, Tryz.results69, go_sem, c0, c1, c2, c3, c4, c5, c6, c7, c8, c9, c10]) rfl ⟨rfl, HX4.out⟩
end Go.Proofs.YthhcooljjhdjbaaGreat
