/- Contract: an entry is encoded. -/
import Derived.Test.YthhcooljjhdjbaaGreatKW20
set_option linter.unusedVariables false
set_option linter.unusedSimpArgs false
namespace Go.Proofs.YthhcooljjhdjbaaGreat
open Go.RowKit

def EncPost (w : World) (p : List UInt8) (e : Ending) (w' : World) : Prop :=
  ∃ g c, e = .returned (.tuple #[.slice (some ⟨g, 0, none⟩) 37 c, .int .i64 0]) ∧ p.length = 37 ∧ w'.ownsRow w.heap.size 5 1 (.slice (some ⟨g, 0, none⟩) 37 c) 37 (p.map byteV) ∧ Ext w w'
theorem length_plainOf (e : Ent) (t : Int) (h : e.data.length = 8) : (plainOf e t).length = 29 := by simp [plainOf, length_leBytes, h]
theorem length_encode (e : Ent) (t : Int) (h : e.data.length = 8) : (encode e t).length = 37 := by simp [encode, length_leBytes, length_plainOf e t h]
structure EntFacts (w : World) (q : Nat) (k b v : Int) (d0 d1 d2 d3 d4 d5 d6 d7 : UInt8) : Prop where
  c0 : w.cell? ⟨q, 0, none⟩ = some (.int .i64 k)
  c1 : w.cell? ⟨q, 1, none⟩ = some (.int .i64 b)
  c2 : w.cell? ⟨q, 2, none⟩ = some (.int .u64 v)
  c3 : w.cell? ⟨q, 3, none⟩ = some (.int .u8 (d0.toNat : Int))
  c4 : w.cell? ⟨q, 4, none⟩ = some (.int .u8 (d1.toNat : Int))
  c5 : w.cell? ⟨q, 5, none⟩ = some (.int .u8 (d2.toNat : Int))
  c6 : w.cell? ⟨q, 6, none⟩ = some (.int .u8 (d3.toNat : Int))
  c7 : w.cell? ⟨q, 7, none⟩ = some (.int .u8 (d4.toNat : Int))
  c8 : w.cell? ⟨q, 8, none⟩ = some (.int .u8 (d5.toNat : Int))
  c9 : w.cell? ⟨q, 9, none⟩ = some (.int .u8 (d6.toNat : Int))
  c10 : w.cell? ⟨q, 10, none⟩ = some (.int .u8 (d7.toNat : Int))
theorem entFacts {w : World} {q : Nat} {k b v : Int} {d0 d1 d2 d3 d4 d5 d6 d7 : UInt8} (h : Blk w q 89 (entCells ⟨k, b, v, [d0, d1, d2, d3, d4, d5, d6, d7]⟩)) : EntFacts w q k b v d0 d1 d2 d3 d4 d5 d6 d7 :=
  ⟨h.cell 0 rfl, h.cell 1 rfl, h.cell 2 rfl, h.cell 3 rfl, h.cell 4 rfl, h.cell 5 rfl, h.cell 6 rfl, h.cell 7 rfl, h.cell 8 rfl, h.cell 9 rfl, h.cell 10 rfl⟩

theorem eput' {B : Nat} {w : World} {v : Value} {xs : List UInt8} (m n s : Nat) (hs : m + n = s) (hm : xs.length = m) (h : w.ownsRow B 5 1 v m (xs.map byteV)) (hB : B ≤ w.heap.size) (hl : m ≤ 64) (x : Int) (h1 : 1 ≤ n) (h8 : n ≤ 8) :
    Calls Tryz.prog 147 #[v, .int .u64 x, .int .i64 n] w fun e w' => ∃ g c p, e = .returned (.slice (some ⟨g, 0, none⟩) s c) ∧
      Hid (p = xs ++ leBytes n x) ∧ p.length = s ∧ Hid (w'.ownsRow B 5 1 (.slice (some ⟨g, 0, none⟩) s c) s (p.map byteV)) ∧ Hid (Keep B [5] w w') := by
  subst hm hs
  have hl2 : (xs ++ leBytes n x).length = xs.length + n := by simp [length_leBytes]
  refine (eput h hB hl x n h1 h8).mono ?_
  rintro e w' ⟨g, c, he, ho, hk⟩
  rw [hl2] at he ho
  exact ⟨g, c, _, he, Lib.hid rfl, hl2, Lib.hid ho, Lib.hid hk⟩
theorem alloc_size (w : World) (o : Obj) : (w.alloc o).heap.size = w.heap.size + 1 := by simp

set_option maxRecDepth 8000 in
set_option maxHeartbeats 4000000 in
theorem eencode (e : Ent) (h : e.Ok) (t : Int) (w : World) : Calls Tryz.prog 110 #[entV e, .int .u64 t] w (EncPost w (encode e t)) := by
  have HV := Lib.hid (evalid e h)
  have hE : encode e t = plainOf e t ++ leBytes 8 (crcSum (plainOf e t)) := rfl
  have hP : plainOf e t = [] ++ leBytes 1 e.kind ++ leBytes 4 e.block ++ leBytes 8 e.version ++ e.data ++ leBytes 8 t := by rw [List.nil_append]; rfl
  have hb0 := Lib.hid (Blk.new w (entCells e) 89)
  obtain ⟨k, b, v, l⟩ := e
  have hbw : IntKind.u64.wrap b = b := by rw [IntKind.wrap_u64]; have := h.b0; have := h.b1; simp only at *; omega
  have hkw : IntKind.u64.wrap k = k := by rw [IntKind.wrap_u64]; have := h.kind; simp only at *; omega
  obtain ⟨d0, d1, d2, d3, d4, d5, d6, d7, hd⟩ := len8 h.len
  have hd : l = [d0, d1, d2, d3, d4, d5, d6, d7] := hd
  clear h
  subst hd
  generalize encode _ t = out at *
  generalize plainOf _ t = pl at *
  have HE := Lib.hid hE
  have HP := Lib.hid hP
  have HBW := Lib.hid hbw
  have HKW := Lib.hid hkw
  clear hE hP hbw hkw
  obtain ⟨i0, hi, hz0, hz1, hz2⟩ := info_parts Tryz.info5
  unfold entV at *
  have HVW := HV.out (w.alloc (.cells (entCells ⟨k, b, v, [d0, d1, d2, d3, d4, d5, d6, d7]⟩) 89))
  clear HV
  rw [entCells8] at HVW ⊢
  go_enter Tryz.func110, Tryz.ntmps110
  go_wp2_with fail
  refine HVW.mono ?_
  rintro e w1 ⟨rfl, hx1⟩
  have hb1 := hb0.out.ext hx1
  have hs1 : w.heap.size ≤ w1.heap.size := Nat.le_trans (by rw [alloc_size]; omega) hx1.size
  have HB1 := Lib.hid hb1
  have HX1 := Lib.hid (Ext.trans ((Ext.refl w).alloc _) hx1)
  clear HVW hx1
  obtain ⟨c0, c1, c2, c3, c4, c5, c6, c7, c8, c9, c10⟩ := entFacts hb1
  clear hb1
  go_wp2_with fail
  refine (eput' (B := w.heap.size) (xs := []) 0 1 1 rfl rfl (World.ownsRow_nil _ _ _ _) hs1 (by decide) (IntKind.u64.wrap k) (by decide) (by decide)).mono ?_
  rintro e w2 ⟨g, c, p1, rfl, E1, L1, R1, K1⟩
  have hb2 := HB1.out.keep K1.out (by decide)
  have hs2 := Nat.le_trans hs1 K1.out.size
  have HB2 := Lib.hid hb2
  clear c0 c1 c2 c3 c4 c5 c6 c7 c8 c9 c10
  obtain ⟨c0, c1, c2, c3, c4, c5, c6, c7, c8, c9, c10⟩ := entFacts hb2
  clear hb2
  go_wp2_with fail
  refine (eput' (B := w.heap.size) (xs := p1) 1 4 5 rfl L1 R1.out hs2 (by decide) (IntKind.u64.wrap b) (by decide) (by decide)).mono ?_
  rintro e w3 ⟨g, c, p2, rfl, E2, L2, R2, K2⟩
  have hb3 := HB2.out.keep K2.out (by decide)
  have hs3 := Nat.le_trans hs2 K2.out.size
  have HB3 := Lib.hid hb3
  clear c0 c1 c2 c3 c4 c5 c6 c7 c8 c9 c10
  obtain ⟨c0, c1, c2, c3, c4, c5, c6, c7, c8, c9, c10⟩ := entFacts hb3
  clear hb3
  go_wp2_with fail
  refine (eput' (B := w.heap.size) (xs := p2) 5 8 13 rfl L2 R2.out hs3 (by decide) v (by decide) (by decide)).mono ?_
  rintro e w4 ⟨g, c, p3, rfl, E3, L3, R3, K3⟩
  have hb4 := HB3.out.keep K3.out (by decide)
  have hs4 := Nat.le_trans hs3 K3.out.size
  have HB4 := Lib.hid hb4
  clear c0 c1 c2 c3 c4 c5 c6 c7 c8 c9 c10
  obtain ⟨c0, c1, c2, c3, c4, c5, c6, c7, c8, c9, c10⟩ := entFacts hb4
  clear hb4
  go_wp2_with (at_builtin; refine wpList_append_own _ rfl _ _ 65 rfl w.heap.size 5 i0 (.int .u8 0) 1 1 Tryz.underlying65 hi hz0 hz1 hz2 rfl (by decide) _ _ _ rfl R3.out ⟨w.heap.size, 3, none⟩ 8 8 [.int .u8 (d0.toNat : Int), .int .u8 (d1.toNat : Int), .int .u8 (d2.toNat : Int), .int .u8 (d3.toNat : Int), .int .u8 (d4.toNat : Int), .int .u8 (d5.toNat : Int), .int .u8 (d6.toNat : Int), .int .u8 (d7.toNat : Int)] rfl rfl ?c1 ?c2 ?c3 ?c4 ?c5 ?_)
  case c1 =>
    intro j u hj
    rw [addr_at]
    match j, hj with
    | 0, hj => exact hj ▸ c3
    | 1, hj => exact hj ▸ c4
    | 2, hj => exact hj ▸ c5
    | 3, hj => exact hj ▸ c6
    | 4, hj => exact hj ▸ c7
    | 5, hj => exact hj ▸ c8
    | 6, hj => exact hj ▸ c9
    | 7, hj => exact hj ▸ c10
  case c2 => intro u hu; simp only [List.mem_cons, List.not_mem_nil, or_false] at hu; rcases hu with rfl | rfl | rfl | rfl | rfl | rfl | rfl | rfl <;> rfl
  case c3 => unfold maxLen; omega
  case c4 => omega
  case c5 => omega
  intro v' w5 hown' hgrow hnil
  have hk5 := own_keep R3.out hgrow
  obtain ⟨p4, E4⟩ : ∃ p4, p4 = p3 ++ [d0, d1, d2, d3, d4, d5, d6, d7] := ⟨_, rfl⟩
  have L4 : p4.length = 21 := by rw [E4, List.length_append, L3]; rfl
  have R4 : w5.ownsRow w.heap.size 5 1 v' 21 (p4.map byteV) := by rw [E4, List.map_append]; exact hown'
  obtain ⟨g, c, hv⟩ : ∃ g c, v' = .slice (some ⟨g, 0, none⟩) 21 c := by
    rcases ownsRow_shape hown' with ⟨h, h0⟩ | ⟨q, c', h, _⟩
    · exact absurd h0 (by decide)
    · exact ⟨q, c', h⟩
  subst hv
  have E4 := Lib.hid E4
  have R4 := Lib.hid R4
  have hs5 := Nat.le_trans hs4 hk5.size
  have K4 := Lib.hid hk5
  clear hown' hgrow hnil hk5 c0 c1 c2 c3 c4 c5 c6 c7 c8 c9 c10
  go_wp2_with fail
  refine (eput' (B := w.heap.size) (xs := p4) 21 8 29 rfl L4 R4.out hs5 (by decide) t (by decide) (by decide)).mono ?_
  rintro e w6 ⟨g, c, p5, rfl, E5, L5, R5, K5⟩
  have hs6 := Nat.le_trans hs5 K5.out.size
  have hpl : p5 = pl := by
    rw [HP.out, E5.out, E4.out, E3.out, E2.out, E1.out, HKW.out, HBW.out]
  subst hpl
  have L5' := L5
  have CS : BytesIn w6 (.slice (some ⟨g, 0, none⟩) 29 c) p5 := by
    have := R5.out
    rw [← L5] at this ⊢
    exact BytesIn.own this
  have CS := csum CS (by omega)
  have CS := Lib.hid CS
  go_wp2_with fail
  refine CS.out.mono ?_
  rintro e w7 ⟨rfl, rfl⟩
  clear CS
  go_wp2_with fail
  refine (eput' (B := w.heap.size) (xs := p5) 29 8 37 rfl L5 R5.out hs6 (by decide) (crcSum p5) (by decide) (by decide)).mono ?_
  rintro e w8 ⟨g, c, p6, rfl, E6, L6, R6, K6⟩
  have hout : p6 = out := by rw [HE.out, E6.out]
  subst hout
  have hx := Ext.of_below ((HX1.out.keep w.heap.size [5]).trans (K1.out.trans (K2.out.trans (K3.out.trans (K4.out.trans (K5.out.trans K6.out)))))|>.below (Nat.le_refl _))
  have HX := Lib.hid hx
  clear hx
  go_wp2
  go_ret2
  exact ⟨g, c, rfl, L6, R6.out, HX.out⟩
end Go.Proofs.YthhcooljjhdjbaaGreat
