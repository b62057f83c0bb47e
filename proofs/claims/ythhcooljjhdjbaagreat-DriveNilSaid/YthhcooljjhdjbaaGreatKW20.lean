/- Contracts: an entry is valid; an entry is encoded. -/
import Derived.Test.YthhcooljjhdjbaaGreatKE2
set_option linter.unusedVariables false
set_option linter.unusedSimpArgs false
namespace Go.Proofs.YthhcooljjhdjbaaGreat
open Go.RowKit

theorem Tryz.info89 : (Tryz.prog.info? 89).map (fun i => (i.zero, i.size, i.bytes)) = some (some (.agg #[.int .i64 0, .int .i64 0, .int .u64 0, .int .u8 0, .int .u8 0, .int .u8 0, .int .u8 0, .int .u8 0, .int .u8 0, .int .u8 0, .int .u8 0]), 11, 32) := by kernel_rfl
def dataV (l : List UInt8) : Value := .agg (bytes8 l)
def entCells (e : Ent) : Array Value := #[.int .i64 e.kind, .int .i64 e.block, .int .u64 e.version] ++ bytes8 e.data
def entV (e : Ent) : Value := .agg (entCells e)
theorem len8 {l : List UInt8} (h : l.length = 8) : ∃ a b c d e f g i, l = [a, b, c, d, e, f, g, i] := by
  match l, h with
  | [a, b, c, d, e, f, g, i], _ => exact ⟨a, b, c, d, e, f, g, i, rfl⟩
theorem entCells8 (k b v : Int) (d0 d1 d2 d3 d4 d5 d6 d7 : UInt8) : entCells ⟨k, b, v, [d0, d1, d2, d3, d4, d5, d6, d7]⟩ = #[.int .i64 k, .int .i64 b, .int .u64 v, .int .u8 (d0.toNat : Int), .int .u8 (d1.toNat : Int), .int .u8 (d2.toNat : Int), .int .u8 (d3.toNat : Int), .int .u8 (d4.toNat : Int), .int .u8 (d5.toNat : Int), .int .u8 (d6.toNat : Int), .int .u8 (d7.toNat : Int)] := rfl
theorem bytes88 (d0 d1 d2 d3 d4 d5 d6 d7 : UInt8) : bytes8 [d0, d1, d2, d3, d4, d5, d6, d7] = #[.int .u8 (d0.toNat : Int), .int .u8 (d1.toNat : Int), .int .u8 (d2.toNat : Int), .int .u8 (d3.toNat : Int), .int .u8 (d4.toNat : Int), .int .u8 (d5.toNat : Int), .int .u8 (d6.toNat : Int), .int .u8 (d7.toNat : Int)] := rfl
set_option maxRecDepth 8000 in
theorem evalid (e : Ent) (h : e.Ok) (w : World) : Calls Tryz.prog 102 #[entV e] w fun r w' => r = .returned (.bool true) ∧ Ext w w' := by
  obtain ⟨k, b, v, l⟩ := e
  obtain ⟨hb0, hb1, hv0, hv1, hl, hk⟩ := h
  have hb0 : decide (b < 0) = false := by simpa using hb0
  have hb1 : decide (65536 ≤ b) = false := by simpa using hb1
  have hv0 : decide (v < 1) = false := by simp; exact hv0
  clear hv1
  rcases hk with hk | ⟨hk, hd⟩
  · have hk : k = 1 := hk
    obtain ⟨d0, d1, d2, d3, d4, d5, d6, d7, hd⟩ := len8 hl
    have hd : l = [d0, d1, d2, d3, d4, d5, d6, d7] := hd
    subst hd hk
    unfold entV
    rw [entCells8]
    clear hl
    go_enter Tryz.func102, Tryz.ntmps102
    go_wp2
    go_ret
    exact ⟨rfl, (Ext.refl _).alloc _⟩
  · have hk : k = 2 := hk
    have hd : l = [0, 0, 0, 0, 0, 0, 0, 0] := hd
    subst hd hk
    unfold entV
    rw [entCells8]
    clear hl
    have heq : ∀ w, (Op.equalIn 10000 27 (.agg #[.int .u8 0, .int .u8 0, .int .u8 0, .int .u8 0, .int .u8 0, .int .u8 0, .int .u8 0, .int .u8 0]) (.agg #[.int .u8 0, .int .u8 0, .int .u8 0, .int .u8 0, .int .u8 0, .int .u8 0, .int .u8 0, .int .u8 0])).run Tryz.prog w = .ok true w := fun w => run_eq27 9998 zero8 zero8 w rfl rfl
    show Calls Tryz.prog 102 #[.agg #[.int .i64 2, .int .i64 b, .int .u64 v, .int .u8 0, .int .u8 0, .int .u8 0, .int .u8 0, .int .u8 0, .int .u8 0, .int .u8 0, .int .u8 0]] w _
    go_enter Tryz.func102, Tryz.ntmps102
    go_wp2
    go_ret
    exact ⟨rfl, (Ext.refl _).alloc _⟩

theorem BytesIn.own {B : Nat} {w : World} {v : Value} {l : List UInt8} (h : w.ownsRow B 5 1 v l.length (l.map byteV)) : BytesIn w v l := by
  rcases ownsRow_shape h with ⟨rfl, h0⟩ | ⟨g, c, rfl, _⟩
  · exact .inl ⟨rfl, List.length_eq_zero_iff.1 h0⟩
  · refine .inr ⟨g, 0, c, rfl, fun i x hx => ?_⟩
    have hi := (List.getElem?_eq_some_iff.1 hx).1
    rw [Nat.zero_add, h.cellAt i (by omega), List.getElem?_map, hx]; rfl
end Go.Proofs.YthhcooljjhdjbaaGreat
