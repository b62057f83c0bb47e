/- What a medium is in memory. -/
import Derived.Test.YthhcooljjhdjbaaGreatKB
import Derived.Test.YthhcooljjhdjbaaGreatKM4
set_option linter.unusedVariables false
set_option linter.unusedSimpArgs false
namespace Go.Proofs.YthhcooljjhdjbaaGreat
open Go.RowKit

def byteV (b : UInt8) : Value := .int .u8 (b.toNat : Int)
/-- A slice of bytes. -/
def BytesAt (w : World) (y : Value) (b : List UInt8) : Prop := w.ownsRow 0 5 1 y b.length (b.map byteV)
def SecBytes (w : World) : Sec → Value → Prop
  | .data b, y => BytesAt w y b
  | _, y => y = .slice none 0 0
def SecCells (w : World) (cells : List Value) (secs : List Sec) : Prop :=
  cells.length = secs.length * 2 ∧ ∀ i s, secs[i]? = some s → ∃ y, cells[i * 2]? = some (.int .i64 s.state) ∧ cells[i * 2 + 1]? = some y ∧ SecBytes w s y
def geoCells (g : Geo) : Array Value := #[.int .i64 g.random, .int .i64 g.bands, .int .i64 g.tracks, .int .i64 g.sectors, .int .i64 g.overlap]
def mediaCells (g : Geo) (sd cap : Nat) : Array Value :=
  #[.int .i64 g.random, .int .i64 g.bands, .int .i64 g.tracks, .int .i64 g.sectors, .int .i64 g.overlap, .slice (some ⟨sd, 0, none⟩) g.size cap]
structure MediaAt (B : Nat) (w : World) (m sd cap : Nat) (g : Geo) (secs : List Sec) : Prop where
  blk : Blk w m 162 (mediaCells g sd cap)
  len : secs.length = g.size
  row : ∃ cells, w.ownsRow B 196 2 (.slice (some ⟨sd, 0, none⟩) g.size cap) g.size cells ∧ SecCells w cells secs

theorem BytesAt.keep {B : Nat} {Ts : List TypeId} {w w' : World} {y : Value} {b : List UInt8} (h : BytesAt w y b) (hk : Keep B Ts w w') (hT : 5 ∉ Ts) : BytesAt w' y b := ownsRow_keep h hk hT
theorem SecBytes.keep {B : Nat} {Ts : List TypeId} {w w' : World} {s : Sec} {y : Value} (h : SecBytes w s y) (hk : Keep B Ts w w') (hT : 5 ∉ Ts) : SecBytes w' s y := by
  cases s with
  | data b => exact BytesAt.keep h hk hT
  | _ => exact h
theorem SecCells.keep {B : Nat} {Ts : List TypeId} {w w' : World} {cells : List Value} {secs : List Sec} (h : SecCells w cells secs) (hk : Keep B Ts w w') (hT : 5 ∉ Ts) : SecCells w' cells secs :=
  ⟨h.1, fun i s hs => let ⟨y, h1, h2, h3⟩ := h.2 i s hs; ⟨y, h1, h2, h3.keep hk hT⟩⟩
theorem MediaAt.keep {B B' : Nat} {Ts : List TypeId} {w w' : World} {m sd cap : Nat} {g : Geo} {secs : List Sec} (h : MediaAt B w m sd cap g secs) (hk : Keep B' Ts w w')
    (h1 : 162 ∉ Ts) (h2 : 196 ∉ Ts) (h3 : 5 ∉ Ts) : MediaAt B w' m sd cap g secs :=
  let ⟨cells, r, s⟩ := h.row
  ⟨h.blk.keep hk h1, h.len, cells, ownsRow_keep r hk h2, s.keep hk h3⟩
theorem SecCells.state {w : World} {cells : List Value} {secs : List Sec} (h : SecCells w cells secs) {i : Nat} {s : Sec} (hs : secs[i]? = some s) : cells[i * 2]? = some (.int .i64 s.state) :=
  let ⟨_, h1, _⟩ := h.2 i s hs; h1
/-- One sector written anew. -/
theorem SecCells.set {w : World} {cells : List Value} {secs : List Sec} (h : SecCells w cells secs) (i : Nat) (s : Sec) (y : Value) (hy : SecBytes w s y) :
    SecCells w ((cells.set (i * 2) (.int .i64 s.state)).set (i * 2 + 1) y) (secs.set i s) := by
  refine ⟨by simp [h.1], fun j t ht => ?_⟩
  rw [List.getElem?_set] at ht
  have hl := h.1
  by_cases hij : i = j
  · subst hij
    simp only [if_pos] at ht
    split at ht
    · rename_i hlt
      cases ht
      refine ⟨y, ?_, ?_, hy⟩
      · rw [List.getElem?_set_ne (by omega), List.getElem?_set_self (by omega)]
      · rw [List.getElem?_set_self (by simp; omega)]
    · cases ht
  · rw [if_neg hij] at ht
    obtain ⟨z, h1, h2, h3⟩ := h.2 j t ht
    exact ⟨z, by rw [List.getElem?_set_ne (by omega), List.getElem?_set_ne (by omega)]; exact h1,
      by rw [List.getElem?_set_ne (by omega), List.getElem?_set_ne (by omega)]; exact h2, h3⟩
end Go.Proofs.YthhcooljjhdjbaaGreat
