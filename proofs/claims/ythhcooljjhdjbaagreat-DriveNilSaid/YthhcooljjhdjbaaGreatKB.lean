/- Base words: a block of cells known whole (Blk), worlds that keep their blocks (Keep), rows that a slice owns. No program in sight. -/
import Derived.WalkKit
import Derived.WalkSpells
import Derived.WalkLawsBesides
import Derived.Deep.Draws
import Derived.Lib.Hide
set_option linter.unusedVariables false
set_option linter.unusedSimpArgs false
namespace Go.Proofs.YthhcooljjhdjbaaGreat
open Go.RowKit

/-- Block b is a row of cells of type T, known whole, not frozen. -/
def Blk (w : World) (b : Nat) (T : TypeId) (cs : Array Value) : Prop := w.heap[b]? = some (.cells cs T (0, 0))

theorem Blk.lt {w : World} {b : Nat} {T : TypeId} {cs : Array Value} (h : Blk w b T cs) : b < w.heap.size :=
  (Array.getElem?_eq_some_iff.1 h).1
theorem Blk.cells {w : World} {b : Nat} {T : TypeId} {cs : Array Value} (h : Blk w b T cs) : ∀ i, w.cell? ⟨b, i, none⟩ = cs[i]? := by
  intro i; unfold Blk at h; simp [World.cell?, h]
theorem Blk.free {w : World} {b : Nat} {T : TypeId} {cs : Array Value} (h : Blk w b T cs) : ∀ i, w.frozen? ⟨b, i, none⟩ = false := by
  intro i; unfold Blk at h; simp [World.frozen?, h]
theorem Blk.cell {w : World} {b : Nat} {T : TypeId} {cs : Array Value} (h : Blk w b T cs) (i : Nat) {v : Value} (hv : cs[i]? = some v) : w.cell? ⟨b, i, none⟩ = some v := by
  rw [h.cells, hv]
theorem Blk.ne {w : World} {b b' : Nat} {T T' : TypeId} {cs cs' : Array Value} (h : Blk w b T cs) (h' : Blk w b' T' cs') (hT : T ≠ T') : b ≠ b' := by
  intro e; subst e; unfold Blk at h h'; rw [h] at h'; simp at h'; exact hT h'.2
theorem Blk.alloc {w : World} {b : Nat} {T : TypeId} {cs : Array Value} (h : Blk w b T cs) (o : Obj) : Blk (w.alloc o) b T cs := by
  unfold Blk at *; rw [Below.heap_alloc _ _ _ (Blk.lt h)]; exact h
theorem Blk.new (w : World) (cs : Array Value) (T : TypeId) : Blk (w.alloc (.cells cs T)) w.heap.size T cs := by
  unfold Blk World.alloc; simp
theorem Blk.drew {w : World} {b : Nat} {T : TypeId} {cs : Array Value} (h : Blk w b T cs) : Blk w.drew b T cs := h
theorem Blk.drewN {w : World} {b : Nat} {T : TypeId} {cs : Array Value} (h : Blk w b T cs) (n : Nat) : Blk (w.drewN n) b T cs := h
theorem Blk.set {w : World} {b : Nat} {T : TypeId} {cs : Array Value} (h : Blk w b T cs) (i : Nat) (v : Value) :
    Blk (w.setCell ⟨b, i, none⟩ v) b T (cs.setIfInBounds i v) := by
  unfold Blk at *; simp [World.setCell, Array.getElem?_modify, h]
theorem Blk.set_ne {w : World} {b : Nat} {T : TypeId} {cs : Array Value} (h : Blk w b T cs) (a : Addr) (v : Value) (hne : a.block ≠ b) :
    Blk (w.setCell a v) b T cs := by
  unfold Blk at *; rw [Below.heap_setCell _ _ _ _ (Ne.symm hne)]; exact h

/-- From w to w' no block has gone; a block below B, or of a type that is not in Ts, is as it was. -/
structure Keep (B : Nat) (Ts : List TypeId) (w w' : World) : Prop where
  os : w'.os = w.os
  tape : w'.tape = w.tape
  output : w'.output = w.output
  size : w.heap.size ≤ w'.heap.size
  block : ∀ (k : Nat) (o : Obj), w.heap[k]? = some o → (k < B ∨ ∀ cs T fz, o = .cells cs T fz → T ∉ Ts) → w'.heap[k]? = some o

theorem Keep.refl (B : Nat) (Ts : List TypeId) (w : World) : Keep B Ts w w := ⟨rfl, rfl, rfl, Nat.le_refl _, fun _ _ h _ => h⟩
theorem Keep.trans {B : Nat} {Ts : List TypeId} {a b c : World} (h : Keep B Ts a b) (k : Keep B Ts b c) : Keep B Ts a c :=
  ⟨k.os.trans h.os, k.tape.trans h.tape, k.output.trans h.output, Nat.le_trans h.size k.size, fun i o hi ho => k.block i o (h.block i o hi ho) ho⟩
theorem Keep.mono {B B' : Nat} {Ts Ts' : List TypeId} {w w' : World} (h : Keep B Ts w w') (hB : B' ≤ B) (hT : ∀ t, t ∈ Ts → t ∈ Ts') : Keep B' Ts' w w' :=
  ⟨h.os, h.tape, h.output, h.size, fun k o hk ho => h.block k o hk (ho.elim (fun h1 => .inl (Nat.lt_of_lt_of_le h1 hB)) (fun h1 => .inr fun cs T fz e hm => h1 cs T fz e (hT T hm)))⟩
/-- Nothing that was there has turned. -/
abbrev Ext (w w' : World) : Prop := Keep 0 [] w w'
theorem Ext.keep {w w' : World} (h : Ext w w') (B : Nat) (Ts : List TypeId) : Keep B Ts w w' :=
  ⟨h.os, h.tape, h.output, h.size, fun k o hk _ => h.block k o hk (.inr (by simp))⟩
theorem Ext.refl (w : World) : Ext w w := Keep.refl _ _ _
theorem Ext.trans {a b c : World} (h : Ext a b) (k : Ext b c) : Ext a c := Keep.trans h k
theorem Keep.drew {B : Nat} {Ts : List TypeId} {a w : World} (h : Keep B Ts a w) : Keep B Ts a w.drew := ⟨h.os, h.tape, h.output, h.size, h.block⟩
theorem Keep.drewN {B : Nat} {Ts : List TypeId} {a w : World} (h : Keep B Ts a w) (n : Nat) : Keep B Ts a (w.drewN n) := ⟨h.os, h.tape, h.output, h.size, h.block⟩
theorem Keep.alloc {B : Nat} {Ts : List TypeId} {a w : World} (h : Keep B Ts a w) (o : Obj) : Keep B Ts a (w.alloc o) :=
  h.trans ⟨rfl, rfl, rfl, by simp, fun k o' hk _ => by rw [Below.heap_alloc _ _ _ ((Array.getElem?_eq_some_iff.1 hk).1)]; exact hk⟩
theorem Keep.set {B : Nat} {Ts : List TypeId} {a w : World} (h : Keep B Ts a w) {b : Nat} {T : TypeId} {cs : Array Value} (hb : Blk w b T cs)
    (hB : B ≤ b) (hT : T ∈ Ts) (i : Nat) (v : Value) : Keep B Ts a (w.setCell ⟨b, i, none⟩ v) :=
  h.trans ⟨rfl, rfl, rfl, by simp [World.setCell], fun k o hk ho => by
    have hne : k ≠ b := by
      intro e; subst e
      rcases ho with h1 | h1
      · omega
      · unfold Blk at hb; rw [hb] at hk; cases hk; exact h1 _ _ _ rfl hT
    rw [Below.heap_setCell _ _ _ _ hne]; exact hk⟩
/-- A store into a block that was not there at the start. -/
theorem Keep.set_new {B : Nat} {Ts : List TypeId} {a w : World} (h : Keep B Ts a w) {b : Nat} (hb : a.heap.size ≤ b) (i : Nat) (v : Value) : Keep B Ts a (w.setCell ⟨b, i, none⟩ v) :=
  ⟨h.os, h.tape, h.output, by simpa [World.setCell] using h.size, fun k o hk ho => by
    have hlt := (Array.getElem?_eq_some_iff.1 hk).1
    rw [Below.heap_setCell _ _ _ _ (show k ≠ b by omega)]; exact h.block k o hk ho⟩
theorem Keep.grown {B : Nat} {Ts : List TypeId} {a w w' : World} {row : Option Nat} (h : Keep B Ts a w) (hg : w.grownBy w' row)
    (hr : ∀ k, row = some k → a.heap.size ≤ k ∨ (B ≤ k ∧ ∃ cs T, Blk a k T cs ∧ T ∈ Ts)) : Keep B Ts a w' :=
  ⟨hg.os.trans h.os, hg.tape.trans h.tape, hg.output.trans h.output, Nat.le_trans h.size hg.size, fun k o hk ho => by
    have hlt := (Array.getElem?_eq_some_iff.1 hk).1
    have hw := h.block k o hk ho
    rw [hg.block k (Nat.lt_of_lt_of_le hlt h.size) ?_]
    · exact hw
    · intro e
      rcases hr k e.symm with h1 | ⟨h1, cs, T, hb, hT⟩
      · omega
      · rcases ho with h2 | h2
        · omega
        · unfold Blk at hb; rw [hb] at hk; cases hk; exact h2 _ _ _ rfl hT⟩
theorem Keep.below {B : Nat} {Ts : List TypeId} {w w' : World} (h : Keep B Ts w w') (hB : B ≤ w.heap.size) : Below B w w' :=
  ⟨h.os, h.tape, h.output, h.size, fun k hk => by
    have : k < w.heap.size := by omega
    rw [h.block k w.heap[k] (by simp [this]) (.inl hk)]; simp [this]⟩
theorem Ext.of_below {w w' : World} (h : Below w.heap.size w w') : Ext w w' :=
  ⟨h.os, h.tape, h.output, h.size, fun k o hk _ => by rw [h.block k (Array.getElem?_eq_some_iff.1 hk).1]; exact hk⟩
theorem Blk.keep {B : Nat} {Ts : List TypeId} {w w' : World} {b : Nat} {T : TypeId} {cs : Array Value} (h : Blk w b T cs) (hk : Keep B Ts w w') (hT : T ∉ Ts) : Blk w' b T cs :=
  hk.block b _ h (.inr fun _ _ _ e => by cases e; exact hT)
theorem Blk.ext {w w' : World} {b : Nat} {T : TypeId} {cs : Array Value} (h : Blk w b T cs) (hk : Ext w w') : Blk w' b T cs := h.keep hk (by simp)
theorem Keep.cell0 {w w' : World} (h : Ext w w') {a : Addr} {v : Value} (hc : w.cell? a = some v) : w'.cell? a = some v := by
  have hlt := World.block_lt_of_cell? w a hc
  rw [World.cell?_of_block (w := w)]
  · exact hc
  · rw [h.block a.block w.heap[a.block] (by simp [hlt]) (.inr (by simp))]; simp [hlt]
theorem Ext.facts {W w1 : World} (h : Ext W w1) : (∀ b o, b < W.heap.size → w1.cell? ⟨b, o, none⟩ = W.cell? ⟨b, o, none⟩) ∧
    (∀ b o, b < W.heap.size → w1.frozen? ⟨b, o, none⟩ = W.frozen? ⟨b, o, none⟩) ∧ W.heap.size ≤ w1.heap.size := by
  have hb : ∀ b, b < W.heap.size → w1.heap[b]? = W.heap[b]? := fun b hb => by
    rw [h.block b W.heap[b] (by simp [hb]) (.inr (by simp))]; simp [hb]
  exact ⟨fun b o h => World.cell?_of_block (w := W) (a := ⟨b, o, none⟩) (hb b h), fun b o h => World.frozen?_of_block (w := W) (a := ⟨b, o, none⟩) (hb b h), h.size⟩
theorem Keep.cell {w w' : World} (h : Keep 0 [] w w') {a : Addr} {v : Value} (hc : w.cell? a = some v) : w'.cell? a = some v := Keep.cell0 h hc
theorem Ext.cell {w w' : World} (h : Ext w w') {a : Addr} {v : Value} (hc : w.cell? a = some v) : w'.cell? a = some v := Keep.cell0 h hc
theorem Keep.keep {w w' : World} (h : Keep 0 [] w w') (B : Nat) (Ts : List TypeId) : Keep B Ts w w' := Ext.keep h B Ts
theorem grown_trans {a b c : World} {row : Option Nat} (h : a.grownBy b row) (k : b.grownBy c row) : a.grownBy c row :=
  ⟨k.os.trans h.os, k.tape.trans h.tape, k.output.trans h.output, Nat.le_trans h.size k.size, fun i hi hr => (k.block i (Nat.lt_of_lt_of_le hi h.size) hr).trans (h.block i hi hr)⟩
theorem grown_refl (a : World) (row : Option Nat) : a.grownBy a row := ⟨rfl, rfl, rfl, Nat.le_refl _, fun _ _ _ => rfl⟩
theorem Keep.grownBy {w w' : World} (h : Keep 0 [] w w') (row : Option Nat) : w.grownBy w' row :=
  ⟨h.os, h.tape, h.output, h.size, fun k hk _ => by rw [h.block k w.heap[k] (by simp [hk]) (.inr (by simp))]; simp [hk]⟩
theorem grown_set {a w : World} {b : Nat} (h : a.grownBy w (some b)) (i : Nat) (v : Value) : a.grownBy (w.setCell ⟨b, i, none⟩ v) (some b) :=
  grown_trans h ⟨rfl, rfl, rfl, by simp [World.setCell], fun k _ hk => by rw [Below.heap_setCell _ _ _ _ (fun e => hk (by rw [e]))]⟩
theorem grown_keep {w w' : World} {b : Nat} (h : w.grownBy w' (some b)) {B : Nat} {Ts : List TypeId} {cs : Array Value} {T : TypeId} (hb : Blk w b T cs) (hB : B ≤ b) (hT : T ∈ Ts) : Keep B Ts w w' :=
  (Keep.refl B Ts w).grown h (fun k hk => .inr (by cases hk; exact ⟨hB, cs, T, hb, hT⟩))
theorem Blk.grown {w w' : World} {b b' : Nat} {T : TypeId} {cs : Array Value} (h : Blk w b T cs) (hk : w.grownBy w' (some b')) (hne : b ≠ b') : Blk w' b T cs := by
  unfold Blk at *; rw [hk.block b (Blk.lt h) (by simpa using hne)]; exact h
theorem ownsRow_base {w : World} {base base' : Nat} {e : TypeId} {size : Nat} {v : Value} {n : Nat} {xs : List Value} (h : w.ownsRow base e size v n xs) (hb : base' ≤ base) :
    w.ownsRow base' e size v n xs := by
  refine ⟨h.1, ?_⟩
  rcases h.2 with h2 | ⟨g, cap, cur, hv, hg, r⟩
  · exact .inl h2
  · exact .inr ⟨g, cap, cur, hv, Nat.le_trans hb hg, r⟩
theorem ownsRow_shape {w : World} {base : Nat} {e : TypeId} {size : Nat} {v : Value} {n : Nat} {xs : List Value} (h : w.ownsRow base e size v n xs) :
    (v = .slice none 0 0 ∧ n = 0) ∨ ∃ q c, v = .slice (some ⟨q, 0, none⟩) n c ∧ base ≤ q := by
  rcases h.2 with h2 | ⟨g, cap, cur, hv, hg, _⟩
  · exact .inl h2
  · exact .inr ⟨g, cap, hv, hg⟩
/-- What a slice owns stays while nothing of its type is written. -/
theorem ownsRow_keep {B : Nat} {Ts : List TypeId} {w w' : World} {base : Nat} {e : TypeId} {size : Nat} {v : Value} {n : Nat} {xs : List Value} (h : w.ownsRow base e size v n xs)
    (hk : Keep B Ts w w') (hT : e ∉ Ts) : w'.ownsRow base e size v n xs := by
  refine ⟨h.1, ?_⟩
  rcases h.2 with h2 | ⟨g, cap, cur, hv, hg, hc, r⟩
  · exact .inl h2
  · exact .inr ⟨g, cap, cur, hv, hg, Blk.keep hc hk hT, r⟩
end Go.Proofs.YthhcooljjhdjbaaGreat
