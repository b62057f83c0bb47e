/- Contracts: the power supply. -/
import Derived.Test.YthhcooljjhdjbaaGreatKW9
set_option linter.unusedVariables false
set_option linter.unusedSimpArgs false
namespace Go.Proofs.YthhcooljjhdjbaaGreat
open Go.RowKit

def powCells (p : Pow) : Array Value := #[.bool p.off, .bool p.armed, .int .i64 p.left, .int .i64 p.fails]
theorem powFacts {w : World} {ap : Nat} {p : Pow} (h : Blk w ap 132 (powCells p)) :
    w.cell? ⟨ap, 0, none⟩ = some (.bool p.off) ∧ w.cell? ⟨ap, 1, none⟩ = some (.bool p.armed) ∧ w.cell? ⟨ap, 2, none⟩ = some (.int .i64 p.left) ∧ w.cell? ⟨ap, 3, none⟩ = some (.int .i64 p.fails) ∧
    w.frozen? ⟨ap, 0, none⟩ = false ∧ w.frozen? ⟨ap, 1, none⟩ = false ∧ w.frozen? ⟨ap, 2, none⟩ = false ∧ w.frozen? ⟨ap, 3, none⟩ = false :=
  ⟨h.cell 0 rfl, h.cell 1 rfl, h.cell 2 rfl, h.cell 3 rfl, h.free 0, h.free 1, h.free 2, h.free 3⟩

theorem pnew (w : World) : Calls Tryz.prog 43 #[] w fun e w' => ∃ ap, e = .returned (.pointer (some ⟨ap, 0, none⟩)) ∧ Blk w' ap 132 (powCells Pow.new) ∧ Ext w w' ∧ ap = w.heap.size := by
  go_enter Tryz.func43, Tryz.ntmps43
  go_wp2
  go_ret
  exact ⟨_, rfl, Blk.new _ _ _, (Ext.refl _).alloc _, rfl⟩

set_option maxHeartbeats 1000000 in
theorem pcall {B : Nat} {w : World} {ap : Nat} {p : Pow} (h : Blk w ap 132 (powCells p)) (hB : B ≤ ap) :
    Calls Tryz.prog 118 #[.pointer (some ⟨ap, 0, none⟩)] w fun e w' => e = .returned (.bool (!p.call.off)) ∧ Blk w' ap 132 (powCells p.call) ∧ Keep B [132] w w' := by
  obtain ⟨c0, c1, c2, c3, f0, f1, f2, f3⟩ := powFacts h
  obtain ⟨off, armed, left, fails⟩ := p
  simp only at c0 c1 c2 c3
  have H := Lib.hid h
  clear h
  cases armed with
  | false =>
    have e : (Pow.mk off false left fails).call = ⟨off, false, wrap64 (left - 1), fails⟩ := rfl
    rw [e]
    clear e
    go_enter Tryz.func118, Tryz.ntmps118
    go_wp2
    go_ret
    exact ⟨rfl, H.out.set 2 _, (Keep.refl _ _ _).set H.out hB (by simp) _ _⟩
  | true =>
    by_cases hl : left = 0
    · subst hl
      have e : (Pow.mk off true 0 fails).call = ⟨true, false, -1, wrap64 (fails + 1)⟩ := by simp [Pow.call, wrap64]
      rw [e]
      clear e
      go_enter Tryz.func118, Tryz.ntmps118
      go_wp2
      go_ret
      have h1 := H.out.set 0 (.bool true)
      have h2 := h1.set 1 (.bool false)
      have h3 := h2.set 3 (.int .i64 (wrap64 (fails + 1)))
      exact ⟨rfl, h3.set 2 _, ((((Keep.refl _ _ _).set H.out hB (by simp) _ _).set h1 hB (by simp) _ _).set h2 hB (by simp) _ _).set h3 hB (by simp) _ _⟩
    · have hl2 : (left == 0) = false := by simpa using hl
      have e : (Pow.mk off true left fails).call = ⟨off, true, wrap64 (left - 1), fails⟩ := by simp [Pow.call, hl2]
      rw [e]
      clear e hl
      go_enter Tryz.func118, Tryz.ntmps118
      go_wp2
      go_ret
      exact ⟨rfl, H.out.set 2 _, (Keep.refl _ _ _).set H.out hB (by simp) _ _⟩

theorem poff {w : World} {ap : Nat} {p : Pow} (h : Blk w ap 132 (powCells p)) :
    Calls Tryz.prog 65 #[.pointer (some ⟨ap, 0, none⟩)] w fun e w' => e = .returned (.bool p.off) ∧ w = w' := by
  obtain ⟨c0, c1, c2, c3, f0, f1, f2, f3⟩ := powFacts h
  clear h
  go_enter Tryz.func65, Tryz.ntmps65
  go_wp2
  go_ret
  exact ⟨rfl, rfl⟩
theorem pon {B : Nat} {w : World} {ap : Nat} {p : Pow} (h : Blk w ap 132 (powCells p)) (hB : B ≤ ap) :
    Calls Tryz.prog 67 #[.pointer (some ⟨ap, 0, none⟩)] w fun e w' => e = .returned (.tuple #[]) ∧ Blk w' ap 132 (powCells { p with off := false }) ∧ Keep B [132] w w' := by
  obtain ⟨c0, c1, c2, c3, f0, f1, f2, f3⟩ := powFacts h
  have H := Lib.hid h
  clear h
  go_enter Tryz.func67, Tryz.ntmps67
  go_wp2
  go_end0
  exact ⟨rfl, H.out.set 0 _, (Keep.refl _ _ _).set H.out hB (by simp) _ _⟩
theorem parm {B : Nat} {w : World} {ap : Nat} {p : Pow} (h : Blk w ap 132 (powCells p)) (hB : B ≤ ap) (n : Int) :
    Calls Tryz.prog 64 #[.pointer (some ⟨ap, 0, none⟩), .int .i64 n] w fun e w' => e = .returned (.tuple #[]) ∧ Blk w' ap 132 (powCells (p.arm n)) ∧ Keep B [132] w w' := by
  obtain ⟨c0, c1, c2, c3, f0, f1, f2, f3⟩ := powFacts h
  obtain ⟨off, armed, left, fails⟩ := p
  simp only at c0 c1 c2 c3
  have H := Lib.hid h
  clear h
  cases off with
  | true =>
    have e : (Pow.mk true armed left fails).arm n = ⟨true, armed, left, fails⟩ := rfl
    rw [e]
    clear e
    go_enter Tryz.func64, Tryz.ntmps64
    go_wp2
    go_end0
    exact ⟨rfl, H.out, Keep.refl _ _ _⟩
  | false =>
    have e : (Pow.mk false armed left fails).arm n = ⟨false, decide (0 ≤ n), n, fails⟩ := rfl
    rw [e]
    clear e
    go_enter Tryz.func64, Tryz.ntmps64
    go_wp2
    go_end0
    have h1 := H.out.set 1 (.bool (decide (0 ≤ n)))
    exact ⟨rfl, h1.set 2 _, ((Keep.refl _ _ _).set H.out hB (by simp) _ _).set h1 hB (by simp) _ _⟩

/-- The disk's memory. -/
def dskCells (d : Dsk) (ac ap : Nat) (fv : Value) : Array Value :=
  #[.int .i64 d.reads, .int .i64 d.writes, .int .i64 d.erases, .int .i64 d.flushes, .int .i64 d.ops,
    .int .i64 d.geo.random, .int .i64 d.geo.bands, .int .i64 d.geo.tracks, .int .i64 d.geo.sectors, .int .i64 d.geo.overlap,
    .pointer (some ⟨ac, 0, none⟩), fv, .pointer (some ⟨ap, 0, none⟩), .int .i64 d.seen, .int .u64 d.key, .bool d.dead]
structure DskIn (B : Nat) (w : World) (ad ap : Nat) (d : Dsk) (ac : Nat) (fv : Value) : Prop where
  blk : Blk w ad 109 (dskCells d ac ap fv)
  ge : B ≤ ad
  pow : Blk w ap 132 (powCells d.pow)
  gep : B ≤ ap
  cache : CacheAt B w ac d.geo d.durable d.contents d.pending
  faults : FaultsAt w fv d.faults
/-- What holds of every disk that the laws make: its geometry is small, its lists are short, what it holds are entries or blanks. -/
structure DskOk (d : Dsk) : Prop where
  geo : d.geo.Ok
  faults : d.faults.length ≤ 4096
  short : ∀ s ∈ d.contents, ∀ b, s = .data b → b ≠ [] ∧ b.length ≤ 64
def DskAt (B : Nat) (w : World) (ad ap : Nat) (d : Dsk) : Prop := ∃ ac fv, DskIn B w ad ap d ac fv
theorem DskIn.keep {B B' : Nat} {Ts : List TypeId} {w w' : World} {ad ap : Nat} {d : Dsk} {ac : Nat} {fv : Value} (h : DskIn B w ad ap d ac fv) (hk : Keep B' Ts w w')
    (hT : ∀ t, t ∈ [109, 132, 49, 166, 162, 196, 173, 3, 65, 5] → t ∉ Ts) : DskIn B w' ad ap d ac fv :=
  ⟨h.blk.keep hk (hT _ (by simp)), h.ge, h.pow.keep hk (hT _ (by simp)), h.gep, h.cache.keep hk (fun t ht => hT t ((by decide : ∀ t ∈ ([166, 162, 196, 173, 3, 65, 5] : List Nat), t ∈ ([109, 132, 49, 166, 162, 196, 173, 3, 65, 5] : List Nat)) t ht)), h.faults.keep hk (hT _ (by simp))⟩
theorem DskAt.keep {B B' : Nat} {Ts : List TypeId} {w w' : World} {ad ap : Nat} {d : Dsk} (h : DskAt B w ad ap d) (hk : Keep B' Ts w w')
    (hT : ∀ t, t ∈ [109, 132, 49, 166, 162, 196, 173, 3, 65, 5] → t ∉ Ts) : DskAt B w' ad ap d := let ⟨ac, fv, h⟩ := h; ⟨ac, fv, h.keep hk hT⟩
theorem DskAt.ext {B : Nat} {w w' : World} {ad ap : Nat} {d : Dsk} (h : DskAt B w ad ap d) (hk : Ext w w') : DskAt B w' ad ap d := h.keep hk (by simp)
/-- The types of the blocks that a disk's operation writes. -/
abbrev DT : List TypeId := [109, 132, 166, 196, 173]

theorem Dsk.state_of (d : Dsk) : (d.dead = true ∧ d.state = 14) ∨ (d.dead = false ∧ (d.pow.off = true ∨ d.seen ≠ d.pow.fails) ∧ d.state = 13) ∨ (d.dead = false ∧ d.pow.off = false ∧ d.seen = d.pow.fails ∧ d.state = 0) := by
  unfold Dsk.state
  cases d.dead with
  | true => exact .inl ⟨rfl, rfl⟩
  | false =>
    right
    cases h : d.pow.off with
    | true => left; simp
    | false =>
      by_cases hs : d.seen = d.pow.fails
      · right; simp [hs]
      · left; simp [hs]

set_option maxHeartbeats 1000000 in
theorem dstate {B : Nat} {w : World} {ad ap : Nat} {d : Dsk} (h : DskAt B w ad ap d) :
    Calls Tryz.prog 55 #[.pointer (some ⟨ad, 0, none⟩)] w fun e w' => e = .returned (.int .i64 d.state) ∧ Ext w w' := by
  obtain ⟨ac, fv, h⟩ := h
  have c12 : w.cell? ⟨ad, 12, none⟩ = some (.pointer (some ⟨ap, 0, none⟩)) := h.blk.cell 12 rfl
  have c13 : w.cell? ⟨ad, 13, none⟩ = some (.int .i64 d.seen) := h.blk.cell 13 rfl
  have c15 : w.cell? ⟨ad, 15, none⟩ = some (.bool d.dead) := h.blk.cell 15 rfl
  have p0 : w.cell? ⟨ap, 0, none⟩ = some (.bool d.pow.off) := h.pow.cell 0 rfl
  have p3 : w.cell? ⟨ap, 3, none⟩ = some (.int .i64 d.pow.fails) := h.pow.cell 3 rfl
  clear h
  rcases d.state_of with ⟨hd, hs⟩ | ⟨hd, ho, hs⟩ | ⟨hd, ho, hf, hs⟩
  · rw [hs]; rw [hd] at c15
    clear hd hs
    go_enter Tryz.func55, Tryz.ntmps55
    go_wp2
    go_ret
    exact ⟨rfl, Ext.refl _⟩
  · rw [hs]; rw [hd] at c15
    clear hd hs
    by_cases ho1 : d.pow.off = true
    · rw [ho1] at p0
      clear ho ho1
      go_enter Tryz.func55, Tryz.ntmps55
      go_wp2
      go_quiet (fail)
      go_wp2
      go_ret
      exact ⟨rfl, (Ext.refl _).drewN _⟩
    · have ho2 : d.pow.off = false := by simpa using ho1
      rw [ho2] at p0
      have hne : (d.seen == d.pow.fails) = false := by
        rcases ho with h | h
        · exact absurd h ho1
        · simpa using h
      have hne2 : (d.seen != d.pow.fails) = true := by simp [bne, hne]
      clear ho ho1 ho2
      go_enter Tryz.func55, Tryz.ntmps55
      go_wp2
      go_quiet (fail)
      go_wp2
      go_ret
      exact ⟨rfl, (Ext.refl _).drewN _⟩
  · rw [hs]; rw [hd] at c15; rw [ho] at p0; rw [hf] at c13
    clear hd hs ho hf
    go_enter Tryz.func55, Tryz.ntmps55
    go_wp2
    go_quiet (fail)
    go_wp2
    go_ret
    exact ⟨rfl, (Ext.refl _).drewN _⟩
end Go.Proofs.YthhcooljjhdjbaaGreat
