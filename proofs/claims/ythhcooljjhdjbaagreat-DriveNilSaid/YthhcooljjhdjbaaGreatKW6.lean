/- Contracts: the cache. -/
import Derived.Test.YthhcooljjhdjbaaGreatKW5
set_option linter.unusedVariables false
set_option linter.unusedSimpArgs false
namespace Go.Proofs.YthhcooljjhdjbaaGreat
open Go.RowKit

/-- A pending operation is a closure over cells of its own. -/
def OpAt (g : Geo) (w : World) (f : Value) : POp → Prop
  | .write a b => ∃ ba bb q c, f = .func (.func 171) #[] #[.pointer (some ⟨ba, 0, none⟩), .pointer (some ⟨bb, 0, none⟩)] ∧ Blk w ba 3 #[.int .i64 (a : Int)] ∧
      Blk w bb 65 #[.slice (some ⟨q, 0, none⟩) b.length c] ∧ BytesAt w (.slice (some ⟨q, 0, none⟩) b.length c) b ∧ b ≠ [] ∧ b.length ≤ 64 ∧ a < g.size
  | .erase k => ∃ bk, f = .func (.func 126) #[] #[.pointer (some ⟨bk, 0, none⟩)] ∧ Blk w bk 3 #[.int .i64 (k : Int)] ∧ k < g.bands
theorem OpAt.keep {B : Nat} {Ts : List TypeId} {g : Geo} {w w' : World} {f : Value} {p : POp} (h : OpAt g w f p) (hk : Keep B Ts w w') (h3 : 3 ∉ Ts) (h65 : 65 ∉ Ts) (h5 : 5 ∉ Ts) : OpAt g w' f p := by
  cases p with
  | write a b =>
    obtain ⟨ba, bb, q, c, e, h1, h2, h4, r⟩ := h
    exact ⟨ba, bb, q, c, e, h1.keep hk h3, h2.keep hk h65, BytesAt.keep h4 hk h5, r⟩
  | erase k =>
    obtain ⟨bk, e, h1, r⟩ := h
    exact ⟨bk, e, h1.keep hk h3, r⟩
theorem OpAt.oneCell {g : Geo} {w : World} {f : Value} {p : POp} (h : OpAt g w f p) : f.oneCell' = true := by
  cases p with
  | write a b => obtain ⟨ba, bb, q, c, e, _⟩ := h; subst e; rfl
  | erase k => obtain ⟨bk, e, _⟩ := h; subst e; rfl
def PendAt (B : Nat) (g : Geo) (w : World) (pv : Value) (ps : List POp) : Prop :=
  ∃ fs : List Value, w.ownsRow B 173 1 pv ps.length fs ∧ ∀ (i : Nat) (p : POp), ps[i]? = some p → ∃ f, fs[i]? = some f ∧ OpAt g w f p
theorem PendAt.keep {B B' : Nat} {Ts : List TypeId} {g : Geo} {w w' : World} {pv : Value} {ps : List POp} (h : PendAt B g w pv ps) (hk : Keep B' Ts w w') (h173 : 173 ∉ Ts) (h3 : 3 ∉ Ts) (h65 : 65 ∉ Ts) (h5 : 5 ∉ Ts) : PendAt B g w' pv ps :=
  let ⟨fs, r, q⟩ := h
  ⟨fs, ownsRow_keep r hk h173, fun (i : Nat) (p : POp) (hp : ps[i]? = some p) => let ⟨f, h1, h2⟩ := q i p hp; ⟨f, h1, h2.keep hk h3 h65 h5⟩⟩
theorem PendAt.shape {B : Nat} {g : Geo} {w : World} {pv : Value} {ps : List POp} (h : PendAt B g w pv ps) : ∃ a c, pv = .slice a ps.length c := by
  obtain ⟨fs, r, _⟩ := h
  rcases ownsRow_shape r with ⟨h1, h2⟩ | ⟨q, c, h1, _⟩
  · exact ⟨_, _, by rw [h1, h2]⟩
  · exact ⟨_, _, h1⟩
/-- The cache's memory, by its blocks. -/
structure CacheIn (B : Nat) (w : World) (c : Nat) (g : Geo) (du co : List Sec) (ps : List POp) (md sd cd mc sc cc : Nat) (pv : Value) : Prop where
  blk : Blk w c 166 #[.pointer (some ⟨md, 0, none⟩), .pointer (some ⟨mc, 0, none⟩), pv]
  ge : B ≤ c
  dur : MediaAt B w md sd cd g du
  con : MediaAt B w mc sc cc g co
  ne : sd ≠ sc
  pend : PendAt B g w pv ps
def CacheAt (B : Nat) (w : World) (c : Nat) (g : Geo) (du co : List Sec) (ps : List POp) : Prop := ∃ md sd cd mc sc cc pv, CacheIn B w c g du co ps md sd cd mc sc cc pv
theorem CacheIn.keep {B B' : Nat} {Ts : List TypeId} {w w' : World} {c : Nat} {g : Geo} {du co : List Sec} {ps : List POp} {md sd cd mc sc cc : Nat} {pv : Value} (h : CacheIn B w c g du co ps md sd cd mc sc cc pv) (hk : Keep B' Ts w w')
    (hT : ∀ t, t ∈ [166, 162, 196, 173, 3, 65, 5] → t ∉ Ts) : CacheIn B w' c g du co ps md sd cd mc sc cc pv :=
  ⟨h.blk.keep hk (hT _ (by simp)), h.ge, h.dur.keep hk (hT _ (by simp)) (hT _ (by simp)) (hT _ (by simp)), h.con.keep hk (hT _ (by simp)) (hT _ (by simp)) (hT _ (by simp)), h.ne,
    h.pend.keep hk (hT _ (by simp)) (hT _ (by simp)) (hT _ (by simp)) (hT _ (by simp))⟩
theorem CacheAt.keep {B B' : Nat} {Ts : List TypeId} {w w' : World} {c : Nat} {g : Geo} {du co : List Sec} {ps : List POp} (h : CacheAt B w c g du co ps) (hk : Keep B' Ts w w')
    (hT : ∀ t, t ∈ [166, 162, 196, 173, 3, 65, 5] → t ∉ Ts) : CacheAt B w' c g du co ps :=
  let ⟨md, sd, cd, mc, sc, cc, pv, h⟩ := h; ⟨md, sd, cd, mc, sc, cc, pv, h.keep hk hT⟩
theorem CacheAt.ext {B : Nat} {w w' : World} {c : Nat} {g : Geo} {du co : List Sec} {ps : List POp} (h : CacheAt B w c g du co ps) (hk : Ext w w') : CacheAt B w' c g du co ps := h.keep hk (by simp)
/-- A medium beside one whose sectors are written. -/
theorem MediaAt.keepOther {B : Nat} {w w' : World} {m sd cap m' sd' cap' : Nat} {g : Geo} {secs secs' : List Sec} (h : MediaAt B w m sd cap g secs) (h' : MediaAt B w m' sd' cap' g secs') (hgr : w.grownBy w' (some sd'))
    (hs : sd ≠ sd') : MediaAt B w' m sd cap g secs := by
  have hk := h'.keepOf (Ts := [196]) hgr (by simp)
  obtain ⟨cells, row, sc⟩ := h.row
  refine ⟨h.blk.keep hk (by simp), h.len, cells, ⟨row.1, ?_⟩, sc.keep hk (by simp)⟩
  rcases row.2 with h2 | ⟨q, cap, cur, hv, hg, hc, r⟩
  · exact .inl h2
  · refine .inr ⟨q, cap, cur, hv, hg, ?_, r⟩
    simp only [Value.slice.injEq, Option.some.injEq, Addr.mk.injEq, and_true, true_and] at hv
    obtain ⟨rfl, rfl⟩ := hv
    exact Blk.grown hc hgr hs

set_option maxHeartbeats 1000000 in
theorem cnew {B : Nat} {w : World} {m sd cap : Nat} {g : Geo} {secs : List Sec} (h : MediaAt B w m sd cap g secs) (hg : g.Ok) (hB : B ≤ w.heap.size) :
    Calls Tryz.prog 85 #[.pointer (some ⟨m, 0, none⟩)] w fun e w' => ∃ c, e = .returned (.pointer (some ⟨c, 0, none⟩)) ∧ CacheAt B w' c g secs secs [] ∧ Ext w w' ∧ w.heap.size ≤ c := by
  have C1 := mclone h hg hB
  have HM := Lib.hid h
  clear h
  go_enter Tryz.func85, Tryz.ntmps85
  go_wp2_with fail
  refine C1.mono ?_
  rintro e w1 ⟨m1, s1, c1, rfl, h1, hx1, a1, a2⟩
  have C2 := mclone (B' := B) (HM.out.keep hx1 (by simp) (by simp) (by simp)) hg (Nat.le_trans hB hx1.size)
  have H1 := Lib.hid h1
  clear h1 C1
  go_wp2_with fail
  refine C2.mono ?_
  rintro e w2 ⟨m2, s2, c2, rfl, h2, hx2, b1, b2⟩
  have H2 := Lib.hid h2
  clear h2 C2
  go_wp2
  go_ret
  have hx3 := (Ext.refl w2).alloc (.cells #[.pointer (some ⟨m1, 0, none⟩), .pointer (some ⟨m2, 0, none⟩), .slice none 0 0] 166)
  refine ⟨_, rfl, ⟨m1, s1, c1, m2, s2, c2, .slice none 0 0, Blk.new _ _ _, ?_, ?_, ?_, ?_, ?_⟩, (Ext.trans hx1 hx2).alloc _, ?_⟩
  · have := hx1.size; have := hx2.size; omega
  · exact (H1.out.keep hx2 (by simp) (by simp) (by simp)).keep hx3 (by simp) (by simp) (by simp)
  · exact H2.out.keep hx3 (by simp) (by simp) (by simp)
  · have := H1.out.sec_lt; omega
  · exact ⟨[], World.ownsRow_nil _ _ _ _, fun i p hp => by simp at hp⟩
  · have := hx1.size; have := hx2.size; omega

theorem cread_yes {B : Nat} {w : World} {c : Nat} {g : Geo} {du co : List Sec} {ps : List POp} (h : CacheAt B w c g du co ps) (a : Nat) (b : List UInt8) (hb : co[a]? = some (.data b)) (hl : b.length ≤ 64) (hl1 : b ≠ []) (hg : g.Ok) :
    Calls Tryz.prog 123 #[.pointer (some ⟨c, 0, none⟩), .int .i64 a] w fun e w' => ∃ q yc, e = .returned (.tuple #[.slice (some ⟨q, 0, none⟩) b.length yc, .int .i64 0]) ∧ BytesAt w' (.slice (some ⟨q, 0, none⟩) b.length yc) b ∧ Ext w w' := by
  obtain ⟨md, sd, cd, mc, sc, cc, pv, h⟩ := h
  have c1 : w.cell? ⟨c, 1, none⟩ = some (.pointer (some ⟨mc, 0, none⟩)) := h.blk.cell 1 rfl
  have R := mread_yes h.con a b hb hl hl1 hg
  clear h hb
  go_enter Tryz.func123, Tryz.ntmps123
  go_wp2_with fail
  refine R.mono ?_
  rintro e w1 ⟨q, yc, rfl, hy, hx⟩
  go_wp2
  go_ret2
  exact ⟨q, yc, rfl, hy, hx⟩
/-- Reading what cannot be read: some error, no bytes. -/
theorem cread_no {B : Nat} {w : World} {c : Nat} {g : Geo} {du co : List Sec} {ps : List POp} (h : CacheAt B w c g du co ps) (a : Int) (hg : g.Ok) (ha : ∀ b, 0 ≤ a ∧ a < g.size → co.getD a.toNat .blank ≠ .data b) :
    Calls Tryz.prog 123 #[.pointer (some ⟨c, 0, none⟩), .int .i64 a] w fun e w' => ∃ n : Int, e = .returned (.tuple #[.slice none 0 0, .int .i64 n]) ∧ (n == 0) = false ∧ w = w' := by
  obtain ⟨md, sd, cd, mc, sc, cc, pv, h⟩ := h
  have c1 : w.cell? ⟨c, 1, none⟩ = some (.pointer (some ⟨mc, 0, none⟩)) := h.blk.cell 1 rfl
  have R : Calls Tryz.prog 152 #[.pointer (some ⟨mc, 0, none⟩), .int .i64 a] w fun e w' => ∃ n : Int, e = .returned (.tuple #[.slice none 0 0, .int .i64 n]) ∧ (n == 0) = false ∧ w = w' := by
    by_cases hr : 0 ≤ a ∧ a < g.size
    · obtain ⟨n, rfl⟩ := Int.eq_ofNat_of_zero_le hr.1
      have hn : n < co.length := by have := h.con.len; omega
      have hs : co[n]? = some co[n] := List.getElem?_eq_getElem hn
      have hst : co[n].state = 0 ∨ co[n].state = 2 := by
        have := fun b => ha b hr
        rw [Int.toNat_natCast, List.getD_eq_getElem?_getD, hs, Option.getD_some] at this
        cases hc : co[n] with
        | blank => exact .inl rfl
        | dead => exact .inr rfl
        | data b => exact absurd hc (this b)
      exact (mread_no h.con n _ hs hst hg).mono fun e w' ⟨he, hw⟩ => ⟨15, he, rfl, hw.symm⟩
    · exact (mread_out h.con a hr).mono fun e w' ⟨he, hw⟩ => ⟨2, he, rfl, hw.symm⟩
  clear h ha
  go_enter Tryz.func123, Tryz.ntmps123
  go_wp2_with fail
  refine R.mono ?_
  rintro e w1 ⟨n, rfl, hn, rfl⟩
  go_wp2
  go_ret2
  exact ⟨n, rfl, hn, rfl⟩
end Go.Proofs.YthhcooljjhdjbaaGreat
