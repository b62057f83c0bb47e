/- Contracts: the disk reads. -/
import Derived.Test.YthhcooljjhdjbaaGreatKW12
set_option linter.unusedVariables false
set_option linter.unusedSimpArgs false
namespace Go.Proofs.YthhcooljjhdjbaaGreat
open Go.RowKit

/-- 'Keep', but for one block. -/
structure KeepE (B : Nat) (Ts : List TypeId) (x : Nat) (w w' : World) : Prop where
  os : w'.os = w.os
  tape : w'.tape = w.tape
  output : w'.output = w.output
  size : w.heap.size ≤ w'.heap.size
  block : ∀ (k : Nat) (o : Obj), w.heap[k]? = some o → k ≠ x → (k < B ∨ ∀ cs T fz, o = .cells cs T fz → T ∉ Ts) → w'.heap[k]? = some o
theorem KeepE.of {B : Nat} {Ts : List TypeId} {w w' : World} (h : Keep B Ts w w') (x : Nat) : KeepE B Ts x w w' := ⟨h.os, h.tape, h.output, h.size, fun k o hk _ ho => h.block k o hk ho⟩
theorem KeepE.trans {B : Nat} {Ts : List TypeId} {x : Nat} {a b c : World} (h : KeepE B Ts x a b) (k : KeepE B Ts x b c) : KeepE B Ts x a c :=
  ⟨k.os.trans h.os, k.tape.trans h.tape, k.output.trans h.output, Nat.le_trans h.size k.size, fun i o hi hx ho => k.block i o (h.block i o hi hx ho) hx ho⟩
theorem KeepE.set {B : Nat} {Ts : List TypeId} {x : Nat} {a w : World} (h : KeepE B Ts x a w) (i : Nat) (v : Value) : KeepE B Ts x a (w.setCell ⟨x, i, none⟩ v) :=
  h.trans ⟨rfl, rfl, rfl, by simp [World.setCell], fun k o hk hx _ => by rw [Below.heap_setCell _ _ _ _ hx]; exact hk⟩
/-- The one block is new. -/
theorem KeepE.keep {B : Nat} {Ts : List TypeId} {x : Nat} {a w w' : World} (h : Keep B Ts a w) (k : KeepE B Ts x w w') (hx : a.heap.size ≤ x) : Keep B Ts a w' :=
  ⟨k.os.trans h.os, k.tape.trans h.tape, k.output.trans h.output, Nat.le_trans h.size k.size, fun i o hi ho => k.block i o (h.block i o hi ho) (by have := (Array.getElem?_eq_some_iff.1 hi).1; omega) ho⟩
theorem Blk.keepE {B : Nat} {Ts : List TypeId} {x : Nat} {w w' : World} {b : Nat} {T : TypeId} {cs : Array Value} (h : Blk w b T cs) (hk : KeepE B Ts x w w') (hT : T ∉ Ts) (hx : b ≠ x) : Blk w' b T cs :=
  hk.block b _ h hx (.inr fun _ _ _ e => by cases e; exact hT)

set_option maxHeartbeats 1000000 in
theorem dhas {B : Nat} {w : World} {ad ap : Nat} {d : Dsk} (h : DskAt B w ad ap d) (hg : d.geo.Ok) (a : Int) :
    Calls Tryz.prog 122 #[.pointer (some ⟨ad, 0, none⟩), .int .i64 a] w fun e w' => e = .returned (.bool (d.has a)) ∧ Ext w w' := by
  obtain ⟨ac, fv, h⟩ := h
  have c5 : w.cell? ⟨ad, 5, none⟩ = some (.int .i64 d.geo.random) := h.blk.cell 5 rfl
  have c6 : w.cell? ⟨ad, 6, none⟩ = some (.int .i64 d.geo.bands) := h.blk.cell 6 rfl
  have c7 : w.cell? ⟨ad, 7, none⟩ = some (.int .i64 d.geo.tracks) := h.blk.cell 7 rfl
  have c8 : w.cell? ⟨ad, 8, none⟩ = some (.int .i64 d.geo.sectors) := h.blk.cell 8 rfl
  have c9 : w.cell? ⟨ad, 9, none⟩ = some (.int .i64 d.geo.overlap) := h.blk.cell 9 rfl
  have S := gsize d.geo hg w
  unfold geoV at S
  clear h
  by_cases h0 : 0 ≤ a
  · have e : d.has a = decide (a < d.geo.size) := by simp [Dsk.has, h0]
    have HE := Lib.hid e; clear e
    go_enter Tryz.func122, Tryz.ntmps122
    go_wp2_with fail
    refine S.mono ?_
    rintro e w1 ⟨rfl, hx⟩
    go_wp2
    go_ret
    exact ⟨by rw [HE.out]; simp, hx⟩
  · have e : d.has a = false := by simp [Dsk.has, h0]
    have HE := Lib.hid e; clear e
    go_enter Tryz.func122, Tryz.ntmps122
    go_wp2
    go_ret
    exact ⟨by rw [HE.out]; simp, Ext.refl _⟩

/-- What a read has left in the variable. -/
def OutAt (w : World) (bo : Nat) : Option (List UInt8) → Prop
  | none => Blk w bo 65 #[.slice none 0 0]
  | some b => ∃ q c, Blk w bo 65 #[.slice (some ⟨q, 0, none⟩) b.length c] ∧ BytesAt w (.slice (some ⟨q, 0, none⟩) b.length c) b ∧ b ≠ [] ∧ b.length ≤ 64
def ReadPost (B : Nat) (w : World) (ad ap bo : Nat) (r : Dsk × Option (List UInt8) × Int) (e : Ending) (w' : World) : Prop :=
  e = .returned (.int .i64 r.2.2) ∧ DskAt B w' ad ap r.1 ∧ KeepE B DT bo w w' ∧ OutAt w' bo r.2.1
def Short (l : List Sec) : Prop := ∀ (i : Nat) (b : List UInt8), l[i]? = some (.data b) → b ≠ [] ∧ b.length ≤ 64

/-- A read of the sector 'fr' that is on the disk. -/
theorem read_tail {B : Nat} {w : World} {ac : Nat} {d : Dsk} (h : CacheAt B w ac d.geo d.durable d.contents d.pending) (hg : d.geo.Ok) (hs : Short d.contents) (hl : d.contents.length = d.geo.size) (fr : Int) :
    (∃ b, (d.has fr = true ∧ d.sec fr = .data b) ∧ b ≠ [] ∧ b.length ≤ 64 ∧ Calls Tryz.prog 123 #[.pointer (some ⟨ac, 0, none⟩), .int .i64 fr] w fun e w' => ∃ q yc, e = .returned (.tuple #[.slice (some ⟨q, 0, none⟩) b.length yc, .int .i64 0]) ∧ BytesAt w' (.slice (some ⟨q, 0, none⟩) b.length yc) b ∧ Ext w w') ∨
    ((∀ b, ¬ (d.has fr = true ∧ d.sec fr = .data b)) ∧ Calls Tryz.prog 123 #[.pointer (some ⟨ac, 0, none⟩), .int .i64 fr] w fun e w' => ∃ n : Int, e = .returned (.tuple #[.slice none 0 0, .int .i64 n]) ∧ (n == 0) = false ∧ w = w') := by
  by_cases hb : ∃ b, d.has fr = true ∧ d.sec fr = .data b
  · obtain ⟨b, h1, h2⟩ := hb
    simp only [Dsk.has, Bool.and_eq_true, decide_eq_true_eq] at h1
    obtain ⟨n, rfl⟩ := Int.eq_ofNat_of_zero_le h1.1
    have hn : n < d.contents.length := by omega
    have hc : d.contents[n]? = some (.data b) := by
      unfold Dsk.sec at h2
      rw [Int.toNat_natCast, List.getD_eq_getElem?_getD, List.getElem?_eq_getElem hn, Option.getD_some] at h2
      rw [List.getElem?_eq_getElem hn, h2]
    obtain ⟨q1, q2⟩ := hs n b hc
    exact .inl ⟨b, ⟨by simp [Dsk.has]; omega, h2⟩, q1, q2, cread_yes h n b hc q2 q1 hg⟩
  · refine .inr ⟨fun b hb' => hb ⟨b, hb'⟩, cread_no h fr hg fun b hr he => hb ⟨b, ?_, he⟩⟩
    simp [Dsk.has]; omega
theorem Dsk.readWork_out {a : Int} {d : Dsk} {f : Flt} (h : d.has a = false) : Dsk.readWork a d f = (d, none, 2) := by simp [Dsk.readWork, h]
theorem Dsk.readWork_fail {a : Int} {d : Dsk} {f : Flt} (h : d.has a = true) (h4 : f.kind = 4) : Dsk.readWork a d f = (d, none, 15) := by simp [Dsk.readWork, h, h4]
theorem Dsk.readWork_yes {a fr : Int} {d : Dsk} {f : Flt} {b : List UInt8} (h : d.has a = true) (h4 : f.kind ≠ 4) (hfr : fr = if f.kind = 5 then f.to else a) (hb : d.has fr = true ∧ d.sec fr = .data b) :
    Dsk.readWork a d f = ({ d with reads := wrap64 (d.reads + 1) }, some b, 0) := by
  unfold Dsk.readWork
  rw [if_neg (by simp [h]), if_neg h4]
  simp only [← hfr, hb.1, hb.2, if_true]
theorem Dsk.readWork_no {a fr : Int} {d : Dsk} {f : Flt} (h : d.has a = true) (h4 : f.kind ≠ 4) (hfr : fr = if f.kind = 5 then f.to else a) (hb : ∀ b, ¬ (d.has fr = true ∧ d.sec fr = .data b)) :
    Dsk.readWork a d f = (d, none, 15) := by
  unfold Dsk.readWork
  rw [if_neg (by simp [h]), if_neg h4]
  simp only [← hfr]
  cases hh : d.has fr with
  | false => simp
  | true =>
    simp only [if_true]
    cases hs : d.sec fr with
    | data b => exact absurd ⟨hh, hs⟩ (hb b)
    | _ => rfl
theorem CacheAt.len {B : Nat} {w : World} {c : Nat} {g : Geo} {du co : List Sec} {ps : List POp} (h : CacheAt B w c g du co ps) : co.length = g.size := let ⟨_, _, _, _, _, _, _, h⟩ := h; h.con.len

/-- A variable that holds no bytes yet is none of the disk's. -/
theorem OpAt.setOut {g : Geo} {w : World} {f : Value} {p : POp} (h : OpAt g w f p) {bo : Nat} (hbo : Blk w bo 65 #[.slice none 0 0]) (v : Value) : OpAt g (w.setCell ⟨bo, 0, none⟩ v) f p := by
  have k : Keep 0 [65] w (w.setCell ⟨bo, 0, none⟩ v) := (Keep.refl _ _ _).set hbo (Nat.zero_le _) (by simp) _ _
  cases p with
  | write a b =>
    obtain ⟨ba, bb, q, c, e, h1, h2, h4, r⟩ := h
    have hne : bo ≠ bb := by
      intro e; subst e
      unfold Blk at hbo h2; rw [hbo] at h2; simp at h2
    exact ⟨ba, bb, q, c, e, h1.keep k (by simp), h2.set_ne _ _ hne, BytesAt.keep h4 k (by simp), r⟩
  | erase n =>
    obtain ⟨bk, e, h1, r⟩ := h
    exact ⟨bk, e, h1.keep k (by simp), r⟩
theorem DskIn.setOut {B : Nat} {w : World} {ad ap : Nat} {d : Dsk} {ac : Nat} {fv : Value} (h : DskIn B w ad ap d ac fv) {bo : Nat} (hbo : Blk w bo 65 #[.slice none 0 0]) (v : Value) : DskIn B (w.setCell ⟨bo, 0, none⟩ v) ad ap d ac fv := by
  have k : Keep 0 [65] w (w.setCell ⟨bo, 0, none⟩ v) := (Keep.refl _ _ _).set hbo (Nat.zero_le _) (by simp) _ _
  obtain ⟨md, sd, cd, mc, sc, cc, pv, c⟩ := h.cache
  obtain ⟨fs, row, pend⟩ := c.pend
  exact ⟨h.blk.keep k (by simp), h.ge, h.pow.keep k (by simp), h.gep,
    ⟨md, sd, cd, mc, sc, cc, pv, c.blk.keep k (by simp), c.ge, c.dur.keep k (by simp) (by simp) (by simp), c.con.keep k (by simp) (by simp) (by simp), c.ne,
      fs, ownsRow_keep row k (by simp), fun i p hp => let ⟨f, h1, h2⟩ := pend i p hp; ⟨f, h1, h2.setOut hbo v⟩⟩,
    h.faults.keep k (by simp)⟩

set_option maxHeartbeats 2000000 in
theorem read1 {B : Nat} {w : World} {ad ap bd ba bo : Nat} {d : Dsk} (h : DskAt B w ad ap d) (hbd : Blk w bd 54 #[.pointer (some ⟨ad, 0, none⟩)]) (a : Int) (hba : Blk w ba 3 #[.int .i64 a]) (hbo : Blk w bo 65 #[.slice none 0 0])
    (hg : d.geo.Ok) (hs : Short d.contents) (f : Flt) :
    Calls Tryz.prog 121 #[fltV f, .pointer (some ⟨bd, 0, none⟩), .pointer (some ⟨ba, 0, none⟩), .pointer (some ⟨bo, 0, none⟩)] w (ReadPost B w ad ap bo (Dsk.readWork a d f)) := by
  have hx : Ext w (w.alloc (.cells #[.int .i64 f.place, .int .i64 f.kind, .int .i64 f.to] 49)) := (Ext.refl _).alloc _
  have HS := dhas (h.ext hx) hg a
  obtain ⟨ac, fv, h⟩ := h
  have hl := h.cache.len
  have b0 : w.cell? ⟨bd, 0, none⟩ = some (.pointer (some ⟨ad, 0, none⟩)) := hbd.cell 0 rfl
  have b1 : w.cell? ⟨ba, 0, none⟩ = some (.int .i64 a) := hba.cell 0 rfl
  have l0 := hbd.lt
  have l1 := hba.lt
  have hb : Blk (w.alloc (.cells #[.int .i64 f.place, .int .i64 f.kind, .int .i64 f.to] 49)) w.heap.size 49 #[.int .i64 f.place, .int .i64 f.kind, .int .i64 f.to] := Blk.new _ _ _
  have H := Lib.hid h
  have HD := Lib.hid hbd
  have HA := Lib.hid hba
  have HO := Lib.hid hbo
  have HB := Lib.hid hb
  have HX := Lib.hid hx
  clear h hbd hba hbo hx hb
  unfold fltV
  go_enter Tryz.func121, Tryz.ntmps121
  go_wp2_with fail
  refine HS.mono ?_
  rintro e w1 ⟨rfl, hx1⟩
  have hx2 : Ext w w1 := HX.out.trans hx1
  have d0 : w1.cell? ⟨bd, 0, none⟩ = some (.pointer (some ⟨ad, 0, none⟩)) := (HD.out.ext hx2).cell 0 rfl
  have d1 : w1.cell? ⟨ba, 0, none⟩ = some (.int .i64 a) := (HA.out.ext hx2).cell 0 rfl
  have p1 : w1.cell? ⟨w.heap.size, 1, none⟩ = some (.int .i64 f.kind) := (HB.out.ext hx1).cell 1 rfl
  have p2 : w1.cell? ⟨w.heap.size, 2, none⟩ = some (.int .i64 f.to) := (HB.out.ext hx1).cell 2 rfl
  have H1 := Lib.hid (H.out.keep hx2 (by simp))
  have HO1 := Lib.hid (HO.out.ext hx2)
  have HX2 := Lib.hid hx2
  have c10 : w1.cell? ⟨ad, 10, none⟩ = some (.pointer (some ⟨ac, 0, none⟩)) := H1.out.blk.cell 10 rfl
  clear HS hx1 hx2
  by_cases hh : d.has a = true
  · by_cases h4 : f.kind = 4
    · have HR := Lib.hid (Dsk.readWork_fail hh h4)
      have h4b : (f.kind == 4) = true := by simpa using h4
      clear h4
      go_wp2
      go_ret
      rw [HR.out]
      exact ⟨rfl, ⟨ac, fv, H1.out⟩, KeepE.of (HX2.out.keep _ _) _, HO1.out⟩
    · have h4b : (f.kind == 4) = false := by simpa using h4
      have HK4 := Lib.hid h4
      clear h4
      by_cases h5 : f.kind = 5
      · have h5b : (f.kind == 5) = true := by simpa using h5
        have HFR : Hid (f.to = if f.kind = 5 then f.to else a) := Lib.hid (by rw [if_pos h5])
        have RT := read_tail H1.out.cache hg hs hl f.to
        clear h5
        rcases RT with ⟨b, hb, hb1, hb2, RC⟩ | ⟨hno, RC⟩
        · have HR := Lib.hid (Dsk.readWork_yes hh HK4.out HFR.out hb)
          clear hb
          go_wp2_with fail
          refine RC.mono ?_
          rintro e w2 ⟨q, yc, rfl, hy, hx3⟩
          have hbo2 := HO1.out.ext hx3
          have HIN := Lib.hid (H1.out.keep hx3 (by simp))
          have o0 : w2.cell? ⟨bo, 0, none⟩ = some (.slice none 0 0) := hbo2.cell 0 rfl
          have fo0 : w2.frozen? ⟨bo, 0, none⟩ = false := hbo2.free 0
          have e0 : w2.cell? ⟨bd, 0, none⟩ = some (.pointer (some ⟨ad, 0, none⟩)) := (HD.out.ext (HX2.out.trans hx3)).cell 0 rfl
          have g0 : w2.cell? ⟨ad, 0, none⟩ = some (.int .i64 d.reads) := HIN.out.blk.cell 0 rfl
          have fg0 : w2.frozen? ⟨ad, 0, none⟩ = false := HIN.out.blk.free 0
          have n1 : bo ≠ bd := hbo2.ne (HD.out.ext (HX2.out.trans hx3)) (by decide)
          have n2 : bo ≠ ad := hbo2.ne HIN.out.blk (by decide)
          have HP := Lib.hid ((HIN.out.setOut hbo2 (.slice (some ⟨q, 0, none⟩) b.length yc)).put 0 (.int .i64 (wrap64 (d.reads + 1))) { d with reads := wrap64 (d.reads + 1) } rfl rfl rfl rfl rfl rfl rfl)
          have HBO := Lib.hid (hbo2.set 0 (.slice (some ⟨q, 0, none⟩) b.length yc))
          have HK := Lib.hid (((KeepE.of ((HX2.out.trans hx3).keep B DT) bo).set 0 (.slice (some ⟨q, 0, none⟩) b.length yc)))
          have HY := Lib.hid (BytesAt.keep hy ((Keep.refl 0 [65] w2).set hbo2 (Nat.zero_le _) (by simp) 0 (.slice (some ⟨q, 0, none⟩) b.length yc)) (by simp))
          clear hbo2 hy hx3 RC
          go_wp2
          go_ret
          rw [HR.out]
          exact ⟨rfl, ⟨ac, fv, HP.out.1⟩, HK.out.trans (KeepE.of HP.out.2 _), ⟨q, yc, HBO.out.keep HP.out.2 (by simp), BytesAt.keep HY.out HP.out.2 (by simp), hb1, hb2⟩⟩
        · have HR := Lib.hid (Dsk.readWork_no hh HK4.out HFR.out hno)
          clear hno
          go_wp2_with fail
          refine RC.mono ?_
          rintro e w2 ⟨n, rfl, hn, rfl⟩
          have hn2 : (n != 0) = true := by simp [bne, hn]
          go_wp2
          go_ret
          rw [HR.out]
          exact ⟨rfl, ⟨ac, fv, H1.out⟩, KeepE.of (HX2.out.keep _ _) _, HO1.out⟩
      · have h5b : (f.kind == 5) = false := by simpa using h5
        have HFR : Hid (a = if f.kind = 5 then f.to else a) := Lib.hid (by rw [if_neg h5])
        have RT := read_tail H1.out.cache hg hs hl a
        clear h5
        rcases RT with ⟨b, hb, hb1, hb2, RC⟩ | ⟨hno, RC⟩
        · have HR := Lib.hid (Dsk.readWork_yes hh HK4.out HFR.out hb)
          clear hb
          go_wp2_with fail
          refine RC.mono ?_
          rintro e w2 ⟨q, yc, rfl, hy, hx3⟩
          have hbo2 := HO1.out.ext hx3
          have HIN := Lib.hid (H1.out.keep hx3 (by simp))
          have o0 : w2.cell? ⟨bo, 0, none⟩ = some (.slice none 0 0) := hbo2.cell 0 rfl
          have fo0 : w2.frozen? ⟨bo, 0, none⟩ = false := hbo2.free 0
          have e0 : w2.cell? ⟨bd, 0, none⟩ = some (.pointer (some ⟨ad, 0, none⟩)) := (HD.out.ext (HX2.out.trans hx3)).cell 0 rfl
          have g0 : w2.cell? ⟨ad, 0, none⟩ = some (.int .i64 d.reads) := HIN.out.blk.cell 0 rfl
          have fg0 : w2.frozen? ⟨ad, 0, none⟩ = false := HIN.out.blk.free 0
          have n1 : bo ≠ bd := hbo2.ne (HD.out.ext (HX2.out.trans hx3)) (by decide)
          have n2 : bo ≠ ad := hbo2.ne HIN.out.blk (by decide)
          have HP := Lib.hid ((HIN.out.setOut hbo2 (.slice (some ⟨q, 0, none⟩) b.length yc)).put 0 (.int .i64 (wrap64 (d.reads + 1))) { d with reads := wrap64 (d.reads + 1) } rfl rfl rfl rfl rfl rfl rfl)
          have HBO := Lib.hid (hbo2.set 0 (.slice (some ⟨q, 0, none⟩) b.length yc))
          have HK := Lib.hid (((KeepE.of ((HX2.out.trans hx3).keep B DT) bo).set 0 (.slice (some ⟨q, 0, none⟩) b.length yc)))
          have HY := Lib.hid (BytesAt.keep hy ((Keep.refl 0 [65] w2).set hbo2 (Nat.zero_le _) (by simp) 0 (.slice (some ⟨q, 0, none⟩) b.length yc)) (by simp))
          clear hbo2 hy hx3 RC
          go_wp2
          go_ret
          rw [HR.out]
          exact ⟨rfl, ⟨ac, fv, HP.out.1⟩, HK.out.trans (KeepE.of HP.out.2 _), ⟨q, yc, HBO.out.keep HP.out.2 (by simp), BytesAt.keep HY.out HP.out.2 (by simp), hb1, hb2⟩⟩
        · have HR := Lib.hid (Dsk.readWork_no hh HK4.out HFR.out hno)
          clear hno
          go_wp2_with fail
          refine RC.mono ?_
          rintro e w2 ⟨n, rfl, hn, rfl⟩
          have hn2 : (n != 0) = true := by simp [bne, hn]
          go_wp2
          go_ret
          rw [HR.out]
          exact ⟨rfl, ⟨ac, fv, H1.out⟩, KeepE.of (HX2.out.keep _ _) _, HO1.out⟩
  · have hh2 : d.has a = false := by simpa using hh
    have HR := Lib.hid (Dsk.readWork_out (f := f) hh2)
    clear hh
    go_wp2
    go_ret
    rw [HR.out]
    exact ⟨rfl, ⟨ac, fv, H1.out⟩, KeepE.of (HX2.out.keep _ _) _, HO1.out⟩

def BytesOut (w : World) (y : Value) : Option (List UInt8) → Prop
  | none => y = .slice none 0 0
  | some b => ∃ q c, y = .slice (some ⟨q, 0, none⟩) b.length c ∧ BytesAt w (.slice (some ⟨q, 0, none⟩) b.length c) b ∧ b ≠ [] ∧ b.length ≤ 64
theorem OutAt.value {w : World} {bo : Nat} {r : Option (List UInt8)} (h : OutAt w bo r) : ∃ a n c, w.cell? ⟨bo, 0, none⟩ = some (.slice a n c) ∧ BytesOut w (.slice a n c) r := by
  cases r with
  | none => exact ⟨none, 0, 0, Blk.cell h 0 rfl, rfl⟩
  | some b =>
    obtain ⟨q, c, h1, h2⟩ := h
    exact ⟨_, _, _, h1.cell 0 rfl, q, c, rfl, h2⟩
theorem readGoal {B : Nat} {w : World} {ad ap bo : Nat} {caps : Array Value} (d : Dsk) (key a : Int) (hbo : Blk w bo 65 #[.slice none 0 0])
    (hw : ∀ d' f w', (d.pre key) = (d', .inr f) → DskAt B w' ad ap d' → Keep B DT w w' → Blk w' bo 65 #[.slice none 0 0] → Calls Tryz.prog 121 (#[fltV f] ++ caps) w' (ReadPost B w' ad ap bo (Dsk.readWork a d' f))) :
    PerfGoal B w ad ap 121 caps (fun v w' => ReadPost B w ad ap bo (d.read key a) (.returned v) w') (d.pre key) := by
  unfold Dsk.read
  rw [Dsk.perform_eq]
  cases hp : d.pre key with
  | mk d' r =>
    cases r with
    | inl e => exact fun w' h1 h2 => ⟨rfl, h1, KeepE.of h2 _, hbo.keep h2 (by simp)⟩
    | inr f => exact fun w' h1 h2 => (hw d' f w' hp h1 h2 (hbo.keep h2 (by simp))).mono fun e w'' ⟨h3, h4, h5, h6⟩ => ⟨_, h3, by rfl, h4, (KeepE.of h2 _).trans h5, h6⟩
def DreadPost (B : Nat) (w : World) (ad ap : Nat) (r : Dsk × Option (List UInt8) × Int) (e : Ending) (w' : World) : Prop :=
  ∃ a n c, e = .returned (.tuple #[.slice a n c, .int .i64 r.2.2]) ∧ DskAt B w' ad ap r.1 ∧ Keep B DT w w' ∧ BytesOut w' (.slice a n c) r.2.1
set_option maxHeartbeats 1000000 in
theorem dread {B : Nat} {w : World} {ad ap : Nat} {d : Dsk} (h : DskAt B w ad ap d) (hg : d.geo.Ok) (hf : d.faults.length ≤ 4096) (hs : Short d.contents) (key a : Int) :
    Calls Tryz.prog 93 #[.pointer (some ⟨ad, 0, none⟩), .int .u64 key, .int .i64 a] w (DreadPost B w ad ap (d.read key a)) := by
  have hx : Ext w (((w.alloc (.cells #[.pointer (some ⟨ad, 0, none⟩)] 54)).alloc (.cells #[.int .i64 a] 3)).alloc (.cells #[.slice none 0 0] 65)) := (((Ext.refl _).alloc _).alloc _).alloc _
  have hb : Blk (((w.alloc (.cells #[.pointer (some ⟨ad, 0, none⟩)] 54)).alloc (.cells #[.int .i64 a] 3)).alloc (.cells #[.slice none 0 0] 65)) w.heap.size 54 #[.pointer (some ⟨ad, 0, none⟩)] := ((Blk.new _ _ _).alloc _).alloc _
  have hb2 : Blk (((w.alloc (.cells #[.pointer (some ⟨ad, 0, none⟩)] 54)).alloc (.cells #[.int .i64 a] 3)).alloc (.cells #[.slice none 0 0] 65)) (w.heap.size + 1) 3 #[.int .i64 a] := by
    have := (Blk.new (w.alloc (.cells #[.pointer (some ⟨ad, 0, none⟩)] 54)) #[.int .i64 a] 3).alloc (.cells #[.slice none 0 0] 65)
    rwa [World.size_alloc] at this
  have hb3 : Blk (((w.alloc (.cells #[.pointer (some ⟨ad, 0, none⟩)] 54)).alloc (.cells #[.int .i64 a] 3)).alloc (.cells #[.slice none 0 0] 65)) (w.heap.size + 2) 65 #[.slice none 0 0] := by
    have := Blk.new ((w.alloc (.cells #[.pointer (some ⟨ad, 0, none⟩)] 54)).alloc (.cells #[.int .i64 a] 3)) #[.slice none 0 0] 65
    rwa [World.size_alloc, World.size_alloc] at this
  have P := dperform 121 (by simp) (h.ext hx) hf key #[.pointer (some ⟨w.heap.size, 0, none⟩), .pointer (some ⟨w.heap.size + 1, 0, none⟩), .pointer (some ⟨w.heap.size + 2, 0, none⟩)] _ (readGoal d key a hb3 fun d' f w' hpre h1 h2 h3 => by
    obtain ⟨e1, e2, e3, _⟩ := Dsk.pre_same hpre
    exact read1 h1 (hb.keep h2 (by simp)) a (hb2.keep h2 (by simp)) h3 (by rw [e1]; exact hg) (by rw [e3]; exact hs) f)
  have HX := Lib.hid hx
  clear h hx hb hb2 hb3
  go_enter Tryz.func93, Tryz.ntmps93
  go_wp2_with fail
  refine P.mono ?_
  rintro e w1 ⟨v, rfl, hv, h1, h2, h3⟩
  obtain rfl : v = .int .i64 (d.read key a).2.2 := by simpa using hv
  obtain ⟨ya, yn, yc, o0, ho⟩ := h3.value
  have H1 := Lib.hid h1
  have H2 := Lib.hid (KeepE.keep (HX.out.keep B DT) h2 (by omega))
  have HO := Lib.hid ho
  clear h1 h2 h3 P hv ho
  go_wp2
  go_ret2
  exact ⟨ya, yn, yc, rfl, H1.out, H2.out, HO.out⟩
end Go.Proofs.YthhcooljjhdjbaaGreat
