/- Contracts: the disk flushes and erases. -/
import Derived.Test.YthhcooljjhdjbaaGreatKW11
set_option linter.unusedVariables false
set_option linter.unusedSimpArgs false
namespace Go.Proofs.YthhcooljjhdjbaaGreat
open Go.RowKit

theorem DskIn.put {B : Nat} {w : World} {ad ap : Nat} {d : Dsk} {ac : Nat} {fv : Value} (h : DskIn B w ad ap d ac fv) (i : Nat) (v : Value) (d' : Dsk)
    (hc : (dskCells d ac ap fv).setIfInBounds i v = dskCells d' ac ap fv) (h1 : d'.pow = d.pow) (h2 : d'.geo = d.geo) (h3 : d'.durable = d.durable) (h4 : d'.contents = d.contents) (h5 : d'.pending = d.pending) (h6 : d'.faults = d.faults) :
    DskIn B (w.setCell ⟨ad, i, none⟩ v) ad ap d' ac fv ∧ Keep B DT w (w.setCell ⟨ad, i, none⟩ v) := by
  have k : Keep B [109] w (w.setCell ⟨ad, i, none⟩ v) := (Keep.refl _ _ _).set h.blk h.ge (by simp) _ _
  refine ⟨⟨by rw [← hc]; exact h.blk.set i v, h.ge, ?_, h.gep, ?_, ?_⟩, k.mono (Nat.le_refl _) (by simp)⟩
  · rw [h1]; exact h.pow.keep k (by simp)
  · rw [h2, h3, h4, h5]; exact h.cache.keep k (by simp)
  · rw [h6]; exact h.faults.keep k (by simp)
/-- The disk behind a work of its cache. -/
theorem DskIn.cached {B : Nat} {w w' : World} {ad ap : Nat} {d : Dsk} {ac : Nat} {fv : Value} (h : DskIn B w ad ap d ac fv) (du co : List Sec) (ps : List POp) (hc : CacheAt B w' ac d.geo du co ps) (hk : Keep B [166, 196, 173] w w') :
    DskIn B w' ad ap { d with durable := du, contents := co, pending := ps } ac fv ∧ Keep B DT w w' :=
  ⟨⟨h.blk.keep hk (by simp), h.ge, h.pow.keep hk (by simp), h.gep, hc, h.faults.keep hk (by simp)⟩, hk.mono (Nat.le_refl _) (by simp)⟩

theorem Dsk.flushWork_eq (d : Dsk) (f : Flt) : d.flushWork f = ({ d with durable := runOps d.geo d.durable d.pending, pending := [], flushes := wrap64 (d.flushes + 1) }, (), 0) := by
  have e : (min (max (d.pending.length : Int) 0) d.pending.length).toNat = d.pending.length := by omega
  simp only [Dsk.flushWork, Dsk.cut, e, List.take_length]
  rw [if_neg (by omega)]

set_option maxHeartbeats 1000000 in
theorem flush1 {B : Nat} {w : World} {ad ap bd : Nat} {d : Dsk} (h : DskAt B w ad ap d) (hbd : Blk w bd 54 #[.pointer (some ⟨ad, 0, none⟩)]) (hg : d.geo.Ok) (hB : B ≤ w.heap.size) (hp : d.pending.length ≤ 60000) (f : Flt) :
    Calls Tryz.prog 88 #[fltV f, .pointer (some ⟨bd, 0, none⟩)] w fun e w' => e = .returned (.int .i64 0) ∧ DskAt B w' ad ap (d.flushWork f).1 ∧ Keep B DT w w' := by
  rw [Dsk.flushWork_eq]
  obtain ⟨ac, fv, h⟩ := h
  have hx : Ext w (w.alloc (.cells #[.int .i64 f.place, .int .i64 f.kind, .int .i64 f.to] 49)) := (Ext.refl _).alloc _
  have C := cflush (h.cache.ext hx) hg (Nat.le_trans hB hx.size) hp
  have hlt := h.blk.lt
  have hlb := hbd.lt
  have b0 : w.cell? ⟨bd, 0, none⟩ = some (.pointer (some ⟨ad, 0, none⟩)) := hbd.cell 0 rfl
  have c10 : w.cell? ⟨ad, 10, none⟩ = some (.pointer (some ⟨ac, 0, none⟩)) := h.blk.cell 10 rfl
  have H := Lib.hid (h.keep hx (by simp))
  have HB := Lib.hid (hbd.ext hx)
  have HX := Lib.hid hx
  clear h hbd hx
  unfold fltV
  go_enter Tryz.func88, Tryz.ntmps88
  go_wp2_with fail
  refine C.mono ?_
  rintro e w1 ⟨rfl, hc, hk⟩
  obtain ⟨h1, hk1⟩ := H.out.cached _ _ _ hc hk
  have hb1 : w1.cell? ⟨bd, 0, none⟩ = some (.pointer (some ⟨ad, 0, none⟩)) := (HB.out.keep hk (by simp)).cell 0 rfl
  have d3 : w1.cell? ⟨ad, 3, none⟩ = some (.int .i64 d.flushes) := h1.blk.cell 3 rfl
  have f3 : w1.frozen? ⟨ad, 3, none⟩ = false := h1.blk.free 3
  have HP := Lib.hid (h1.put 3 (.int .i64 (wrap64 (d.flushes + 1))) { d with durable := runOps d.geo d.durable d.pending, pending := [], flushes := wrap64 (d.flushes + 1) } rfl rfl rfl rfl rfl rfl rfl)
  have HK1 := Lib.hid hk1
  clear h1 hk1 hc hk C
  go_wp2
  go_ret
  exact ⟨rfl, ⟨ac, fv, HP.out.1⟩, ((HX.out.keep _ _).trans HK1.out).trans HP.out.2⟩

/-- What an operation of the disk hands back: the error, and the disk. -/
def OpPost {α : Type} (B : Nat) (w : World) (ad ap : Nat) (r : Dsk × α × Int) (v : Value) (w' : World) : Prop := v = .int .i64 r.2.2 ∧ DskAt B w' ad ap r.1 ∧ Keep B DT w w'
theorem PerfGoal.of {α : Type} {B : Nat} {w : World} {ad ap : Nat} {F : FuncId} {caps : Array Value} (d : Dsk) (key : Int) (x : α) (work : Dsk → Flt → Dsk × α × Int)
    (hw : ∀ d' f w', (d.pre key) = (d', .inr f) → DskAt B w' ad ap d' → Keep B DT w w' → Calls Tryz.prog F (#[fltV f] ++ caps) w' fun e w'' => e = .returned (.int .i64 (work d' f).2.2) ∧ DskAt B w'' ad ap (work d' f).1 ∧ Keep B DT w' w'') :
    PerfGoal B w ad ap F caps (OpPost B w ad ap (d.perform key x work)) (d.pre key) := by
  rw [Dsk.perform_eq]
  cases hp : d.pre key with
  | mk d' r =>
    cases r with
    | inl e => exact fun w' h1 h2 => ⟨rfl, h1, h2⟩
    | inr f => exact fun w' h1 h2 => (hw d' f w' hp h1 h2).mono fun e w'' ⟨h3, h4, h5⟩ => ⟨_, h3, rfl, h4, h2.trans h5⟩
/-- What the preamble leaves alone. -/
theorem Dsk.pre_same {d d' : Dsk} {key : Int} {f : Flt} (h : d.pre key = (d', .inr f)) : d'.geo = d.geo ∧ d'.pending = d.pending ∧ d'.contents = d.contents ∧ d'.durable = d.durable ∧ d'.faults = d.faults := by
  unfold Dsk.pre at h
  split at h
  · cases h
  · dsimp only at h
    split at h
    · cases h
    · split at h
      · cases h
      · split at h
        · cases h
        · split at h
          · cases h
          · cases h; exact ⟨rfl, rfl, rfl, rfl, rfl⟩

set_option maxHeartbeats 1000000 in
theorem dflush {B : Nat} {w : World} {ad ap : Nat} {d : Dsk} (h : DskAt B w ad ap d) (hg : d.geo.Ok) (hf : d.faults.length ≤ 4096) (hB : B ≤ w.heap.size) (hp : d.pending.length ≤ 60000) (key : Int) :
    Calls Tryz.prog 49 #[.pointer (some ⟨ad, 0, none⟩), .int .u64 key] w fun e w' => e = .returned (.int .i64 (d.flush key).2.2) ∧ DskAt B w' ad ap (d.flush key).1 ∧ Keep B DT w w' := by
  have hx : Ext w (w.alloc (.cells #[.pointer (some ⟨ad, 0, none⟩)] 54)) := (Ext.refl _).alloc _
  have hb : Blk (w.alloc (.cells #[.pointer (some ⟨ad, 0, none⟩)] 54)) w.heap.size 54 #[.pointer (some ⟨ad, 0, none⟩)] := Blk.new _ _ _
  have P := dperform 88 (by simp) (h.ext hx) hf key #[.pointer (some ⟨w.heap.size, 0, none⟩)] _ (PerfGoal.of d key () Dsk.flushWork fun d' f w' hpre h1 h2 => by
    obtain ⟨e1, e2, _⟩ := Dsk.pre_same hpre
    exact flush1 h1 (hb.keep h2 (by simp)) (by rw [e1]; exact hg) (Nat.le_trans (Nat.le_trans hB hx.size) h2.size) (by rw [e2]; exact hp) f)
  have HX := Lib.hid hx
  have HH := Lib.hid (show d.perform key () Dsk.flushWork = d.flush key from rfl)
  clear h hx hb
  go_enter Tryz.func49, Tryz.ntmps49
  go_wp2_with fail
  refine P.mono ?_
  rintro e w1 ⟨v, rfl, hv, h1, h2⟩
  rw [HH.out] at hv h1
  subst hv
  have H1 := Lib.hid h1
  have H2 := Lib.hid h2
  clear h1 h2 P
  go_wp2
  go_ret
  exact ⟨rfl, H1.out, (HX.out.keep _ _).trans H2.out⟩

theorem Dsk.eraseWork_eq (d : Dsk) (f : Flt) (k : Nat) (hk : k < d.geo.bands) : Dsk.eraseWork k d f = ({ d with contents := eraseBand d.geo d.contents k, pending := d.pending ++ [.erase k], erases := wrap64 (d.erases + 1) }, (), 0) := by
  unfold Dsk.eraseWork; rw [if_pos (by omega)]; simp
set_option maxHeartbeats 1000000 in
theorem erase1 {B : Nat} {w : World} {ad ap bd bk : Nat} {d : Dsk} (h : DskAt B w ad ap d) (hbd : Blk w bd 54 #[.pointer (some ⟨ad, 0, none⟩)]) (k : Nat) (hbk : Blk w bk 3 #[.int .i64 (k : Int)]) (hk : k < d.geo.bands) (hg : d.geo.Ok) (hB : B ≤ w.heap.size) (hp : d.pending.length ≤ 60000) (f : Flt) :
    Calls Tryz.prog 97 #[fltV f, .pointer (some ⟨bd, 0, none⟩), .pointer (some ⟨bk, 0, none⟩)] w fun e w' => e = .returned (.int .i64 0) ∧ DskAt B w' ad ap (Dsk.eraseWork k d f).1 ∧ Keep B DT w w' := by
  rw [Dsk.eraseWork_eq d f k hk]
  obtain ⟨ac, fv, h⟩ := h
  have hx : Ext w (w.alloc (.cells #[.int .i64 f.place, .int .i64 f.kind, .int .i64 f.to] 49)) := (Ext.refl _).alloc _
  have hx2 : Ext w (w.alloc (.cells #[.int .i64 f.place, .int .i64 f.kind, .int .i64 f.to] 49)).drew := hx.drew
  have C := cerase_in (h.cache.ext hx2) k hk hg (Nat.le_trans hB hx2.size) hp
  have hlt := h.blk.lt
  have hlb := hbd.lt
  have hlk := hbk.lt
  have b0 : w.cell? ⟨bd, 0, none⟩ = some (.pointer (some ⟨ad, 0, none⟩)) := hbd.cell 0 rfl
  have k0 : w.cell? ⟨bk, 0, none⟩ = some (.int .i64 (k : Int)) := hbk.cell 0 rfl
  have c10 : w.cell? ⟨ad, 10, none⟩ = some (.pointer (some ⟨ac, 0, none⟩)) := h.blk.cell 10 rfl
  have H := Lib.hid (h.keep hx2 (by simp))
  have HB := Lib.hid (hbd.ext hx2)
  have HX := Lib.hid hx2
  clear h hbd hbk hx hx2
  unfold fltV
  go_enter Tryz.func97, Tryz.ntmps97
  go_upto_region 1 with fail
  go_cut [5] (fun s5 wx => s5 = .int .i64 0 ∧ CacheAt B wx ac d.geo d.durable (eraseBand d.geo d.contents k) (d.pending ++ [POp.erase k]) ∧ Keep B [166, 196, 173] (w.alloc (.cells #[.int .i64 f.place, .int .i64 f.kind, .int .i64 f.to] 49)).drew wx)
  case first =>
    go_region_with (go_at_call 98; refine C.mono ?_; rintro e w1 ⟨rfl, hc, hk'⟩)
    all_goals (go_wp2_with fail; go_meet; case rel => exact ⟨rfl, hc, hk'⟩)
  case rest =>
    obtain ⟨rfl, hc, hk'⟩ := hcut
    obtain ⟨h1, hk1⟩ := H.out.cached _ _ _ hc hk'
    have hb1 : wc.cell? ⟨bd, 0, none⟩ = some (.pointer (some ⟨ad, 0, none⟩)) := (HB.out.keep hk' (by simp)).cell 0 rfl
    have d2 : wc.cell? ⟨ad, 2, none⟩ = some (.int .i64 d.erases) := h1.blk.cell 2 rfl
    have f2 : wc.frozen? ⟨ad, 2, none⟩ = false := h1.blk.free 2
    have HP := Lib.hid (h1.put 2 (.int .i64 (wrap64 (d.erases + 1))) { d with contents := eraseBand d.geo d.contents k, pending := d.pending ++ [.erase k], erases := wrap64 (d.erases + 1) } rfl rfl rfl rfl rfl rfl rfl)
    have HK1 := Lib.hid hk1
    clear h1 hk1 hc hk' C
    go_wp2
    go_ret
    exact ⟨rfl, ⟨ac, fv, HP.out.1⟩, ((HX.out.keep _ _).trans HK1.out).trans HP.out.2⟩
set_option maxHeartbeats 1000000 in
theorem derase {B : Nat} {w : World} {ad ap : Nat} {d : Dsk} (h : DskAt B w ad ap d) (hg : d.geo.Ok) (hf : d.faults.length ≤ 4096) (hB : B ≤ w.heap.size) (hp : d.pending.length ≤ 60000) (key : Int) (k : Nat) (hk : k < d.geo.bands) :
    Calls Tryz.prog 62 #[.pointer (some ⟨ad, 0, none⟩), .int .u64 key, .int .i64 k] w fun e w' => e = .returned (.int .i64 (d.erase key k).2.2) ∧ DskAt B w' ad ap (d.erase key k).1 ∧ Keep B DT w w' := by
  have hx : Ext w ((w.alloc (.cells #[.pointer (some ⟨ad, 0, none⟩)] 54)).alloc (.cells #[.int .i64 (k : Int)] 3)) := ((Ext.refl _).alloc _).alloc _
  have hb : Blk ((w.alloc (.cells #[.pointer (some ⟨ad, 0, none⟩)] 54)).alloc (.cells #[.int .i64 (k : Int)] 3)) w.heap.size 54 #[.pointer (some ⟨ad, 0, none⟩)] := (Blk.new _ _ _).alloc _
  have hb2 : Blk ((w.alloc (.cells #[.pointer (some ⟨ad, 0, none⟩)] 54)).alloc (.cells #[.int .i64 (k : Int)] 3)) (w.heap.size + 1) 3 #[.int .i64 (k : Int)] := by
    have := Blk.new (w.alloc (.cells #[.pointer (some ⟨ad, 0, none⟩)] 54)) #[.int .i64 (k : Int)] 3
    rwa [World.size_alloc] at this
  have P := dperform 97 (by simp) (h.ext hx) hf key #[.pointer (some ⟨w.heap.size, 0, none⟩), .pointer (some ⟨w.heap.size + 1, 0, none⟩)] _ (PerfGoal.of d key () (Dsk.eraseWork k) fun d' f w' hpre h1 h2 => by
    obtain ⟨e1, e2, _⟩ := Dsk.pre_same hpre
    have hk' : k < d'.geo.bands := by rw [e1]; exact hk
    rw [show (Dsk.eraseWork k d' f).2.2 = 0 by rw [Dsk.eraseWork_eq d' f k hk']]
    exact erase1 h1 (hb.keep h2 (by simp)) k (hb2.keep h2 (by simp)) hk' (by rw [e1]; exact hg) (Nat.le_trans (Nat.le_trans hB hx.size) h2.size) (by rw [e2]; exact hp) f)
  have HX := Lib.hid hx
  have HH := Lib.hid (show d.perform key () (Dsk.eraseWork k) = d.erase key k from rfl)
  clear h hx hb hb2
  go_enter Tryz.func62, Tryz.ntmps62
  go_wp2_with fail
  refine P.mono ?_
  rintro e w1 ⟨v, rfl, hv, h1, h2⟩
  rw [HH.out] at hv h1
  subst hv
  have H1 := Lib.hid h1
  have H2 := Lib.hid h2
  clear h1 h2 P
  go_wp2
  go_ret
  exact ⟨rfl, H1.out, (HX.out.keep _ _).trans H2.out⟩
end Go.Proofs.YthhcooljjhdjbaaGreat
