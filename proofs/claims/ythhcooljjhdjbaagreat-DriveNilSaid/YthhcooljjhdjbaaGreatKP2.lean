/- Plain laws: what the disk's operations do to what the disk holds; they hold encodings of entries. No program in sight. The plain model of a drive at work, and what holds of it in memory. No program in sight. -/
import Derived.Test.YthhcooljjhdjbaaGreatKW33
import Derived.Test.YthhcooljjhdjbaaGreatKW37
set_option linter.unusedVariables false
set_option linter.unusedSimpArgs false
namespace Go.Proofs.YthhcooljjhdjbaaGreat
open Go.RowKit

theorem retryCont_cases {σ : Type} (step : σ → σ × Int) (E : σ → σ → Prop) (htrans : ∀ a b c, E a b → E b c → E a c) (hb : ∀ s, (step s).2 = 16 → E s (step s).1) (s : σ) :
    ∀ n s1, E s s1 → ∃ s', E s s' ∧ retryCont step n (step s1) = step s'
  | 0, s1, h => ⟨s1, h, rfl⟩
  | n + 1, s1, h => by
    by_cases h16 : (step s1).2 = 16
    · obtain ⟨s', h1, h2⟩ := retryCont_cases step E htrans hb s n (step s1).1 (htrans _ _ _ h (hb s1 h16))
      refine ⟨s', h1, ?_⟩
      rw [← h2]
      show (if (step s1).2 = 16 then _ else _) = _
      rw [if_pos h16]
    · refine ⟨s1, h, ?_⟩
      show (if (step s1).2 = 16 then _ else _) = _
      rw [if_neg h16]
theorem retryRun_cases {σ : Type} (step : σ → σ × Int) (E : σ → σ → Prop) (hrefl : ∀ a, E a a) (htrans : ∀ a b c, E a b → E b c → E a c) (hb : ∀ s, (step s).2 = 16 → E s (step s).1) (s : σ) :
    ∃ s', E s s' ∧ retryRun step s = step s' := retryCont_cases step E htrans hb s 8 s (hrefl s)

theorem Dsk.Same.refl (d : Dsk) : d.Same d := ⟨rfl, rfl, rfl, rfl, rfl⟩
theorem Dsk.pre_ne {d d' : Dsk} {key n : Int} (h : d.pre key = (d', .inl n)) : n ≠ 0 := by
  unfold Dsk.pre at h
  split at h
  · rename_i hs; cases h; exact hs
  · dsimp only at h
    split at h
    · cases h; decide
    · split at h
      · cases h; decide
      · split at h
        · cases h; decide
        · split at h
          · cases h; decide
          · cases h
theorem faultAt_mem {l : List Flt} {op : Int} (h : (faultAt l op).kind ≠ 0) : faultAt l op ∈ l := by
  unfold faultAt at *
  cases hf : l.find? (fun f => f.place == op) with
  | none => rw [hf] at h; exact absurd rfl h
  | some f => rw [Option.getD_some]; exact List.mem_of_find?_eq_some hf
theorem Dsk.pre_fault {d d' : Dsk} {key : Int} {f : Flt} (h : d.pre key = (d', .inr f)) : f = faultAt d.faults d.ops := by
  unfold Dsk.pre at h
  split at h
  · cases h
  · dsimp only at h
    split at h
    · cases h
    · split at h
      · cases h
      · split at h
        · cases h
        · split at h
          · cases h
          · cases h; rfl
structure Dsk.Erased (d d' : Dsk) (k : Nat) : Prop where
  geo : d'.geo = d.geo
  faults : d'.faults = d.faults
  durable : d'.durable = d.durable
  contents : d'.contents = eraseBand d.geo d.contents k
  pending : d'.pending = d.pending ++ [.erase k]
structure Dsk.Wrote (d d' : Dsk) (a : Nat) (b : List UInt8) : Prop where
  geo : d'.geo = d.geo
  faults : d'.faults = d.faults
  durable : d'.durable = d.durable
  contents : d'.contents = writeSec d.geo d.contents a b
  pending : d'.pending = d.pending ++ [.write a b]
structure Dsk.Flushed (d d' : Dsk) : Prop where
  geo : d'.geo = d.geo
  faults : d'.faults = d.faults
  durable : d'.durable = runOps d.geo d.durable d.pending
  contents : d'.contents = d.contents
  pending : d'.pending = []
theorem Dsk.erase_cases (d : Dsk) (key : Int) (k : Nat) (hk : k < d.geo.bands) : ((d.erase key k).2.2 = 0 ∧ d.Erased (d.erase key k).1 k) ∨ ((d.erase key k).2.2 ≠ 0 ∧ d.Same (d.erase key k).1) := by
  unfold Dsk.erase
  rw [Dsk.perform_eq]
  cases hp : d.pre key with
  | mk d' r =>
    cases r with
    | inl n =>
      obtain ⟨h1, h2, h3, h4, h5⟩ := Dsk.pre_err hp
      exact .inr ⟨Dsk.pre_ne hp, ⟨h1, h2, h3, h4, h5⟩⟩
    | inr f =>
      obtain ⟨h1, h2, h3, h4, h5⟩ := Dsk.pre_same hp
      dsimp only
      rw [Dsk.eraseWork_eq d' f k (by rw [h1]; exact hk)]
      exact .inl ⟨rfl, ⟨h1, h5, h4, by show eraseBand d'.geo d'.contents k = _; rw [h1, h3], by show d'.pending ++ _ = _; rw [h2]⟩⟩
theorem Dsk.flush_cases (d : Dsk) (key : Int) : ((d.flush key).2.2 = 0 ∧ d.Flushed (d.flush key).1) ∨ ((d.flush key).2.2 ≠ 0 ∧ d.Same (d.flush key).1) := by
  rcases d.flush_pre key with ⟨n, d', h1, h2⟩ | ⟨d', f, h1, h2⟩
  · obtain ⟨e1, e2, e3, e4, e5⟩ := Dsk.pre_err h1
    rw [h2]; exact .inr ⟨Dsk.pre_ne h1, ⟨e1, e2, e3, e4, e5⟩⟩
  · obtain ⟨e1, e2, e3, e4, e5⟩ := Dsk.pre_same h1
    rw [h2]; exact .inl ⟨rfl, ⟨e1, e5, by show runOps d'.geo d'.durable d'.pending = _; rw [e1, e2, e4], e3, rfl⟩⟩
def Dsk.WroteAs (d d' : Dsk) (b : List UInt8) : Prop :=
  d.Same d' ∨ ∃ a' b', a' < d.geo.size ∧ (b' = b ∨ (b' = b.take (b.length / 2) ∧ ∃ f ∈ d.faults, f.kind = 2)) ∧ d.Wrote d' a' b'
theorem Dsk.write_cases (d : Dsk) (key a : Int) (b : List UInt8) (ha : d.has a = true) (hl : b.length ≤ 64) :
    ((d.write key a b).2.2 = 0 ∧ d.WroteAs (d.write key a b).1 b) ∨ ((d.write key a b).2.2 ≠ 0 ∧ d.Same (d.write key a b).1) := by
  unfold Dsk.write
  rw [Dsk.perform_eq]
  cases hp : d.pre key with
  | mk d' r =>
    cases r with
    | inl n =>
      obtain ⟨h1, h2, h3, h4, h5⟩ := Dsk.pre_err hp
      exact .inr ⟨Dsk.pre_ne hp, ⟨h1, h2, h3, h4, h5⟩⟩
    | inr f =>
      obtain ⟨h1, h2, h3, h4, h5⟩ := Dsk.pre_same hp
      have hf := Dsk.pre_fault hp
      have ha' : d'.has a = true := by unfold Dsk.has at *; rw [h1]; exact ha
      dsimp only
      left
      by_cases h1k : f.kind = 1
      · rw [Dsk.writeWork_drop ha' hl h1k]
        exact ⟨rfl, .inl ⟨h1, h2, h3, h4, h5⟩⟩
      · rw [Dsk.writeWork_in ha' hl _ _ rfl rfl h1k]
        refine ⟨rfl, ?_⟩
        unfold Dsk.put
        dsimp only
        generalize hto : (if f.kind = 3 then f.to else a) = tt
        by_cases hh : d'.has tt = true
        · rw [if_pos hh]
          right
          have hh2 : tt.toNat < d.geo.size := by unfold Dsk.has at hh; rw [h1] at hh; simp at hh; omega
          refine ⟨tt.toNat, _, hh2, ?_, ⟨h1, h5, h4, by show writeSec d'.geo d'.contents _ _ = _; rw [h1, h3], by show d'.pending ++ _ = _; rw [h2]⟩⟩
          by_cases h2k : f.kind = 2
          · rw [if_pos h2k]
            exact .inr ⟨rfl, f, by rw [hf]; exact faultAt_mem (by rw [← hf, h2k]; decide), h2k⟩
          · rw [if_neg h2k]; exact .inl rfl
        · rw [if_neg hh]
          exact .inl ⟨h1, h2, h3, h4, h5⟩
theorem Dsk.read_cases (d : Dsk) (key a : Int) : d.Same (d.read key a).1 ∧ ((d.read key a).2.2 ≠ 0 ∨ ∃ b, (d.read key a).2.1 = some b ∧ (d.read key a).2.2 = 0 ∧ ∃ i, i < d.geo.size ∧ d.contents.getD i .blank = .data b) := by
  refine ⟨(Dsk.read_same d key a).1, ?_⟩
  unfold Dsk.read
  rw [Dsk.perform_eq]
  cases hp : d.pre key with
  | mk d' r =>
    cases r with
    | inl n => exact .inl (Dsk.pre_ne hp)
    | inr f =>
      obtain ⟨h1, h2, h3, h4, h5⟩ := Dsk.pre_same hp
      dsimp only
      unfold Dsk.readWork
      split
      · left; show (2 : Int) ≠ 0; decide
      · split
        · left; show (15 : Int) ≠ 0; decide
        · dsimp only
          generalize (if f.kind = 5 then f.to else a) = fr
          split
          · rename_i hfr
            split
            · rename_i b hb
              right
              refine ⟨b, rfl, rfl, fr.toNat, ?_, by unfold Dsk.sec at hb; rw [← h3]; exact hb⟩
              unfold Dsk.has at hfr; rw [h1] at hfr; simp at hfr; omega
            · left; show (15 : Int) ≠ 0; decide
          · left; show (15 : Int) ≠ 0; decide
def writeStep (key a : Int) (b : List UInt8) (d : Dsk) : Dsk × Int := ((d.write key a b).1, (d.write key a b).2.2)
def Dsk.writeAll (d : Dsk) (key a : Int) (b : List UInt8) : Dsk × Int := retryRun (writeStep key a b) d
def eraseStep (key : Int) (k : Nat) (d : Dsk) : Dsk × Int := ((d.erase key k).1, (d.erase key k).2.2)
def Dsk.eraseAll (d : Dsk) (key : Int) (k : Nat) : Dsk × Int := retryRun (eraseStep key k) d
theorem Dsk.eraseAll_cases (d : Dsk) (key : Int) (k : Nat) (hk : k < d.geo.bands) : ((d.eraseAll key k).2 = 0 ∧ d.Erased (d.eraseAll key k).1 k) ∨ ((d.eraseAll key k).2 ≠ 0 ∧ d.Same (d.eraseAll key k).1) := by
  obtain ⟨d1, h1, h2⟩ := retryRun_cases (eraseStep key k) (fun a b => a.geo = d.geo → a.Same b) (fun a _ => Dsk.Same.refl a) (fun a b c h k h0 => (h h0).trans (k ((h h0).geo.trans h0))) (fun s h h0 => by
    rcases s.erase_cases key k (by rw [h0]; exact hk) with ⟨e, _⟩ | ⟨_, e⟩
    · have h : (s.erase key k).2.2 = 16 := h
      rw [e] at h; cases h
    · exact e) d
  have h1 := h1 rfl
  unfold Dsk.eraseAll
  rw [h2]
  rcases d1.erase_cases key k (by rw [h1.geo]; exact hk) with ⟨e, r⟩ | ⟨e, r⟩
  · exact .inl ⟨e, ⟨r.geo.trans h1.geo, r.faults.trans h1.faults, r.durable.trans h1.durable, by show (d1.erase key k).1.contents = _; rw [r.contents, h1.geo, h1.contents], by show (d1.erase key k).1.pending = _; rw [r.pending, h1.pending]⟩⟩
  · exact .inr ⟨e, h1.trans r⟩
theorem Dsk.flushAll_cases (d : Dsk) (key : Int) : ((d.flushAll key).2 = 0 ∧ d.Flushed (d.flushAll key).1) ∨ ((d.flushAll key).2 ≠ 0 ∧ d.Same (d.flushAll key).1) := by
  obtain ⟨d1, h1, h2⟩ := retryRun_cases (flushStep key) Dsk.Same Dsk.Same.refl (fun a b c h k => h.trans k) (fun s h => by
    rcases s.flush_cases key with ⟨e, _⟩ | ⟨_, e⟩
    · have h : (s.flush key).2.2 = 16 := h
      rw [e] at h; cases h
    · exact e) d
  unfold Dsk.flushAll
  rw [h2]
  rcases d1.flush_cases key with ⟨e, r⟩ | ⟨e, r⟩
  · exact .inl ⟨e, ⟨r.geo.trans h1.geo, r.faults.trans h1.faults, by show (d1.flush key).1.durable = _; rw [r.durable, h1.geo, h1.durable, h1.pending], r.contents.trans h1.contents, r.pending⟩⟩
  · exact .inr ⟨e, h1.trans r⟩
theorem Dsk.writeAll_cases (d : Dsk) (key a : Int) (b : List UInt8) (ha : d.has a = true) (hl : b.length ≤ 64) :
    ((d.writeAll key a b).2 = 0 ∧ d.WroteAs (d.writeAll key a b).1 b) ∨ ((d.writeAll key a b).2 ≠ 0 ∧ d.Same (d.writeAll key a b).1) := by
  obtain ⟨d1, h1, h2⟩ := retryRun_cases (writeStep key a b) (fun x y => x.geo = d.geo → x.Same y) (fun a _ => Dsk.Same.refl a) (fun a b c h k h0 => (h h0).trans (k ((h h0).geo.trans h0))) (fun s h h0 => by
    rcases s.write_cases key a b (by unfold Dsk.has at *; rw [h0]; exact ha) hl with ⟨e, _⟩ | ⟨_, e⟩
    · have h : (s.write key a b).2.2 = 16 := h
      rw [e] at h; cases h
    · exact e) d
  have h1 := h1 rfl
  unfold Dsk.writeAll
  rw [h2]
  rcases d1.write_cases key a b (by unfold Dsk.has at *; rw [h1.geo]; exact ha) hl with ⟨e, r⟩ | ⟨e, r⟩
  · refine .inl ⟨e, ?_⟩
    rcases r with r | ⟨a', b', g1, g2, r⟩
    · exact .inl (h1.trans r)
    · exact .inr ⟨a', b', h1.geo ▸ g1, h1.faults ▸ g2, ⟨r.geo.trans h1.geo, r.faults.trans h1.faults, r.durable.trans h1.durable, by show (d1.write key a b).1.contents = _; rw [r.contents, h1.geo, h1.contents], by show (d1.write key a b).1.pending = _; rw [r.pending, h1.pending]⟩⟩
  · exact .inr ⟨e, h1.trans r⟩
theorem Dsk.sector_cases (d : Dsk) (key a : Int) : d.Same (d.sector key a).1.1 ∧ ((d.sector key a).2 ≠ 0 ∨ ∃ b, (d.sector key a).1.2 = some b ∧ (d.sector key a).2 = 0 ∧ ∃ i, i < d.geo.size ∧ d.contents.getD i .blank = .data b) := by
  obtain ⟨s1, h1, h2⟩ := retryRun_cases (readStep key a) (fun x y => x.1.Same y.1) (fun x => Dsk.Same.refl x.1) (fun a b c h k => h.trans k) (fun s _ => (s.1.read_cases key a).1) (d, none)
  unfold Dsk.sector
  rw [h2]
  obtain ⟨k1, k2⟩ := s1.1.read_cases key a
  refine ⟨h1.trans k1, ?_⟩
  rcases k2 with k2 | ⟨b, k2, k3, i, k4, k5⟩
  · exact .inl k2
  · exact .inr ⟨b, k2, k3, i, h1.geo ▸ k4, h1.contents ▸ k5⟩

/-- An encoding of an entry. -/
def IsEnc (b : List UInt8) : Prop := ∃ e t, Ent.Ok e ∧ 0 ≤ t ∧ t < 18446744073709551616 ∧ b = encode e t
def Encs (l : List Sec) : Prop := ∀ s ∈ l, ∀ b, s = .data b → IsEnc b
theorem Encs.set {l : List Sec} (h : Encs l) (i : Nat) (x : Sec) (hx : ∀ b, x = .data b → IsEnc b) : Encs (l.set i x) := by
  intro s hs b hb
  rcases List.mem_or_eq_of_mem_set hs with h1 | rfl
  · exact h s h1 b hb
  · exact hx b hb
theorem Encs.setDead {l : List Sec} (h : Encs l) (ks : List Nat) : Encs (ks.foldl (fun l s => l.set s .dead) l) := by
  induction ks generalizing l with
  | nil => exact h
  | cons k ks ih => exact ih (h.set k .dead (fun b hb => by cases hb))
theorem Encs.write {g : Geo} {l : List Sec} (h : Encs l) (a : Nat) (b : List UInt8) (hb : IsEnc b) : Encs (writeSec g l a b) :=
  (h.set a (.data b) (fun b' hb' => by cases hb'; exact hb)).setDead _
theorem Encs.blanks {l : List Sec} (h : Encs l) (f n : Nat) : Encs (blanks f n l) := by
  unfold Go.Proofs.YthhcooljjhdjbaaGreat.blanks
  generalize List.range n = ks
  induction ks generalizing l with
  | nil => exact h
  | cons k ks ih => exact ih (h.set _ .blank (fun b hb => by cases hb))
theorem Encs.erase {g : Geo} {l : List Sec} (h : Encs l) (k : Nat) : Encs (eraseBand g l k) := h.blanks _ _
theorem Encs.runOps {g : Geo} {l : List Sec} {ps : List POp} (h : Encs l) (hp : ∀ a b, POp.write a b ∈ ps → IsEnc b) : Encs (runOps g l ps) := by
  unfold Go.Proofs.YthhcooljjhdjbaaGreat.runOps
  induction ps generalizing l with
  | nil => exact h
  | cons p ps ih =>
    refine ih ?_ (fun a b hm => hp a b (List.mem_cons_of_mem _ hm))
    cases p with
    | write a b => exact h.write a b (hp a b (List.mem_cons_self ..))
    | erase k => exact h.erase k
theorem length_setDead (ks : List Nat) (l : List Sec) : (ks.foldl (fun l s => l.set s Sec.dead) l).length = l.length := by
  induction ks generalizing l with
  | nil => rfl
  | cons k ks ih => rw [List.foldl_cons, ih, List.length_set]
theorem length_writeSec' (g : Geo) (l : List Sec) (a : Nat) (b : List UInt8) : (writeSec g l a b).length = l.length := by
  unfold writeSec; rw [length_setDead, List.length_set]
theorem length_blanks' (f n : Nat) (l : List Sec) : (blanks f n l).length = l.length := by
  unfold blanks
  generalize List.range n = ks
  induction ks generalizing l with
  | nil => rfl
  | cons k ks ih => rw [List.foldl_cons, ih, List.length_set]
theorem length_runOps' (g : Geo) (l : List Sec) (ps : List POp) : (runOps g l ps).length = l.length := by
  unfold runOps
  induction ps generalizing l with
  | nil => rfl
  | cons p ps ih =>
    rw [List.foldl_cons, ih]
    cases p with
    | write a b => exact length_writeSec' g l a b
    | erase k => exact length_blanks' _ _ l
theorem IsEnc.len {b : List UInt8} (h : IsEnc b) : b.length = 37 := by
  obtain ⟨e, t, he, _, _, rfl⟩ := h
  exact length_encode e t he.len
/-- What holds of the disk behind every operation of a drive; 'm' bounds what is pending. -/
structure DInv (m : Nat) (d : Dsk) : Prop where
  geo : d.geo.Ok
  faults : d.faults.length ≤ 4096
  pending : d.pending.length ≤ m
  notear : ∀ f ∈ d.faults, f.kind ≠ 2
  con : Encs d.contents
  dur : Encs d.durable
  pend : ∀ a b, POp.write a b ∈ d.pending → IsEnc b
  lc : d.contents.length = d.geo.size
  ld : d.durable.length = d.geo.size
theorem DInv.mono {m n : Nat} {d : Dsk} (h : DInv m d) (hn : m ≤ n) : DInv n d := { h with pending := Nat.le_trans h.pending hn }
theorem DInv.ok {m : Nat} {d : Dsk} (h : DInv m d) (hm : m ≤ 60000) : DOk d := ⟨h.geo, h.faults, Nat.le_trans h.pending hm⟩
theorem DInv.short {m : Nat} {d : Dsk} (h : DInv m d) : Short d.contents := by
  intro i b hb
  have := (h.con _ (List.mem_of_getElem? hb) b rfl).len
  refine ⟨fun h0 => ?_, by omega⟩
  rw [h0] at this; cases this
theorem DInv.same {m : Nat} {d d' : Dsk} (h : DInv m d) (s : d.Same d') : DInv m d' :=
  ⟨s.geo ▸ h.geo, s.faults ▸ h.faults, s.pending ▸ h.pending, s.faults ▸ h.notear, s.contents ▸ h.con, s.durable ▸ h.dur, s.pending ▸ h.pend, by rw [s.contents, s.geo]; exact h.lc, by rw [s.durable, s.geo]; exact h.ld⟩
theorem DInv.erased {m : Nat} {d d' : Dsk} {k : Nat} (h : DInv m d) (s : d.Erased d' k) : DInv (m + 1) d' := by
  refine ⟨s.geo ▸ h.geo, s.faults ▸ h.faults, by rw [s.pending, List.length_append]; exact Nat.add_le_add_right h.pending 1, s.faults ▸ h.notear, by rw [s.contents]; exact h.con.erase k, s.durable ▸ h.dur, ?_, ?_, by rw [s.durable, s.geo]; exact h.ld⟩
  · intro a b hm
    rw [s.pending] at hm
    rcases List.mem_append.1 hm with hm | hm
    · exact h.pend a b hm
    · simp at hm
  · rw [s.contents, s.geo]; exact (length_blanks' _ _ _).trans h.lc
theorem DInv.flushed {m : Nat} {d d' : Dsk} (h : DInv m d) (s : d.Flushed d') : DInv 0 d' := by
  refine ⟨s.geo ▸ h.geo, s.faults ▸ h.faults, by rw [s.pending]; exact Nat.le_refl _, s.faults ▸ h.notear, s.contents ▸ h.con, by rw [s.durable]; exact h.dur.runOps h.pend, ?_, by rw [s.contents, s.geo]; exact h.lc, ?_⟩
  · intro a b hm; rw [s.pending] at hm; cases hm
  · rw [s.durable, s.geo, length_runOps']; exact h.ld
theorem DInv.wrote {m : Nat} {d d' : Dsk} {b : List UInt8} (h : DInv m d) (hb : IsEnc b) (s : d.WroteAs d' b) : DInv (m + 1) d' := by
  rcases s with s | ⟨a', b', _, hb', s⟩
  · exact (h.same s).mono (Nat.le_succ _)
  · have e : b' = b := by
      rcases hb' with e | ⟨_, f, hf, h2⟩
      · exact e
      · exact absurd h2 (h.notear f hf)
    subst e
    refine ⟨s.geo ▸ h.geo, s.faults ▸ h.faults, by rw [s.pending, List.length_append]; exact Nat.add_le_add_right h.pending 1, s.faults ▸ h.notear, by rw [s.contents]; exact h.con.write _ _ hb, s.durable ▸ h.dur, ?_, ?_, by rw [s.durable, s.geo]; exact h.ld⟩
    · intro a b hm
      rw [s.pending] at hm
      rcases List.mem_append.1 hm with hm | hm
      · exact h.pend a b hm
      · simp at hm; rw [hm.2]; exact hb
    · rw [s.contents, s.geo, length_writeSec']; exact h.lc
theorem DInv.eraseAll {m : Nat} {d : Dsk} (h : DInv m d) (key : Int) (k : Nat) (hk : k < d.geo.bands) : DInv (m + 1) (d.eraseAll key k).1 := by
  rcases d.eraseAll_cases key k hk with ⟨_, s⟩ | ⟨_, s⟩
  · exact h.erased s
  · exact (h.same s).mono (Nat.le_succ _)
theorem DInv.flushAll {m : Nat} {d : Dsk} (h : DInv m d) (key : Int) : DInv m (d.flushAll key).1 := by
  rcases d.flushAll_cases key with ⟨_, s⟩ | ⟨_, s⟩
  · exact (h.flushed s).mono (Nat.zero_le _)
  · exact h.same s
theorem DInv.writeAll {m : Nat} {d : Dsk} (h : DInv m d) (key a : Int) (b : List UInt8) (ha : d.has a = true) (hb : IsEnc b) : DInv (m + 1) (d.writeAll key a b).1 := by
  rcases d.writeAll_cases key a b ha (by rw [hb.len]; decide) with ⟨_, s⟩ | ⟨_, s⟩
  · exact h.wrote hb s
  · exact (h.same s).mono (Nat.le_succ _)

/-- What a decoder makes of bytes. -/
def decEnt (b : List UInt8) : Ent := ⟨((b.getD 0 0).toNat : Int), getFold ((b.drop 1).take 4) 4, getFold ((b.drop 5).take 8) 8, (b.drop 13).take 8⟩
def decTime (b : List UInt8) : Int := getFold ((b.drop 21).take 8) 8
theorem EncParts.dec {b : List UInt8} {e : Ent} {t : Int} (h : EncParts b e t) : e = decEnt b ∧ t = decTime b := by
  obtain ⟨k, bl, v, dt⟩ := e
  refine ⟨?_, h.time.symm⟩
  unfold decEnt
  rw [h.kind, h.block, h.version, h.data]
theorem dec_encode (e : Ent) (he : e.Ok) (t : Int) (h0 : 0 ≤ t) (h1 : t < 18446744073709551616) : decEnt (encode e t) = e ∧ decTime (encode e t) = t :=
  let ⟨a, b⟩ := (encParts e he t h0 h1).dec
  ⟨a.symm, b.symm⟩
theorem IsEnc.parts {b : List UInt8} (h : IsEnc b) : EncParts b (decEnt b) (decTime b) ∧ (decEnt b).Ok ∧ 0 ≤ decTime b ∧ decTime b < 18446744073709551616 := by
  obtain ⟨e, t, he, h0, h1, rfl⟩ := h
  have p := encParts e he t h0 h1
  obtain ⟨a, c⟩ := p.dec
  rw [← a, ← c]
  exact ⟨p, he, h0, h1⟩
theorem DInv.sector {m : Nat} {d : Dsk} (h : DInv m d) (key a : Int) : DInv m (d.sector key a).1.1 ∧ ((d.sector key a).2 ≠ 0 ∨ ∃ b, (d.sector key a).1.2 = some b ∧ (d.sector key a).2 = 0 ∧ IsEnc b) := by
  obtain ⟨h1, h2⟩ := d.sector_cases key a
  refine ⟨h.same h1, ?_⟩
  rcases h2 with h2 | ⟨b, h2, h3, i, h4, h5⟩
  · exact .inl h2
  · refine .inr ⟨b, h2, h3, h.con _ ?_ b rfl⟩
    have hi : i < d.contents.length := by rw [h.lc]; exact h4
    rw [List.getD_eq_getElem?_getD, List.getElem?_eq_getElem hi, Option.getD_some] at h5
    rw [← h5]; exact List.getElem_mem hi
end Go.Proofs.YthhcooljjhdjbaaGreat
namespace Go.Proofs.YthhcooljjhdjbaaGreat
open Go.RowKit

theorem getD_set {α : Type} (l : List α) (i j : Nat) (x d : α) (hi : i < l.length) : (l.set i x).getD j d = if i = j then x else l.getD j d := by
  rw [List.getD_eq_getElem?_getD, List.getElem?_set, List.getD_eq_getElem?_getD]
  split
  · rfl
  · rfl
theorem Geo.bandOf_eq (g : Geo) (k i : Nat) (hi : i < g.band) : g.bandOf ((g.random : Int) + k * g.band + i) = k := by
  unfold bandOf
  have e : (g.random : Int) + k * g.band + i - g.random = ((i + k * g.band : Nat) : Int) := by
    rw [Int.natCast_add, Int.natCast_mul]; omega
  rw [e, ← Int.natCast_ediv, Int.toNat_natCast, Nat.add_mul_div_right _ _ (by omega), Nat.div_eq_of_lt hi, Nat.zero_add]
def Drv.stamp (v : Drv) : Int := IntKind.u64.wrap (v.time + 1)
def Drv.liveN (g : Geo) (v : Drv) (k : Nat) : Nat := v.entries.countP (fun n => decide (0 ≤ n.address) && decide (g.bandOf n.address = k))
def Drv.at (v : Drv) (b : Nat) : Nw := v.entries.getD b .none
def Drv.bnd (v : Drv) (k : Nat) : Band := v.bands.getD k .zero
/-- What holds of a drive in memory, whatever the disk does. -/
structure VOk (g : Geo) (v : Drv) : Prop where
  len : v.bands.length = g.bands
  ok : BandsOk v.bands g.band
  n1 : 1 ≤ v.entries.length
  nE : v.entries.length ≤ 120
  room : v.entries.length + 3 * g.band ≤ g.bands * g.band
  none : ∀ b, (v.at b).address < 0 → v.at b = .none
  adr : ∀ b, 0 ≤ (v.at b).address → ∃ k i : Nat, k < g.bands ∧ (i : Int) < (v.bnd k).used ∧ i < g.band ∧ (v.at b).address = (g.random : Int) + k * g.band + i
  inj : ∀ b c, 0 ≤ (v.at b).address → (v.at b).address = (v.at c).address → b = c
  live : ∀ k, k < g.bands → (v.bnd k).live = (v.liveN g k : Int)
theorem VOk.bndOk {g : Geo} {v : Drv} (h : VOk g v) {k : Nat} (hk : k < g.bands) : 0 ≤ (v.bnd k).live ∧ (v.bnd k).live ≤ (v.bnd k).used ∧ (v.bnd k).used ≤ g.band := by
  have hk2 : k < v.bands.length := by rw [h.len]; exact hk
  have e : v.bnd k = v.bands[k] := by unfold Drv.bnd; rw [List.getD_eq_getElem?_getD, List.getElem?_eq_getElem hk2]; rfl
  rw [e]; exact h.ok.ok _ (List.getElem_mem hk2)
theorem Drv.at_out (v : Drv) (b : Nat) (h : v.entries.length ≤ b) : v.at b = .none := by
  unfold Drv.at; rw [List.getD_eq_getElem?_getD, List.getElem?_eq_none h]; rfl
theorem Drv.at_in (v : Drv) (b : Nat) (h : b < v.entries.length) : v.entries[b]? = some (v.at b) := by
  unfold Drv.at; rw [List.getD_eq_getElem?_getD, List.getElem?_eq_getElem h]; rfl
theorem Drv.lt_of_adr {v : Drv} {b : Nat} (h : 0 ≤ (v.at b).address) : b < v.entries.length := by
  rcases Nat.lt_or_ge b v.entries.length with h1 | h1
  · exact h1
  · rw [v.at_out b h1] at h; exact absurd h (by decide)
theorem VOk.facts {g : Geo} {v : Drv} (h : VOk g v) (hg : g.Ok) {b : Nat} (ha : 0 ≤ (v.at b).address) :
    (g.random : Int) ≤ (v.at b).address ∧ (v.at b).address < g.size ∧ g.bandOf (v.at b).address < g.bands ∧ 1 ≤ (v.bnd (g.bandOf (v.at b).address)).live ∧ (v.bnd (g.bandOf (v.at b).address)).live ≤ g.band := by
  obtain ⟨k, i, hk, hi, hib, e⟩ := h.adr b ha
  have e2 : g.bandOf (v.at b).address = k := by rw [e]; exact g.bandOf_eq k i hib
  have hlt := Drv.lt_of_adr ha
  have hl := h.live k hk
  have hp : 1 ≤ v.liveN g k := by
    unfold Drv.liveN
    refine List.countP_pos_iff.2 ⟨v.at b, List.mem_of_getElem? (v.at_in b hlt), ?_⟩
    simp [ha, e2]
  obtain ⟨b0, b1, b2⟩ := h.bndOk hk
  rw [e2]
  refine ⟨?_, ?_, hk, by omega, by omega⟩
  · rw [e]; have : (0 : Int) ≤ (k : Int) * g.band := Int.mul_nonneg (by omega) (by omega); omega
  · rw [e]
    have h1 : (k + 1) * g.band ≤ g.bands * g.band := Nat.mul_le_mul_right _ hk
    rw [Nat.add_mul, Nat.one_mul] at h1
    have h2 : ((k : Int) * g.band) = ((k * g.band : Nat) : Int) := by rw [Int.natCast_mul]
    unfold Geo.size
    rw [h2]; omega
theorem VOk.fail {g : Geo} {v : Drv} (h : VOk g v) (e : Int) : VOk g (v.fail e) := by
  unfold Drv.fail
  split
  · exact h
  · exact ⟨h.len, h.ok, h.n1, h.nE, h.room, h.none, h.adr, h.inj, h.live⟩
theorem liveN_set (g : Geo) (v : Drv) (b : Nat) (n : Nw) (hb : b < v.entries.length) (k : Nat) :
    ({ v with entries := v.entries.set b n }.liveN g k : Int) = v.liveN g k - (if 0 ≤ (v.at b).address ∧ g.bandOf (v.at b).address = k then 1 else 0) + (if 0 ≤ n.address ∧ g.bandOf n.address = k then 1 else 0) := by
  have e : v.entries[b] = v.at b := by have := v.at_in b hb; rw [List.getElem?_eq_getElem hb] at this; exact Option.some.inj this
  have hm : 0 ≤ (v.at b).address ∧ g.bandOf (v.at b).address = k → 1 ≤ v.liveN g k := fun h => by
    unfold Drv.liveN
    exact List.countP_pos_iff.2 ⟨v.at b, List.mem_of_getElem? (v.at_in b hb), by simp [h.1, h.2]⟩
  unfold Drv.liveN at hm ⊢
  dsimp only
  rw [List.countP_set hb, e]
  by_cases h1 : 0 ≤ (v.at b).address ∧ g.bandOf (v.at b).address = k
  · have := hm h1
    by_cases h2 : 0 ≤ n.address ∧ g.bandOf n.address = k
    · simp only [h1, h2, and_self, decide_true, Bool.and_self, if_true]; omega
    · rw [if_pos h1, if_neg h2]
      have h2' : (decide (0 ≤ n.address) && decide (g.bandOf n.address = k)) = false := by simpa using h2
      simp only [h1, decide_true, Bool.and_self, h2', if_true]
      simp; omega
  · have h1' : (decide (0 ≤ (v.at b).address) && decide (g.bandOf (v.at b).address = k)) = false := by simpa using h1
    rw [if_neg h1]
    by_cases h2 : 0 ≤ n.address ∧ g.bandOf n.address = k
    · rw [if_pos h2]
      simp only [h1', h2, decide_true, Bool.and_self, if_true]; simp
    · have h2' : (decide (0 ≤ n.address) && decide (g.bandOf n.address = k)) = false := by simpa using h2
      rw [if_neg h2]
      simp only [h1', h2']; simp
theorem Drv.at_set (v : Drv) (b c : Nat) (n : Nw) (hb : b < v.entries.length) : { v with entries := v.entries.set b n }.at c = if b = c then n else v.at c := getD_set _ _ _ _ _ hb
theorem Drv.unlink_some (g : Geo) (v : Drv) (b : Nat) (h : 0 ≤ (v.at b).address) : v.unlink g b = { v with bands := v.bands.set (g.bandOf (v.at b).address) (v.bnd (g.bandOf (v.at b).address)).unl, entries := v.entries.set b .none } := by
  unfold Drv.unlink Drv.bandsWithout; rw [if_pos (by exact h)]; rfl
theorem Drv.unlink_none (g : Geo) (v : Drv) (b : Nat) (h : (v.at b).address < 0) : v.unlink g b = { v with entries := v.entries.set b .none } := by
  unfold Drv.unlink Drv.bandsWithout; rw [if_neg (by show ¬ 0 ≤ (v.at b).address; omega)]
theorem VOk.unlink {g : Geo} {v : Drv} (h : VOk g v) (hg : g.Ok) (b : Nat) (hb : b < v.entries.length) : VOk g (v.unlink g b) ∧ (v.unlink g b).at b = .none ∧ (∀ k, ((v.unlink g b).bnd k).used = (v.bnd k).used) ∧ (v.unlink g b).entries.length = v.entries.length := by
  by_cases ha : 0 ≤ (v.at b).address
  · obtain ⟨f1, f2, f3, f4, f5⟩ := h.facts hg ha
    rw [v.unlink_some g b ha]
    generalize hk0 : g.bandOf (v.at b).address = k0 at *
    have hl : k0 < v.bands.length := by rw [h.len]; exact f3
    have hat : ∀ c, (⟨v.key, v.entries.set b .none, v.bands.set k0 (v.bnd k0).unl, v.time, v.failed⟩ : Drv).at c = if b = c then .none else v.at c := fun c => getD_set _ _ _ _ _ hb
    have hbn : ∀ k, (⟨v.key, v.entries.set b .none, v.bands.set k0 (v.bnd k0).unl, v.time, v.failed⟩ : Drv).bnd k = if k0 = k then (v.bnd k0).unl else v.bnd k := fun c => getD_set _ _ _ _ _ hl
    have hu : ∀ k, ((⟨v.key, v.entries.set b .none, v.bands.set k0 (v.bnd k0).unl, v.time, v.failed⟩ : Drv).bnd k).used = (v.bnd k).used := by
      intro k; rw [hbn]; split
      · rename_i e; subst e; rfl
      · rfl
    obtain ⟨o1, o2, o3⟩ := h.bndOk f3
    refine ⟨⟨by rw [← h.len]; simp, ⟨by simpa using h.ok.one, by simpa using h.ok.most, h.ok.size1, ?_⟩, by simpa using h.n1, by simpa using h.nE, by simpa using h.room, ?_, ?_, ?_, ?_⟩, ?_, hu, by simp⟩
    · intro x hx
      rcases List.mem_or_eq_of_mem_set hx with hx | rfl
      · exact h.ok.ok x hx
      · show 0 ≤ (v.bnd k0).live - 1 ∧ (v.bnd k0).live - 1 ≤ (v.bnd k0).used ∧ (v.bnd k0).used ≤ g.band
        omega
    · intro c hc
      rw [hat] at hc ⊢
      split
      · rfl
      · rename_i e; rw [if_neg e] at hc; exact h.none c hc
    · intro c hc
      rw [hat] at hc ⊢
      split
      · rename_i e; rw [if_pos e] at hc; exact absurd hc (by decide)
      · rename_i e; rw [if_neg e] at hc
        obtain ⟨k, i, h1, h2, h3, h4⟩ := h.adr c hc
        exact ⟨k, i, h1, by rw [hu]; exact h2, h3, h4⟩
    · intro c c' h1 h2
      rw [hat] at h1 h2
      rw [hat] at h2
      split at h1
      · exact absurd h1 (by decide)
      · rename_i e
        rw [if_neg e] at h2
        split at h2
        · rw [h2] at h1; exact absurd h1 (by decide)
        · exact h.inj c c' h1 h2
    · intro k hk
      rw [hbn]
      have hs := liveN_set g { v with bands := v.bands.set k0 (v.bnd k0).unl } b .none hb k
      have e1 : ({ v with bands := v.bands.set k0 (v.bnd k0).unl } : Drv).at b = v.at b := rfl
      have e2 : ({ v with bands := v.bands.set k0 (v.bnd k0).unl } : Drv).liveN g k = v.liveN g k := rfl
      rw [e1, e2, hk0] at hs
      rw [if_neg (fun h : 0 ≤ Nw.none.address ∧ _ => absurd h.1 (by decide))] at hs
      have hl2 := h.live k hk
      show _ = ({ v with bands := v.bands.set k0 (v.bnd k0).unl, entries := v.entries.set b .none }.liveN g k : Int)
      rw [hs]
      by_cases e : k0 = k
      · subst e
        rw [if_pos rfl, if_pos ⟨ha, rfl⟩]
        show (v.bnd k0).live - 1 = _
        omega
      · rw [if_neg e, if_neg (fun h => e h.2)]; omega
    · rw [hat, if_pos rfl]
  · rw [v.unlink_none g b (by omega)]
    have hn := h.none b (by omega)
    have hat : ∀ c, (⟨v.key, v.entries.set b .none, v.bands, v.time, v.failed⟩ : Drv).at c = v.at c := fun c => by
      have : (⟨v.key, v.entries.set b .none, v.bands, v.time, v.failed⟩ : Drv).at c = if b = c then .none else v.at c := getD_set _ _ _ _ _ hb
      rw [this]; split
      · rename_i e; subst e; exact hn.symm
      · rfl
    refine ⟨⟨h.len, h.ok, by simpa using h.n1, by simpa using h.nE, by simpa using h.room, fun c hc => by rw [hat] at hc ⊢; exact h.none c hc, fun c hc => by rw [hat] at hc ⊢; exact h.adr c hc, fun c c' h1 h2 => by rw [hat] at h1 h2; rw [hat] at h2; exact h.inj c c' h1 h2, ?_⟩, by rw [hat]; exact hn, fun _ => rfl, by simp⟩
    intro k hk
    have hs := liveN_set g v b .none hb k
    rw [if_neg (fun h : 0 ≤ Nw.none.address ∧ _ => absurd h.1 (by decide)), if_neg (fun h => ha h.1)] at hs
    rw [show (⟨v.key, v.entries.set b .none, v.bands, v.time, v.failed⟩ : Drv).liveN g k = v.liveN g k by omega]
    exact h.live k hk
/-- An entry is linked behind the last one of band 'k'. -/
def Drv.link (g : Geo) (v : Drv) (b : Nat) (kind version : Int) (k : Nat) : Drv :=
  { v with bands := v.bands.set k ⟨(v.bnd k).used + 1, (v.bnd k).live + 1, v.time, (v.bnd k).wear⟩, entries := v.entries.set b ⟨kind, version, (g.random : Int) + k * g.band + (v.bnd k).used⟩ }
theorem VOk.link {g : Geo} {v : Drv} (h : VOk g v) (b : Nat) (hb : b < v.entries.length) (hn : v.at b = .none) (kind version : Int) (k0 : Nat) (hk0 : k0 < g.bands) (hu : (v.bnd k0).used < g.band) : VOk g (v.link g b kind version k0) := by
  obtain ⟨o1, o2, o3⟩ := h.bndOk hk0
  obtain ⟨u, hu2⟩ : ∃ u : Nat, (v.bnd k0).used = (u : Int) := ⟨(v.bnd k0).used.toNat, by omega⟩
  have hl : k0 < v.bands.length := by rw [h.len]; exact hk0
  unfold Drv.link
  rw [hu2]
  have hbo : g.bandOf ((g.random : Int) + k0 * g.band + u) = k0 := g.bandOf_eq k0 u (by omega)
  have hpos : (0 : Int) ≤ (g.random : Int) + k0 * g.band + u := by
    have : (0 : Int) ≤ (k0 : Int) * g.band := Int.mul_nonneg (by omega) (by omega)
    omega
  generalize hA : (g.random : Int) + k0 * g.band + u = A at *
  have hat : ∀ c, (⟨v.key, v.entries.set b ⟨kind, version, A⟩, v.bands.set k0 ⟨(u : Int) + 1, (v.bnd k0).live + 1, v.time, (v.bnd k0).wear⟩, v.time, v.failed⟩ : Drv).at c = if b = c then ⟨kind, version, A⟩ else v.at c := fun c => getD_set _ _ _ _ _ hb
  have hbn : ∀ k, (⟨v.key, v.entries.set b ⟨kind, version, A⟩, v.bands.set k0 ⟨(u : Int) + 1, (v.bnd k0).live + 1, v.time, (v.bnd k0).wear⟩, v.time, v.failed⟩ : Drv).bnd k = if k0 = k then ⟨(u : Int) + 1, (v.bnd k0).live + 1, v.time, (v.bnd k0).wear⟩ else v.bnd k := fun c => getD_set _ _ _ _ _ hl
  have hfresh : ∀ c, 0 ≤ (v.at c).address → (v.at c).address ≠ A := by
    intro c hc e
    obtain ⟨k, i, h1, h2, h3, h4⟩ := h.adr c hc
    have hk : g.bandOf (v.at c).address = k := by rw [h4]; exact g.bandOf_eq k i h3
    have : k = k0 := by rw [← hk, e]; exact hbo
    subst this
    rw [hu2] at h2
    rw [h4, ← hA] at e
    omega
  refine ⟨by rw [← h.len]; simp, ⟨by simpa using h.ok.one, by simpa using h.ok.most, h.ok.size1, ?_⟩, by simpa using h.n1, by simpa using h.nE, by simpa using h.room, ?_, ?_, ?_, ?_⟩
  · intro x hx
    rcases List.mem_or_eq_of_mem_set hx with hx | rfl
    · exact h.ok.ok x hx
    · show 0 ≤ (v.bnd k0).live + 1 ∧ (v.bnd k0).live + 1 ≤ (u : Int) + 1 ∧ (u : Int) + 1 ≤ g.band
      omega
  · intro c hc
    rw [hat] at hc ⊢
    split
    · rename_i e; rw [if_pos e] at hc; exact absurd hc (by show ¬ A < 0; omega)
    · rename_i e; rw [if_neg e] at hc; exact h.none c hc
  · intro c hc
    rw [hat] at hc ⊢
    split
    · exact ⟨k0, u, hk0, by rw [hbn, if_pos rfl]; show (u : Int) < u + 1; omega, by omega, hA.symm⟩
    · rename_i e; rw [if_neg e] at hc
      obtain ⟨k, i, h1, h2, h3, h4⟩ := h.adr c hc
      refine ⟨k, i, h1, ?_, h3, h4⟩
      rw [hbn]; split
      · rename_i e2; subst e2; rw [hu2] at h2; show (i : Int) < u + 1; omega
      · exact h2
  · intro c c' h1 h2
    rw [hat] at h1 h2
    rw [hat] at h2
    by_cases e : b = c
    · by_cases e2 : b = c'
      · omega
      · rw [if_pos e, if_neg e2] at h2
        rw [if_pos e] at h1
        exact absurd h2.symm (hfresh c' (by rw [← h2]; exact h1))
    · rw [if_neg e] at h1 h2
      by_cases e2 : b = c'
      · rw [if_pos e2] at h2; exact absurd h2 (hfresh c h1)
      · rw [if_neg e2] at h2; exact h.inj c c' h1 h2
  · intro k hk
    rw [hbn]
    have hs := liveN_set g { v with bands := v.bands.set k0 ⟨(u : Int) + 1, (v.bnd k0).live + 1, v.time, (v.bnd k0).wear⟩ } b ⟨kind, version, A⟩ hb k
    have e1 : ({ v with bands := v.bands.set k0 ⟨(u : Int) + 1, (v.bnd k0).live + 1, v.time, (v.bnd k0).wear⟩ } : Drv).at b = .none := hn
    have e2 : ({ v with bands := v.bands.set k0 ⟨(u : Int) + 1, (v.bnd k0).live + 1, v.time, (v.bnd k0).wear⟩ } : Drv).liveN g k = v.liveN g k := rfl
    rw [e1, e2, hbo] at hs
    rw [if_neg (fun h : 0 ≤ Nw.none.address ∧ _ => absurd h.1 (by decide))] at hs
    have hl2 := h.live k hk
    show _ = ({ v with bands := v.bands.set k0 ⟨(u : Int) + 1, (v.bnd k0).live + 1, v.time, (v.bnd k0).wear⟩, entries := v.entries.set b ⟨kind, version, A⟩ }.liveN g k : Int)
    rw [hs]
    by_cases e : k0 = k
    · subst e
      rw [if_pos rfl, if_pos ⟨hpos, rfl⟩]
      show (v.bnd k0).live + 1 = _
      omega
    · rw [if_neg e, if_neg (fun h => e h.2)]; omega

theorem openUpto_spec (l : List Band) (s : Int) : ∀ k, 0 ≤ openUpto l s k → 0 < (l.getD (openUpto l s k).toNat .zero).used ∧ (l.getD (openUpto l s k).toNat .zero).used < s
  | 0, h => absurd h (show ¬ (0 : Int) ≤ -1 by decide)
  | k + 1, h => by
    unfold openUpto at h ⊢
    split
    · rename_i hc; rw [Int.toNat_natCast]; exact ⟨hc.1, hc.2.1⟩
    · rename_i hc; rw [if_neg hc] at h; exact openUpto_spec l s k h
theorem leastUpto_spec (l : List Band) : ∀ k, 0 ≤ leastUpto l k → (l.getD (leastUpto l k).toNat .zero).used = 0
  | 0, h => absurd h (show ¬ (0 : Int) ≤ -1 by decide)
  | k + 1, h => by
    unfold leastUpto at h ⊢
    split
    · rename_i hc; rw [Int.toNat_natCast]; exact hc.1
    · rename_i hc; rw [if_neg hc] at h; exact leastUpto_spec l k h
theorem openAns_spec {l : List Band} {size : Int} (hs : 1 ≤ size) (h : (openAns l size).2 = 0) : ∃ k : Nat, k < l.length ∧ (openAns l size).1 = (k : Int) ∧ (l.getD k .zero).used < size := by
  unfold openAns at *
  split
  · rename_i hc
    have := openUpto_range l size l.length
    refine ⟨(openBand l size).toNat, by unfold openBand at *; omega, by simp; omega, (openUpto_spec l size l.length hc).2⟩
  · rename_i hc
    rw [if_neg hc] at h
    split
    · rename_i h2; rw [if_pos h2] at h; exact absurd h (by decide)
    · rename_i h2
      have := leastUpto_range l l.length
      refine ⟨(least l).toNat, by unfold least at *; omega, by simp; omega, ?_⟩
      rw [show (l.getD (least l).toNat .zero).used = 0 from leastUpto_spec l l.length (by unfold least at h2; omega)]
      omega
theorem openAns_ne {l : List Band} {size : Int} (h : (openAns l size).2 ≠ 0) : openAns l size = (0, 11) := by
  unfold openAns at *
  split
  · rename_i hc; rw [if_pos hc] at h; exact absurd rfl h
  · rename_i hc
    rw [if_neg hc] at h
    split
    · rfl
    · rename_i h2; rw [if_neg h2] at h; exact absurd rfl h
/-- The band that takes an append: there is room in it, and it is not the one that is spared. -/
theorem VOk.open_spec {g : Geo} {v : Drv} (h : VOk g v) (ex : Int) (hex : ex < g.bands) (ho : (openAns (v.openList g ex) g.band).2 = 0) :
    ∃ k : Nat, k < g.bands ∧ (openAns (v.openList g ex) g.band).1 = (k : Int) ∧ (v.bnd k).used < g.band ∧ (k : Int) ≠ ex := by
  obtain ⟨k, h1, h2, h3⟩ := openAns_spec h.ok.size1 ho
  have hlen : (v.openList g ex).length = g.bands := by rw [← h.len]; unfold Drv.openList; split <;> simp
  refine ⟨k, by omega, h2, ?_⟩
  unfold Drv.openList at h3
  by_cases h0 : 0 ≤ ex
  · rw [if_pos h0, getD_set _ _ _ _ _ (by rw [h.len]; omega)] at h3
    split at h3
    · exact absurd h3 (by show ¬ (g.band : Int) < g.band; omega)
    · exact ⟨h3, by omega⟩
  · rw [if_neg h0] at h3; exact ⟨h3, by omega⟩

def appendRun (v : Drv) (d : Dsk) (x : Ent) (ex : Int) : (Drv × Dsk) × Int :=
  if (openAns (v.openList d.geo ex) d.geo.band).2 ≠ 0 then ((v, d), (openAns (v.openList d.geo ex) d.geo.band).2) else
  if (d.writeAll v.key ((d.geo.random : Int) + (openAns (v.openList d.geo ex) d.geo.band).1.toNat * d.geo.band + (v.bnd (openAns (v.openList d.geo ex) d.geo.band).1.toNat).used) (encode x v.stamp)).2 ≠ 0 then
    ((v.fail (d.writeAll v.key ((d.geo.random : Int) + (openAns (v.openList d.geo ex) d.geo.band).1.toNat * d.geo.band + (v.bnd (openAns (v.openList d.geo ex) d.geo.band).1.toNat).used) (encode x v.stamp)).2,
      (d.writeAll v.key ((d.geo.random : Int) + (openAns (v.openList d.geo ex) d.geo.band).1.toNat * d.geo.band + (v.bnd (openAns (v.openList d.geo ex) d.geo.band).1.toNat).used) (encode x v.stamp)).1),
      (d.writeAll v.key ((d.geo.random : Int) + (openAns (v.openList d.geo ex) d.geo.band).1.toNat * d.geo.band + (v.bnd (openAns (v.openList d.geo ex) d.geo.band).1.toNat).used) (encode x v.stamp)).2)
  else ((({ v with time := v.stamp }.unlink d.geo x.block.toNat).link d.geo x.block.toNat x.kind x.version (openAns (v.openList d.geo ex) d.geo.band).1.toNat,
    (d.writeAll v.key ((d.geo.random : Int) + (openAns (v.openList d.geo ex) d.geo.band).1.toNat * d.geo.band + (v.bnd (openAns (v.openList d.geo ex) d.geo.band).1.toNat).used) (encode x v.stamp)).1), 0)
def Ent.zero : Ent := ⟨0, 0, 0, zero8⟩
def fetchAns (n : Nw) (b : Nat) (r : (Dsk × Option (List UInt8)) × Int) : Ent × Int :=
  if r.2 ≠ 0 then (.zero, r.2) else
  if (decEnt (r.1.2.getD [])).kind = n.kind ∧ (decEnt (r.1.2.getD [])).block = b ∧ (decEnt (r.1.2.getD [])).version = n.version then (decEnt (r.1.2.getD []), 0) else (.zero, 15)
def fetchRun (v : Drv) (d : Dsk) (b : Nat) : Dsk × Ent × Int := ((d.sector v.key (v.at b).address).1.1, fetchAns (v.at b) b (d.sector v.key (v.at b).address))
end Go.Proofs.YthhcooljjhdjbaaGreat
