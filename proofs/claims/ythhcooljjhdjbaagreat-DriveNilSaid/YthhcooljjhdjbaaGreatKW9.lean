/- Contracts: faults and the power. -/
import Derived.Test.YthhcooljjhdjbaaGreatKW8
set_option linter.unusedVariables false
set_option linter.unusedSimpArgs false
namespace Go.Proofs.YthhcooljjhdjbaaGreat
open Go.RowKit

def fltCells (f : Flt) : List Value := [.int .i64 f.place, .int .i64 f.kind, .int .i64 f.to]
def fltV (f : Flt) : Value := .agg #[.int .i64 f.place, .int .i64 f.kind, .int .i64 f.to]
theorem flt_cells (l : List Flt) (i : Nat) (f : Flt) (h : l[i]? = some f) :
    (l.flatMap fltCells)[i * 3]? = some (.int .i64 f.place) ∧ (l.flatMap fltCells)[i * 3 + 1]? = some (.int .i64 f.kind) ∧ (l.flatMap fltCells)[i * 3 + 2]? = some (.int .i64 f.to) := by
  induction l generalizing i with
  | nil => simp at h
  | cons x l ih =>
    rw [List.flatMap_cons]
    cases i with
    | zero => simp at h; subst h; simp [fltCells]
    | succ i =>
      rw [List.getElem?_cons_succ] at h
      have e : (fltCells x).length = 3 := rfl
      rw [List.getElem?_append_right (by rw [e]; omega), List.getElem?_append_right (by rw [e]; omega), List.getElem?_append_right (by rw [e]; omega), e]
      have := ih i h
      rw [show (i + 1) * 3 - 3 = i * 3 from by omega, show (i + 1) * 3 + 1 - 3 = i * 3 + 1 from by omega, show (i + 1) * 3 + 2 - 3 = i * 3 + 2 from by omega]
      exact this
theorem length_fltCells (l : List Flt) : (l.flatMap fltCells).length = l.length * 3 := by
  induction l with
  | nil => rfl
  | cons x l ih => rw [List.flatMap_cons, List.length_append, ih, List.length_cons]; simp [fltCells]; omega
theorem fltCells_one (l : List Flt) : ∀ u ∈ l.flatMap fltCells, u.oneCell' = true := by
  intro u hu
  obtain ⟨f, _, hf⟩ := List.mem_flatMap.1 hu
  simp [fltCells] at hf
  rcases hf with rfl | rfl | rfl <;> rfl
def FaultsAt (w : World) (fv : Value) (l : List Flt) : Prop := w.ownsRow 0 49 3 fv l.length (l.flatMap fltCells)
theorem FaultsAt.keep {B : Nat} {Ts : List TypeId} {w w' : World} {fv : Value} {l : List Flt} (h : FaultsAt w fv l) (hk : Keep B Ts w w') (hT : 49 ∉ Ts) : FaultsAt w' fv l := ownsRow_keep h hk hT
theorem FaultsAt.shape {w : World} {fv : Value} {l : List Flt} (h : FaultsAt w fv l) : (fv = .slice none 0 0 ∧ l = []) ∨ ∃ q c, fv = .slice (some ⟨q, 0, none⟩) l.length c := by
  rcases ownsRow_shape h with ⟨h1, h2⟩ | ⟨q, c, h1, _⟩
  · exact .inl ⟨h1, List.eq_nil_of_length_eq_zero h2⟩
  · exact .inr ⟨q, c, h1⟩

theorem faultAt_none {l : List Flt} {op : Int} (h : ∀ (j : Nat) (f : Flt), l[j]? = some f → f.place ≠ op) : faultAt l op = ⟨0, 0, 0⟩ := by
  unfold faultAt
  rw [List.find?_eq_none.2]
  · rfl
  · intro f hf
    obtain ⟨j, hj, rfl⟩ := List.getElem_of_mem hf
    simpa using h j _ (List.getElem?_eq_getElem hj)
theorem faultAt_some {l : List Flt} {op : Int} (k : Nat) (f : Flt) (hk : l[k]? = some f) (hf : f.place = op) (h : ∀ (j : Nat) (f : Flt), j < k → l[j]? = some f → f.place ≠ op) : faultAt l op = f := by
  unfold faultAt
  have : l.find? (fun f => f.place == op) = some f := by
    induction l generalizing k with
    | nil => simp at hk
    | cons x l ih =>
      cases k with
      | zero => simp at hk; subst hk; simp [hf]
      | succ k =>
        have hx := h 0 x (by omega) (by simp)
        rw [List.find?_cons_of_neg (by simpa using hx)]
        exact ih k (by simpa using hk) (fun j f hj hl => h (j + 1) f (by omega) (by simpa using hl))
  rw [this]; rfl

def FatPost (w : World) (f : Flt) (e : Ending) (w' : World) : Prop := ∃ b : Bool, e = .returned (.tuple #[fltV f, .bool b]) ∧ Ext w w'
set_option maxHeartbeats 2000000 in
theorem fat {w : World} {fv : Value} {l : List Flt} (h : FaultsAt w fv l) (op : Int) (hl : l.length ≤ 4096) :
    Calls Tryz.prog 119 #[fv, .int .i64 op] w (FatPost w (faultAt l op)) := by
  rcases h.shape with ⟨rfl, rfl⟩ | ⟨q, c, rfl⟩
  · have e0 : FatPost w (faultAt [] op) = FatPost w ⟨0, 0, 0⟩ := rfl
    rw [e0]
    clear h e0
    go_enter Tryz.func119, Tryz.ntmps119
    go_wp2
    go_loop [10] (fun i => i = .int .i64 0) (fun _ => 0)
    case atStart => rfl
    case round =>
      subst hrel
      go_wp2
      exact bodyPost_ret (v := .tuple #[fltV ⟨0, 0, 0⟩, .bool false]) (by simp [results, Tryz.results119, go_sem, fltV]) rfl ⟨false, rfl, (Ext.refl _).alloc _⟩
  · have H := Lib.hid h
    clear h
    go_enter Tryz.func119, Tryz.ntmps119
    go_wp2
    go_loopw [10] (fun i wr => ∃ k : Nat, k ≤ l.length ∧ i = .int .i64 k ∧ Ext w wr ∧ Blk wr w.heap.size 49 #[.int .i64 0, .int .i64 0, .int .i64 0] ∧ ∀ (j : Nat) (f : Flt), j < k → l[j]? = some f → f.place ≠ op) (fun i _ => l.length - (intOf i).toNat)
    case atStart => exact ⟨0, Nat.zero_le _, rfl, (Ext.refl _).alloc _, Blk.new _ _ _, fun j f hj => by omega⟩
    case round =>
      obtain ⟨k, hk, rfl, hx, hb, hno⟩ := hrel
      have b0 : wr.cell? ⟨w.heap.size, 0, none⟩ = some (.int .i64 0) := hb.cell 0 rfl
      have b1 : wr.cell? ⟨w.heap.size, 1, none⟩ = some (.int .i64 0) := hb.cell 1 rfl
      have b2 : wr.cell? ⟨w.heap.size, 2, none⟩ = some (.int .i64 0) := hb.cell 2 rfl
      have f0 : wr.frozen? ⟨w.heap.size, 0, none⟩ = false := hb.free 0
      have f1 : wr.frozen? ⟨w.heap.size, 1, none⟩ = false := hb.free 1
      have f2 : wr.frozen? ⟨w.heap.size, 2, none⟩ = false := hb.free 2
      have hs := hb.lt
      have hs2 := hx.size
      by_cases hlt : k < l.length
      · have hlk : l[k]? = some l[k] := List.getElem?_eq_getElem hlt
        have row := ownsRow_keep H.out hx (by simp)
        obtain ⟨q0, q1, q2⟩ := flt_cells l k _ hlk
        have d0 : wr.cell? ⟨q, k * 3, none⟩ = some (.int .i64 l[k].place) := by rw [row.cellAt _ (by omega)]; exact q0
        have d1 : wr.cell? ⟨q, k * 3 + 1, none⟩ = some (.int .i64 l[k].kind) := by rw [row.cellAt _ (by omega)]; exact q1
        have d2 : wr.cell? ⟨q, k * 3 + 2, none⟩ = some (.int .i64 l[k].to) := by rw [row.cellAt _ (by omega)]; exact q2
        generalize hf : l[k] = f at d0 d1 d2 hlk
        have HX := Lib.hid hx
        have HB := Lib.hid hb
        have HNO := Lib.hid hno
        have HLK := Lib.hid hlk
        clear hx hb hno hlk row q0 q1 q2 hf
        have hk2 : (k : Int) < 4096 := by omega
        by_cases hp : f.place = op
        · have hp2 : (f.place == op) = true := by simpa using hp
          have HP := Lib.hid hp
          clear hp
          go_wp2
          refine bodyPost_ret (v := .tuple #[fltV f, .bool true]) (by simp [results, Tryz.results119, go_sem, fltV, hs, b0, b1, b2]) rfl ⟨true, ?_, ?_⟩
          · rw [faultAt_some k f HLK.out HP.out (HNO.out)]
          · exact (Keep.set_new (Keep.set_new (Keep.set_new HX.out (by omega) _ _) (by omega) _ _) (by omega) _ _).alloc _
        · have hp2 : (f.place == op) = false := by simpa using hp
          have HP := Lib.hid hp
          clear hp
          go_wp2
          go_roundw
          case rel =>
            refine ⟨k + 1, by omega, by go_num, HX.out.alloc _, HB.out.alloc _, fun j g hj hg => ?_⟩
            by_cases hjk : j < k
            · exact HNO.out j g hjk hg
            · obtain rfl : j = k := by omega
              rw [HLK.out] at hg
              cases hg
              exact HP.out
          case measure => simp [intOf]; omega
      · obtain rfl : k = l.length := by omega
        have hfa := faultAt_none (l := l) (op := op) (fun j f hj => hno j f (List.getElem?_eq_some_iff.1 hj).1 hj)
        have HFA := Lib.hid hfa
        have HX := Lib.hid hx
        clear hfa hno hx hb
        go_wp2
        refine bodyPost_ret (v := .tuple #[fltV ⟨0, 0, 0⟩, .bool false]) (by simp [results, Tryz.results119, go_sem, fltV, hs, b0, b1, b2]) rfl ⟨false, ?_, ?_⟩
        · rw [HFA.out]
        · exact Keep.set_new (Keep.set_new (Keep.set_new HX.out (by omega) _ _) (by omega) _ _) (by omega) _ _
end Go.Proofs.YthhcooljjhdjbaaGreat
