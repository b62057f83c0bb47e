/- Arrays of eight bytes are compared. -/
import Derived.Test.YthhcooljjhdjbaaGreatKW19
set_option linter.unusedVariables false
set_option linter.unusedSimpArgs false
namespace Go.Proofs.YthhcooljjhdjbaaGreat
open Go.RowKit
theorem run_part5 (xs : Array Value) (i : Nat) (v : Value) (h : xs[i]? = some v) (w : World) : (part 5 xs i).run Tryz.prog w = .ok v w := by
  simp [part, isAgg, run_underlying Tryz.underlying5, h]
def arrEq (d : Nat) (e : TypeId) (n : Nat) (xs ys : Array Value) : List Nat → Sem Bool
  | [] => pure true
  | i :: is => do
    let a ← part e xs (i * n)
    let b ← part e ys (i * n)
    let r ← Op.equalIn d e a b
    if (!r) = true then pure false else arrEq d e n xs ys is
theorem run_equalIn_arr {P : Program} (d : Nat) (t e : TypeId) (len : Nat) (i : TypeInfo) (xs ys : Array Value) (w : World) (ht : P.underlying t = some (.array len e)) (hi : P.info? e = some i) :
    (Op.equalIn (d + 1) t (.agg xs) (.agg ys)).run P w = (arrEq d e i.size xs ys (List.range' 0 len 1)).run P w := by
  simp only [Op.equalIn, Sem.run_bind, run_underlying ht, Result.andThen_ok, sizeOf, typeInfo, run_program, hi, Sem.run_pure]
  rw [Std.Legacy.Range.forIn_eq_forIn_range']
  simp only [Std.Legacy.Range.size]
  have hl : (len - 0 + 1 - 1) / 1 = len := by omega
  rw [hl]
  generalize List.range' 0 len 1 = is
  clear ht hi hl
  induction is generalizing w with
  | nil => simp [arrEq]
  | cons f fs ih =>
    simp only [List.forIn_cons, arrEq, Sem.run_bind, Sem.run_ite]
    generalize (part e xs (f * i.size)).run P w = r1
    cases r1 with
    | ok a w1 =>
      simp only [Result.andThen_ok]
      generalize (part e ys (f * i.size)).run P w1 = r2
      cases r2 with
      | ok b w2 =>
        simp only [Result.andThen_ok]
        generalize (Op.equalIn d e a b).run P w2 = r3
        cases r3 with
        | ok r w3 =>
          cases r
          · simp only [Result.andThen_ok, Bool.not_false, if_true, Sem.run_pure]
          · simp only [Result.andThen_ok, Bool.not_true, Bool.false_eq_true, if_false, Sem.run_pure]
            exact ih w3
        | halt x w3 => simp [Result.andThen]
      | halt x w2 => simp [Result.andThen]
    | halt x w1 => simp [Result.andThen]
theorem info_size {t : TypeId} {z : Value} {s b : Nat} (h : (Tryz.prog.info? t).map (fun i => (i.zero, i.size, i.bytes)) = some (some z, s, b)) : ∃ i, Tryz.prog.info? t = some i ∧ i.size = s := by
  obtain ⟨i0, hi, hz0, hz1, hz2⟩ := info_parts h
  exact ⟨i0, hi, hz1⟩
def bytes8 (l : List UInt8) : Array Value := (l.map byteV).toArray
theorem run_arrEq5 (d : Nat) (bs cs : List UInt8) (w : World) : ∀ (n k : Nat), k + n = bs.length → k + n = cs.length →
    (arrEq (d + 1) 5 1 (bytes8 bs) (bytes8 cs) (List.range' k n 1)).run Tryz.prog w = .ok (decide (bs.drop k = cs.drop k)) w
  | 0, k, hb, hc => by
    rw [List.drop_of_length_le (by omega), List.drop_of_length_le (by omega)]
    simp [arrEq]
  | n + 1, k, hb, hc => by
    have ih := run_arrEq5 d bs cs w n (k + 1) (by omega) (by omega)
    have h1 : (bytes8 bs)[k * 1]? = some (byteV (bs[k]'(by omega))) := by
      simp [bytes8, List.getElem?_eq_getElem (show k < bs.length by omega)]
    have h2 : (bytes8 cs)[k * 1]? = some (byteV (cs[k]'(by omega))) := by
      simp [bytes8, List.getElem?_eq_getElem (show k < cs.length by omega)]
    rw [List.range'_succ]
    simp only [arrEq, Sem.run_bind, run_part5 _ _ _ h1, run_part5 _ _ _ h2, Result.andThen_ok, byteV, run_equalIn_int w d 5 .u8 .u8 _ _ Tryz.underlying5, Sem.run_ite, ih, Sem.run_pure]
    rw [List.drop_eq_getElem_cons (show k < bs.length by omega), List.drop_eq_getElem_cons (show k < cs.length by omega)]
    generalize bs[k]'(by omega) = x
    generalize cs[k]'(by omega) = y
    generalize bs.drop (k + 1) = l
    generalize cs.drop (k + 1) = m
    by_cases he : x = y
    · subst he; simp
    · have : ¬ (x.toNat : Int) = (y.toNat : Int) := fun h => he (UInt8.toNat_inj.1 (Int.ofNat.inj h))
      simp [he, this]
theorem run_eq27 (d : Nat) (bs cs : List UInt8) (w : World) (hb : bs.length = 8) (hc : cs.length = 8) :
    (Op.equalIn (d + 2) 27 (.agg (bytes8 bs)) (.agg (bytes8 cs))).run Tryz.prog w = .ok (decide (bs = cs)) w := by
  obtain ⟨i, hi, hs⟩ := info_size Tryz.info5
  rw [run_equalIn_arr (d + 1) 27 5 8 i _ _ w Tryz.underlying27 hi, hs, run_arrEq5 d bs cs w 8 0 (by omega) (by omega)]
  simp
end Go.Proofs.YthhcooljjhdjbaaGreat
