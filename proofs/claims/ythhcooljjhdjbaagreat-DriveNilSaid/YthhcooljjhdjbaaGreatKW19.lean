/- Contracts: the sum of bytes. Contracts: a number is put behind bytes, and got from bytes. -/
import Derived.Test.YthhcooljjhdjbaaGreatKM4
import Derived.Test.YthhcooljjhdjbaaGreatKW4
set_option linter.unusedVariables false
set_option linter.unusedSimpArgs false
namespace Go.Proofs.YthhcooljjhdjbaaGreat
open Go.RowKit

theorem addr_at (b off j : Nat) : (⟨b, off, none⟩ : Addr).add j = ⟨b, off + j, none⟩ := by
  unfold Addr.add; split
  · rename_i h; subst h; rfl
  · rfl

theorem cstep (x : Int) (w : World) : Calls Tryz.prog 162 #[.int .u64 x] w fun e w' => e = .returned (.int .u64 (crcStep x)) ∧ w' = w := by
  by_cases h : (bits .and .u64 x 1 == 1) = true
  · have hs : crcStep x = bits .xor .u64 (x / 2) 14514072000185962306 := by unfold crcStep; rw [if_pos h]
    rw [hs]
    clear hs
    go_enter Tryz.func162, Tryz.ntmps162
    go_wp2
    go_ret
    exact ⟨rfl, rfl⟩
  · have hs : crcStep x = x / 2 := by unfold crcStep; rw [if_neg h]
    rw [hs]
    have h : (bits .and .u64 x 1 == 1) = false := by simpa using h
    clear hs
    go_enter Tryz.func162, Tryz.ntmps162
    go_wp2
    go_ret
    exact ⟨rfl, rfl⟩

/-- A slice that reads as bytes, wherever it lies. -/
def BytesIn (w : World) (v : Value) (l : List UInt8) : Prop :=
  (v = .slice none 0 0 ∧ l = []) ∨ ∃ b off cap, v = .slice (some ⟨b, off, none⟩) l.length cap ∧ ∀ (i : Nat) (c : UInt8), l[i]? = some c → w.cell? ⟨b, off + i, none⟩ = some (.int .u8 (c.toNat : Int))

@[go_sem] theorem u64_signed : IntKind.u64.signed = false := rfl
theorem crc_take (l : List UInt8) (k : Nat) (s : Int) (h : k < l.length) : (l.take (k + 1)).foldl crcUpd s = crcUpd ((l.take k).foldl crcUpd s) l[k] := by
  rw [List.take_add_one, List.getElem?_eq_getElem h, List.foldl_append]; rfl
set_option maxHeartbeats 1000000 in
theorem cupdate {w : World} {v : Value} {l : List UInt8} (h : BytesIn w v l) (hl : l.length ≤ 4096) (s : Int) :
    Calls Tryz.prog 128 #[.int .u64 s, v] w fun e w' => e = .returned (.int .u64 (crcUpdate s l)) ∧ w' = w := by
  unfold crcUpdate crcNot
  have hU : ∀ x (b : UInt8), crcUpd x b = crcIter 8 (bits .xor .u64 x (IntKind.u64.wrap (b.toNat : Int))) := fun _ _ => rfl
  rcases h with ⟨rfl, rfl⟩ | ⟨b, off, cap, rfl, h⟩
  · clear hU
    generalize hx0 : bits .xor .u64 IntKind.u64.max s = x0
    have HX0 := Lib.hid hx0
    clear hx0
    go_enter Tryz.func128, Tryz.ntmps128
    go_wp2
    rw [HX0.out]
    go_loop [5, 12] (fun x i => x = .int .u64 x0 ∧ i = .int .i64 0) (fun _ _ => 0)
    case atStart => exact ⟨rfl, rfl⟩
    case round =>
      obtain ⟨rfl, rfl⟩ := hrel
      go_wp2
      go_ret
      exact ⟨rfl, rfl⟩
  · have H := Lib.hid h
    have HU := Lib.hid hU
    clear h hU
    generalize hx0 : bits .xor .u64 IntKind.u64.max s = x0
    have HX0 := Lib.hid hx0
    clear hx0
    go_enter Tryz.func128, Tryz.ntmps128
    go_wp2
    rw [HX0.out]
    go_loopw [5, 12] (fun x i wr => ∃ k : Nat, k ≤ l.length ∧ i = .int .i64 k ∧ x = .int .u64 ((l.take k).foldl crcUpd x0) ∧ wr = w) (fun _ i _ => l.length - (intOf i).toNat)
    case atStart => exact ⟨0, Nat.zero_le _, rfl, rfl, rfl⟩
    case round =>
      obtain ⟨k, hk, rfl, rfl, rfl⟩ := hrel
      by_cases hlt : k < l.length
      · have d0 := H.out k _ (List.getElem?_eq_getElem hlt)
        have HS := Lib.hid (crc_take l k x0 hlt)
        generalize (l.take k).foldl crcUpd x0 = x at *
        have HV := Lib.hid (HU.out x l[k])
        generalize l[k] = c at *
        go_wp2
        generalize bits .xor .u64 x (IntKind.u64.wrap (c.toNat : Int)) = x1 at *
        go_loopw [5, 20] (fun y j wq => ∃ m : Nat, m ≤ 8 ∧ j = .int .i64 m ∧ y = .int .u64 (crcIter m x1) ∧ wq = wr) (fun _ j _ => 8 - (intOf j).toNat)
        case atStart => exact ⟨0, Nat.zero_le _, rfl, rfl, rfl⟩
        case round =>
          obtain ⟨m, hm, rfl, rfl, rfl⟩ := hrel
          by_cases hlm : m < 8
          · have HI := Lib.hid (show crcIter (m + 1) x1 = crcStep (crcIter m x1) from rfl)
            generalize crcIter m x1 = y at *
            go_wp2_with fail
            refine (cstep y _).mono ?_
            rintro e w1 ⟨rfl, rfl⟩
            go_wp2
            go_roundw
            case rel => exact ⟨m + 1, by omega, by go_num, by rw [HI.out], trivial⟩
            case measure => simp [intOf]; omega
          · have hm8 : m = 8 := by omega
            subst hm8
            rw [← HV.out] at *
            go_wp2
            go_roundw
            case rel => exact ⟨k + 1, by omega, by go_num, by rw [HS.out], trivial⟩
            case measure => simp [intOf]; omega
      · have hkl : k = l.length := by omega
        subst hkl
        rw [List.take_length]
        go_wp2
        go_ret
        exact ⟨rfl, rfl⟩

theorem csum {w : World} {v : Value} {l : List UInt8} (h : BytesIn w v l) (hl : l.length ≤ 4096) :
    Calls Tryz.prog 101 #[v] w fun e w' => e = .returned (.int .u64 (crcSum l)) ∧ w' = w := by
  have C := cupdate h hl 0
  unfold crcSum
  rcases h with ⟨rfl, rfl⟩ | ⟨b, off, cap, rfl, h⟩
  all_goals (
    have C := Lib.hid C
    go_enter Tryz.func101, Tryz.ntmps101
    go_wp2_with fail
    refine C.out.mono ?_
    rintro e w1 ⟨rfl, rfl⟩
    go_wp2
    go_ret
    exact ⟨rfl, rfl⟩)
end Go.Proofs.YthhcooljjhdjbaaGreat
namespace Go.Proofs.YthhcooljjhdjbaaGreat
open Go.RowKit

theorem own_keep {B : Nat} {e : TypeId} {size : Nat} {w w' : World} {v : Value} {n : Nat} {xs : List Value} (h : w.ownsRow B e size v n xs) (hg : w.grownBy w' v.ownBlock) : Keep B [e] w w' := by
  refine (Keep.refl B [e] w).grown hg ?_
  intro k hk
  rcases h.2 with ⟨rfl, _⟩ | ⟨g, cap, cur, rfl, hb, hg, _⟩
  · cases hk
  · cases hk
    exact .inr ⟨hb, cur, e, hg, by simp⟩
set_option maxRecDepth 8000 in
set_option maxHeartbeats 1000000 in
theorem eput {B : Nat} {w : World} {v : Value} {xs : List UInt8} (h : w.ownsRow B 5 1 v xs.length (xs.map byteV)) (hB : B ≤ w.heap.size) (hl : xs.length ≤ 64) (x : Int) (n : Nat) (h1 : 1 ≤ n) (h8 : n ≤ 8) :
    Calls Tryz.prog 147 #[v, .int .u64 x, .int .i64 n] w fun e w' => ∃ g c, e = .returned (.slice (some ⟨g, 0, none⟩) ((xs ++ leBytes n x).length) c) ∧
      w'.ownsRow B 5 1 (.slice (some ⟨g, 0, none⟩) ((xs ++ leBytes n x).length) c) ((xs ++ leBytes n x).length) ((xs ++ leBytes n x).map byteV) ∧ Keep B [5] w w' := by
  obtain ⟨i0, hi, hz0, hz1, hz2⟩ := info_parts Tryz.info5
  have HW := Lib.hid (leByte_mod x)
  have H := Lib.hid h
  clear h
  go_enter Tryz.func147, Tryz.ntmps147
  go_wp2
  go_loopw [0, 9] (fun v i wr => ∃ k : Nat, k ≤ n ∧ i = .int .i64 k ∧ wr.ownsRow B 5 1 v (xs ++ leBytes k x).length ((xs ++ leBytes k x).map byteV) ∧ Keep B [5] w wr) (fun _ i _ => n - (intOf i).toNat)
  case atStart => exact ⟨0, Nat.zero_le _, rfl, by simpa [leBytes] using H.out, Keep.refl _ _ _⟩
  case round =>
    obtain ⟨k, hk, rfl, hown, hx⟩ := hrel
    have hlen : (xs ++ leBytes k x).length = xs.length + k := by simp [length_leBytes]
    by_cases hlt : k < n
    · have hsz := hx.size
      have HX := Lib.hid hx
      have HN := Lib.hid (leBytes_succ k x)
      have HO := Lib.hid hown
      clear hx hown
      go_wp2_with (at_builtin; refine wpList_append_own _ rfl _ _ 65 rfl B 5 i0 (.int .u8 0) 1 1 Tryz.underlying65 hi hz0 hz1 hz2 rfl (by decide) _ _ _ rfl (ownsRow_keep HO.out ((Ext.refl wr).alloc _) (by simp)) ⟨wr.heap.size, 0, none⟩ 1 1 [.int .u8 (x / 2 ^ (8 * k) % 256)] rfl rfl ?c1 ?c2 ?c3 ?c4 ?c5 ?_)
      case c1 =>
        intro j u hj
        match j, hj with
        | 0, hj => simp at hj; subst hj; simp [Addr.add]
      case c2 => intro u hu; simp at hu; subst hu; rfl
      case c3 => unfold maxLen; omega
      case c4 => omega
      case c5 => simp; omega
      intro v' w2 hown' hgrow hnil
      have hk2 : Keep B [5] w w2 := HX.out.trans (((Keep.refl _ _ _).alloc _).trans (own_keep (ownsRow_keep HO.out ((Ext.refl wr).alloc _) (by simp)) hgrow))
      rw [HW.out k] at hown'
      have hown2 : w2.ownsRow B 5 1 v' (xs ++ leBytes (k + 1) x).length ((xs ++ leBytes (k + 1) x).map byteV) := by
        rw [HN.out, ← List.append_assoc, List.length_append, List.map_append, hlen, List.map_append, List.append_assoc]; exact hown'
      have HK := Lib.hid hk2
      have HO2 := Lib.hid hown2
      clear hgrow hnil hown' hown2 hk2
      go_wp2
      go_roundw
      case rel => exact ⟨k + 1, by omega, by go_num, HO2.out, HK.out⟩
      case measure => simp [intOf]; omega
    · have hkl : k = n := by omega
      subst hkl
      obtain ⟨g, c, hv⟩ : ∃ g c, u0 = .slice (some ⟨g, 0, none⟩) (xs ++ leBytes k x).length c := by
        rcases ownsRow_shape hown with ⟨_, h0⟩ | ⟨g, c, h, _⟩
        · omega
        · exact ⟨g, c, h⟩
      subst hv
      have HX := Lib.hid hx
      have HO := Lib.hid hown
      clear hx hown
      go_wp2
      go_ret
      exact ⟨g, c, rfl, HO.out, HX.out⟩
set_option maxRecDepth 8000 in
set_option maxHeartbeats 1000000 in
theorem eget {w : World} {v : Value} {l : List UInt8} (h : BytesIn w v l) (h1 : 1 ≤ l.length) (h8 : l.length ≤ 8) :
    Calls Tryz.prog 100 #[v] w fun e w' => e = .returned (.int .u64 (getFold l l.length)) ∧ w' = w := by
  rcases h with ⟨rfl, rfl⟩ | ⟨b, off, cap, rfl, h⟩
  · exact absurd h1 (by decide)
  have H := Lib.hid h
  clear h
  go_enter Tryz.func100, Tryz.ntmps100
  go_wp2
  go_loopw [3, 7] (fun x i wr => ∃ k : Nat, k ≤ l.length ∧ i = .int .i64 k ∧ x = .int .u64 (getFold l k) ∧ wr = w) (fun _ i _ => l.length - (intOf i).toNat)
  case atStart => exact ⟨0, Nat.zero_le _, rfl, rfl, rfl⟩
  case round =>
    obtain ⟨k, hk, rfl, rfl, rfl⟩ := hrel
    by_cases hlt : k < l.length
    · have d0 := H.out k _ (List.getElem?_eq_getElem hlt)
      have HS := Lib.hid (show getFold l (k + 1) = getStep l (getFold l k) k from rfl)
      have HL := Lib.hid (show l.getD k 0 = l[k] by rw [List.getD_eq_getElem?_getD, List.getElem?_eq_getElem hlt]; rfl)
      generalize getFold l k = x at *
      generalize l[k] = c at *
      go_wp2
      go_roundw
      case rel => exact ⟨k + 1, by omega, by go_num, by rw [HS.out, getStep, HL.out], trivial⟩
      case measure => simp [intOf]; omega
    · have hkl : k = l.length := by omega
      subst hkl
      go_wp2
      go_ret
      exact ⟨rfl, rfl⟩
end Go.Proofs.YthhcooljjhdjbaaGreat
