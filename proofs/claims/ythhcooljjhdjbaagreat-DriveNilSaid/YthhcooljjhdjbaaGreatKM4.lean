/- The plain model of a disk: geometry, sectors, cache, power, faults. No program in sight. The plain model of an entry's encoding. No program in sight. The plain model of bands: accounting, wear. No program in sight. The plain model of a drive. No program in sight. -/
import Derived.RowKit
import Derived.WalkKit
import Derived.WalkSpells
set_option linter.unusedVariables false
set_option linter.unusedSimpArgs false
namespace Go.Proofs.YthhcooljjhdjbaaGreat
open Go.RowKit (wrap64)

structure Geo where
  random : Nat
  bands : Nat
  tracks : Nat
  sectors : Nat
  overlap : Nat
  deriving DecidableEq

namespace Geo
def band (g : Geo) : Nat := g.tracks * g.sectors
def size (g : Geo) : Nat := g.random + g.bands * g.band
/-- A valid geometry of at most 120 sectors. -/
structure Ok (g : Geo) : Prop where
  bands1 : 1 ≤ g.bands
  bands : g.bands ≤ 64
  tracks1 : 1 ≤ g.tracks
  tracks : g.tracks ≤ 16
  sectors1 : 1 ≤ g.sectors
  sectors : g.sectors ≤ 64
  overlap : g.overlap ≤ 3
  size_le : g.size ≤ 120
theorem Ok.band1 {g : Geo} (h : g.Ok) : 1 ≤ g.band := Nat.mul_le_mul h.tracks1 h.sectors1
theorem Ok.bb_le {g : Geo} (h : g.Ok) : g.bands * g.band ≤ 120 := by have := h.size_le; unfold size at this; omega
theorem Ok.random {g : Geo} (h : g.Ok) : g.random ≤ 120 := by have := h.size_le; unfold size at this; omega
theorem Ok.band_le {g : Geo} (h : g.Ok) : g.band ≤ 120 := Nat.le_trans (Nat.le_mul_of_pos_left _ h.bands1) h.bb_le
/-- How many sectors behind address a a write there destroys. -/
def shades (g : Geo) (a : Nat) : Nat :=
  if g.random ≤ a ∧ a < g.size then min g.overlap (g.tracks - 1 - (a - g.random) / g.sectors % g.tracks) else 0
def shadow (g : Geo) (a : Nat) : List Nat := (List.range (g.shades a)).map fun i => a + (i + 1) * g.sectors
def first (g : Geo) (k : Nat) : Nat := g.random + k * g.band
end Geo

/-- A sector: blank, destroyed, or written. -/
inductive Sec where
  | blank
  | dead
  | data (b : List UInt8)
  deriving DecidableEq
def Sec.state : Sec → Int
  | .blank => 0
  | .data _ => 1
  | .dead => 2

structure Flt where
  place : Int
  kind : Int
  to : Int
  deriving DecidableEq

def writeSec (g : Geo) (l : List Sec) (a : Nat) (b : List UInt8) : List Sec :=
  (g.shadow a).foldl (fun l s => l.set s .dead) (l.set a (.data b))
def blanks (from_ n : Nat) (l : List Sec) : List Sec := (List.range n).foldl (fun l i => l.set (from_ + i) .blank) l
def eraseBand (g : Geo) (l : List Sec) (k : Nat) : List Sec := blanks (g.first k) g.band l

inductive POp where
  | write (a : Nat) (b : List UInt8)
  | erase (k : Nat)
  deriving DecidableEq
def POp.run (g : Geo) (l : List Sec) : POp → List Sec
  | .write a b => writeSec g l a b
  | .erase k => eraseBand g l k
def runOps (g : Geo) (l : List Sec) (ps : List POp) : List Sec := ps.foldl (POp.run g) l

structure Pow where
  off : Bool
  armed : Bool
  left : Int
  fails : Int
  deriving DecidableEq
def Pow.new : Pow := ⟨false, false, 0, 0⟩
def Pow.arm (p : Pow) (n : Int) : Pow := if p.off then p else { p with armed := decide (0 ≤ n), left := n }
def Pow.call (p : Pow) : Pow :=
  let p := if p.armed && p.left == 0 then { p with off := true, armed := false, fails := wrap64 (p.fails + 1) } else p
  { p with left := wrap64 (p.left - 1) }

structure Dsk where
  reads : Int
  writes : Int
  erases : Int
  flushes : Int
  ops : Int
  geo : Geo
  durable : List Sec
  contents : List Sec
  pending : List POp
  faults : List Flt
  pow : Pow
  seen : Int
  key : Int
  dead : Bool
  deriving DecidableEq

def faultAt (l : List Flt) (op : Int) : Flt := (l.find? (fun f => f.place == op)).getD ⟨0, 0, 0⟩

namespace Dsk
def state (d : Dsk) : Int := if d.dead then 14 else if d.pow.off || d.seen != d.pow.fails then 13 else 0
/-- A disk's operation: 'x' is the answer where the work is not done. -/
def perform {α : Type} (d : Dsk) (key : Int) (x : α) (work : Dsk → Flt → Dsk × α × Int) : Dsk × α × Int :=
  if d.state ≠ 0 then (d, x, d.state) else
  let d1 := { d with pow := d.pow.call }
  if d1.pow.off then (d1, x, 13) else
  if key ≠ d1.key then (d1, x, 17) else
  let f := faultAt d1.faults d1.ops
  let d2 := { d1 with ops := wrap64 (d1.ops + 1) }
  if f.kind = 7 then ({ d2 with dead := true }, x, 14) else
  if f.kind = 6 then (d2, x, 16) else work d2 f
def has (d : Dsk) (a : Int) : Bool := decide (0 ≤ a) && decide (a < d.geo.size)
def sec (d : Dsk) (a : Int) : Sec := d.contents.getD a.toNat .blank
def readWork (a : Int) (d : Dsk) (f : Flt) : Dsk × Option (List UInt8) × Int :=
  if !d.has a then (d, none, 2) else
  if f.kind = 4 then (d, none, 15) else
  let from_ := if f.kind = 5 then f.to else a
  if d.has from_ then
    match d.sec from_ with
    | .data b => ({ d with reads := wrap64 (d.reads + 1) }, some b, 0)
    | _ => (d, none, 15)
  else (d, none, 15)
def read (d : Dsk) (key a : Int) : Dsk × Option (List UInt8) × Int := d.perform key none (readWork a)
def put (d : Dsk) (a : Int) (b : List UInt8) : Dsk :=
  if d.has a then { d with contents := writeSec d.geo d.contents a.toNat b, pending := d.pending ++ [.write a.toNat b] } else d
def writeWork (a : Int) (b : List UInt8) (d : Dsk) (f : Flt) : Dsk × Unit × Int :=
  if !d.has a then (d, (), 2) else
  if 64 < b.length then (d, (), 7) else
  let to := if f.kind = 3 then f.to else a
  let bytes := if f.kind = 2 then b.take (b.length / 2) else b
  let d := if f.kind ≠ 1 then d.put to bytes else d
  ({ d with writes := wrap64 (d.writes + 1) }, (), 0)
def write (d : Dsk) (key a : Int) (b : List UInt8) : Dsk × Unit × Int := d.perform key () (writeWork a b)
def eraseWork (k : Int) (d : Dsk) (_ : Flt) : Dsk × Unit × Int :=
  if 0 ≤ k ∧ k < d.geo.bands then
    ({ d with contents := eraseBand d.geo d.contents k.toNat, pending := d.pending ++ [.erase k.toNat], erases := wrap64 (d.erases + 1) }, (), 0)
  else (d, (), 2)
def erase (d : Dsk) (key k : Int) : Dsk × Unit × Int := d.perform key () (eraseWork k)
/-- Some pending operations take effect, the others are lost. -/
def cut (d : Dsk) (keep : Int) : Dsk :=
  let du := runOps d.geo d.durable (d.pending.take (min (max keep 0) d.pending.length).toNat)
  { d with durable := du, pending := [], contents := if keep < d.pending.length then du else d.contents }
def flushWork (d : Dsk) (_ : Flt) : Dsk × Unit × Int :=
  let d := d.cut d.pending.length
  ({ d with flushes := wrap64 (d.flushes + 1) }, (), 0)
def flush (d : Dsk) (key : Int) : Dsk × Unit × Int := d.perform key () flushWork
def restart (d : Dsk) (keep : Int) : Dsk × Int :=
  if d.dead then (d, 14) else
  if !d.pow.off then (d, 8) else
  ({ d.cut keep with seen := d.pow.fails }, 0)
def acquire (d : Dsk) (key : Int) : Dsk × Int := if d.state ≠ 0 then (d, d.state) else ({ d with key := key }, 0)
def new (g : Geo) (faults : List Flt) (p : Pow) : Dsk :=
  { reads := 0, writes := 0, erases := 0, flushes := 0, ops := 0, geo := g, durable := List.replicate g.size .blank, contents := List.replicate g.size .blank,
    pending := [], faults := faults, pow := p, seen := p.fails, key := 0, dead := false }
end Dsk
end Go.Proofs.YthhcooljjhdjbaaGreat
namespace Go.Proofs.YthhcooljjhdjbaaGreat
open Go.RowKit

def crcStep (x : Int) : Int := if (bits .and .u64 x 1 == 1) = true then bits .xor .u64 (x / 2) 14514072000185962306 else x / 2
def crcIter : Nat → Int → Int
  | 0, x => x
  | n + 1, x => crcStep (crcIter n x)
def crcUpd (x : Int) (b : UInt8) : Int := crcIter 8 (bits .xor .u64 x (IntKind.u64.wrap (b.toNat : Int)))
def crcNot (x : Int) : Int := bits .xor .u64 IntKind.u64.max x
def crcUpdate (s : Int) (bs : List UInt8) : Int := crcNot (bs.foldl crcUpd (crcNot s))
def crcSum (bs : List UInt8) : Int := crcUpdate 0 bs
theorem bits_u64_range (op : BinOp) (h : op = .xor ∨ op = .or ∨ op = .and) (a b : Int) : 0 ≤ bits op .u64 a b ∧ bits op .u64 a b < 18446744073709551616 := by
  have hw : ∀ n : Int, 0 ≤ IntKind.u64.wrap n ∧ IntKind.u64.wrap n < 18446744073709551616 := by
    intro n; rw [IntKind.wrap_u64]; omega
  rcases h with rfl | rfl | rfl <;> exact hw _
theorem crcSum_range (bs : List UInt8) : 0 ≤ crcSum bs ∧ crcSum bs < 18446744073709551616 := bits_u64_range _ (.inl rfl) _ _

def leByte (x : Int) (i : Nat) : UInt8 := UInt8.ofNat (x / 2 ^ (8 * i) % 256).toNat
def leBytes (n : Nat) (x : Int) : List UInt8 := (List.range n).map (leByte x)
theorem leBytes_succ (n : Nat) (x : Int) : leBytes (n + 1) x = leBytes n x ++ [leByte x n] := by
  unfold leBytes; rw [List.range_succ, List.map_append]; rfl
theorem length_leBytes (n : Nat) (x : Int) : (leBytes n x).length = n := by simp [leBytes]
theorem leByte_mod (x : Int) (i : Nat) : x / 2 ^ (8 * i) % 256 = ((leByte x i).toNat : Int) := by
  rw [leByte, UInt8.toNat_ofNat']
  have h0 : 0 ≤ x / 2 ^ (8 * i) % 256 := Int.emod_nonneg _ (by decide)
  have h1 : x / 2 ^ (8 * i) % 256 < 256 := Int.emod_lt_of_pos _ (by decide)
  omega
def getStep (l : List UInt8) (acc : Int) (k : Nat) : Int := bits .or .u64 acc (IntKind.u64.wrap (IntKind.u64.wrap ((l.getD k 0).toNat : Int) * 2 ^ (8 * k)))
def getFold (l : List UInt8) : Nat → Int
  | 0 => 0
  | k + 1 => getStep l (getFold l k) k
theorem or_shift (a b k : Nat) (ha : a < 2 ^ (8 * k)) (hb : b < 256) (hk : k < 8) :
    bits .or .u64 (a : Int) (IntKind.u64.wrap (IntKind.u64.wrap (b : Int) * 2 ^ (8 * k))) = ((a + b * 2 ^ (8 * k) : Nat) : Int) := by
  have hp : 2 ^ (8 * k) * 256 ≤ 18446744073709551616 := by
    have : 2 ^ (8 * k) * 2 ^ 8 ≤ 2 ^ 64 := by rw [← Nat.pow_add]; exact Nat.pow_le_pow_right (by decide) (by omega)
    simpa using this
  have hb1 : b * 2 ^ (8 * k) < 18446744073709551616 := by
    have : b * 2 ^ (8 * k) ≤ 255 * 2 ^ (8 * k) := Nat.mul_le_mul_right _ (by omega)
    have h0 := Nat.two_pow_pos (8 * k)
    omega
  have e1 : IntKind.u64.wrap (b : Int) = b := by rw [IntKind.wrap_u64]; omega
  have e2 : ((b : Int) * 2 ^ (8 * k)) = ((b * 2 ^ (8 * k) : Nat) : Int) := by simp
  have e3 : IntKind.u64.wrap ((b * 2 ^ (8 * k) : Nat) : Int) = ((b * 2 ^ (8 * k) : Nat) : Int) := by rw [IntKind.wrap_u64]; omega
  have ha1 : a < 18446744073709551616 := by
    have h0 := Nat.two_pow_pos (8 * k)
    omega
  rw [e1, e2, e3, bits_or_u64_nat _ _ ha1 hb1, Nat.or_comm, Nat.mul_comm b, ← Nat.two_pow_add_eq_or_of_lt ha, Nat.add_comm]
theorem getFold_le (n : Nat) (x : Nat) (hn : n ≤ 8) : ∀ k, k ≤ n → getFold (leBytes n (x : Int)) k = ((x % 2 ^ (8 * k) : Nat) : Int)
  | 0, _ => by simp [getFold, Nat.mod_one]
  | k + 1, hk => by
    have ih := getFold_le n x hn k (by omega)
    have hp := Nat.two_pow_pos (8 * k)
    have hd : ((leBytes n (x : Int)).getD k 0).toNat = x / 2 ^ (8 * k) % 256 := by
      have h1 : (leBytes n (x : Int))[k]? = some (leByte x k) := by
        unfold leBytes; rw [List.getElem?_map, List.getElem?_range (by omega)]; rfl
      rw [List.getD_eq_getElem?_getD, h1, Option.getD_some]
      have := leByte_mod (x : Int) k
      have e : ((x : Int) / 2 ^ (8 * k) % 256) = ((x / 2 ^ (8 * k) % 256 : Nat) : Int) := by simp
      rw [e] at this
      exact (Int.ofNat.inj this).symm
    show getStep _ _ _ = _
    unfold getStep
    rw [ih, hd, or_shift _ _ _ (Nat.mod_lt _ hp) (Nat.mod_lt _ (by decide)) (by omega)]
    congr 1
    have e : 2 ^ (8 * (k + 1)) = 2 ^ (8 * k) * 256 := by rw [show 8 * (k + 1) = 8 * k + 8 by omega, Nat.pow_add]
    rw [e, Nat.mod_mul, Nat.mul_comm (2 ^ (8 * k))]
theorem getFold_leBytes (n : Nat) (x : Int) (hn : n ≤ 8) (h0 : 0 ≤ x) (h1 : x < 2 ^ (8 * n)) : getFold (leBytes n x) n = x := by
  obtain ⟨y, rfl⟩ := Int.eq_ofNat_of_zero_le h0
  rw [getFold_le n y hn n (Nat.le_refl _), Nat.mod_eq_of_lt]
  have e : ((2 : Int) ^ (8 * n)) = ((2 ^ (8 * n) : Nat) : Int) := by simp
  rw [e] at h1
  exact Int.ofNat_lt.1 h1

structure Ent where
  kind : Int
  block : Int
  version : Int
  data : List UInt8
  deriving DecidableEq
def zero8 : List UInt8 := [0, 0, 0, 0, 0, 0, 0, 0]
structure Ent.Ok (e : Ent) : Prop where
  b0 : 0 ≤ e.block
  b1 : e.block < 65536
  v0 : 1 ≤ e.version
  v1 : e.version < 18446744073709551616
  len : e.data.length = 8
  kind : e.kind = 1 ∨ (e.kind = 2 ∧ e.data = zero8)
def plainOf (e : Ent) (t : Int) : List UInt8 := leBytes 1 e.kind ++ leBytes 4 e.block ++ leBytes 8 e.version ++ e.data ++ leBytes 8 t
def encode (e : Ent) (t : Int) : List UInt8 := plainOf e t ++ leBytes 8 (crcSum (plainOf e t))
theorem app_drop (a b : List UInt8) (n : Nat) (h : a.length = n) : (a ++ b).drop n = b := by subst h; simp
theorem app_take (a b : List UInt8) (n : Nat) (h : a.length = n) : (a ++ b).take n = a := by subst h; simp
theorem sub_app (a b c : List UInt8) (n m : Nat) (ha : a.length = n) (hb : b.length = m) : ((a ++ b ++ c).drop n).take m = b := by
  subst ha hb; simp
/-- The parts of an encoding. -/
structure EncParts (out : List UInt8) (e : Ent) (t : Int) : Prop where
  len : out.length = 37
  sum : getFold ((out.drop 29).take 8) 8 = crcSum (out.take 29)
  kind : ((out.getD 0 0).toNat : Int) = e.kind
  block : getFold ((out.drop 1).take 4) 4 = e.block
  version : getFold ((out.drop 5).take 8) 8 = e.version
  data : (out.drop 13).take 8 = e.data
  time : getFold ((out.drop 21).take 8) 8 = t
theorem encParts (e : Ent) (h : e.Ok) (t : Int) (t0 : 0 ≤ t) (t1 : t < 18446744073709551616) : EncParts (encode e t) e t := by
  have l := h.len
  have hp : (plainOf e t).length = 29 := by simp [plainOf, length_leBytes, l]
  have hk : 0 ≤ e.kind ∧ e.kind < 256 := by have := h.kind; omega
  refine ⟨by simp [encode, hp, length_leBytes], ?_, ?_, ?_, ?_, ?_, ?_⟩
  · have h1 : (encode e t).take 29 = plainOf e t := app_take _ _ _ hp
    have h2 : ((encode e t).drop 29).take 8 = leBytes 8 (crcSum (plainOf e t)) := by
      rw [encode, app_drop _ _ _ hp, List.take_of_length_le (by simp [length_leBytes])]
    rw [h1, h2]
    exact getFold_leBytes 8 _ (by decide) (crcSum_range _).1 (crcSum_range _).2
  · have h1 : (encode e t).getD 0 0 = leByte e.kind 0 := by simp [encode, plainOf, leBytes, List.range_succ]
    rw [h1, ← leByte_mod]
    simp only [Nat.mul_zero, Int.pow_zero, Int.ediv_one]
    omega
  · have h1 : ((encode e t).drop 1).take 4 = leBytes 4 e.block := by
      have : encode e t = leBytes 1 e.kind ++ leBytes 4 e.block ++ (leBytes 8 e.version ++ e.data ++ leBytes 8 t ++ leBytes 8 (crcSum (plainOf e t))) := by simp [encode, plainOf]
      rw [this]; exact sub_app _ _ _ _ _ (length_leBytes _ _) (length_leBytes _ _)
    rw [h1]; exact getFold_leBytes 4 _ (by decide) h.b0 (by have := h.b1; omega)
  · have h1 : ((encode e t).drop 5).take 8 = leBytes 8 e.version := by
      have : encode e t = (leBytes 1 e.kind ++ leBytes 4 e.block) ++ leBytes 8 e.version ++ (e.data ++ leBytes 8 t ++ leBytes 8 (crcSum (plainOf e t))) := by simp [encode, plainOf]
      rw [this]; exact sub_app _ _ _ _ _ (by simp [length_leBytes]) (length_leBytes _ _)
    rw [h1]; exact getFold_leBytes 8 _ (by decide) (by have := h.v0; omega) h.v1
  · have : encode e t = (leBytes 1 e.kind ++ leBytes 4 e.block ++ leBytes 8 e.version) ++ e.data ++ (leBytes 8 t ++ leBytes 8 (crcSum (plainOf e t))) := by simp [encode, plainOf]
    rw [this]; exact sub_app _ _ _ _ _ (by simp [length_leBytes]) l
  · have h1 : ((encode e t).drop 21).take 8 = leBytes 8 t := by
      have : encode e t = (leBytes 1 e.kind ++ leBytes 4 e.block ++ leBytes 8 e.version ++ e.data) ++ leBytes 8 t ++ leBytes 8 (crcSum (plainOf e t)) := by simp [encode, plainOf]
      rw [this]; exact sub_app _ _ _ _ _ (by simp [length_leBytes, l]) (length_leBytes _ _)
    rw [h1]; exact getFold_leBytes 8 _ (by decide) t0 t1
end Go.Proofs.YthhcooljjhdjbaaGreat
namespace Go.Proofs.YthhcooljjhdjbaaGreat
open Go.RowKit (wrap64)

structure Band where
  used : Int
  live : Int
  age : Int
  wear : Int
  deriving DecidableEq
def Band.zero : Band := ⟨0, 0, 0, 0⟩
/-- A valid list of bands. -/
structure BandsOk (l : List Band) (size : Int) : Prop where
  one : 1 ≤ l.length
  most : l.length ≤ 64
  size1 : 1 ≤ size
  ok : ∀ b ∈ l, 0 ≤ b.live ∧ b.live ≤ b.used ∧ b.used ≤ size
def freeUpto (l : List Band) : Nat → Int
  | 0 => 0
  | k + 1 => if (l.getD k .zero).used == 0 then freeUpto l k + 1 else freeUpto l k
def freeN (l : List Band) : Int := freeUpto l l.length
def openUpto (l : List Band) (size : Int) : Nat → Int
  | 0 => -1
  | k + 1 =>
    if 0 < (l.getD k .zero).used ∧ (l.getD k .zero).used < size ∧ (openUpto l size k < 0 ∨ (l.getD (openUpto l size k).toNat .zero).age < (l.getD k .zero).age) then (k : Int) else openUpto l size k
def openBand (l : List Band) (size : Int) : Int := openUpto l size l.length
def leastUpto (l : List Band) : Nat → Int
  | 0 => -1
  | k + 1 =>
    if (l.getD k .zero).used = 0 ∧ (leastUpto l k < 0 ∨ (l.getD k .zero).wear < (l.getD (leastUpto l k).toNat .zero).wear) then (k : Int) else leastUpto l k
def least (l : List Band) : Int := leastUpto l l.length
theorem freeUpto_range (l : List Band) : ∀ k, 0 ≤ freeUpto l k ∧ freeUpto l k ≤ k
  | 0 => by simp [freeUpto]
  | k + 1 => by have := freeUpto_range l k; unfold freeUpto; split <;> omega
theorem openUpto_range (l : List Band) (s : Int) : ∀ k, -1 ≤ openUpto l s k ∧ openUpto l s k < k
  | 0 => by simp [openUpto]
  | k + 1 => by have := openUpto_range l s k; unfold openUpto; split <;> omega
theorem leastUpto_range (l : List Band) : ∀ k, -1 ≤ leastUpto l k ∧ leastUpto l k < k
  | 0 => by simp [leastUpto]
  | k + 1 => by have := leastUpto_range l k; unfold leastUpto; split <;> omega
end Go.Proofs.YthhcooljjhdjbaaGreat
namespace Go.Proofs.YthhcooljjhdjbaaGreat
open Go.RowKit (wrap64)

/-- An operation is repeated as long as its error is 'busy' (16). -/
def retryCont {σ : Type} (step : σ → σ × Int) : Nat → σ × Int → σ × Int
  | 0, r => r
  | n + 1, r => if r.2 = 16 then retryCont step n (step r.1) else r
def retryRun {σ : Type} (step : σ → σ × Int) (s : σ) : σ × Int := retryCont step 8 (step s)

structure Nw where
  kind : Int
  version : Int
  address : Int
  deriving DecidableEq
def Nw.none : Nw := ⟨0, 0, -1⟩
structure Drv where
  key : Int
  entries : List Nw
  bands : List Band
  time : Int
  failed : Int
  deriving DecidableEq
end Go.Proofs.YthhcooljjhdjbaaGreat
