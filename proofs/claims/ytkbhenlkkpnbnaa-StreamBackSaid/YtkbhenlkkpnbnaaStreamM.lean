/- The stream's numbers, as plain functions: words of bytes, the rounds, a block, and bytes with the stream. -/
import Derived.Test.YtkbhenlkkpnbnaaMem
namespace Go.Proofs.Ytkbhenlkkpnbnaa
open Go.RowKit
namespace Strm

def rotl (x : BitVec 32) (s : Nat) : BitVec 32 := x <<< s ||| x >>> (32 - s)
def word4 (b0 b1 b2 b3 : BitVec 8) : BitVec 32 := b0.setWidth 32 ||| b1.setWidth 32 <<< 8 ||| b2.setWidth 32 <<< 16 ||| b3.setWidth 32 <<< 24
def wordAt (bs : List (BitVec 8)) (i : Nat) : BitVec 32 := word4 (gat bs i) (gat bs (i + 1)) (gat bs (i + 2)) (gat bs (i + 3))
def quarter (S : Nat → BitVec 32) (a b c d : Nat) : Nat → BitVec 32 :=
  let S := put1 S a (S a + S b)
  let S := put1 S d (rotl (S d ^^^ S a) 16)
  let S := put1 S c (S c + S d)
  let S := put1 S b (rotl (S b ^^^ S c) 12)
  let S := put1 S a (S a + S b)
  let S := put1 S d (rotl (S d ^^^ S a) 8)
  let S := put1 S c (S c + S d)
  put1 S b (rotl (S b ^^^ S c) 7)
def sigma (i : Nat) : BitVec 32 := match i with | 0 => 0x61707865 | 1 => 0x3320646e | 2 => 0x79622d32 | 3 => 0x6b206574 | _ => 0
def init1 (key : List (BitVec 8)) (k : Nat) : Nat → BitVec 32 := fun j => if j < 4 then sigma j else if j < 4 + k then wordAt key (4 * (j - 4)) else 0
def init2 (key : List (BitVec 8)) (ctr : BitVec 32) (nonce : List (BitVec 8)) (k : Nat) : Nat → BitVec 32 :=
  fun j => if j = 12 then ctr else if 13 ≤ j ∧ j < 13 + k then wordAt nonce (4 * (j - 13)) else init1 key 8 j
def steps {α : Type} (f : α → Nat → α) (S : α) : Nat → α
  | 0 => S
  | k + 1 => f (steps f S k) k
def half1 (S : Nat → BitVec 32) (i : Nat) := quarter S i (4 + i) (8 + i) (12 + i)
def half2 (S : Nat → BitVec 32) (i : Nat) := quarter S i (4 + (i + 1) % 4) (8 + (i + 2) % 4) (12 + (i + 3) % 4)
def dround (S : Nat → BitVec 32) (_ : Nat) : Nat → BitVec 32 := steps half2 (steps half1 S 4) 4
def bytes4 (x : BitVec 32) : List (BitVec 8) := [x.setWidth 8, (x >>> 8).setWidth 8, (x >>> 16).setWidth 8, (x >>> 24).setWidth 8]
def outs (R S : Nat → BitVec 32) : Nat → List (BitVec 8)
  | 0 => []
  | k + 1 => outs R S k ++ bytes4 (R k + S k)
def start (key : List (BitVec 8)) (ctr : BitVec 32) (nonce : List (BitVec 8)) := init2 key ctr nonce 3
def block (key : List (BitVec 8)) (ctr : BitVec 32) (nonce : List (BitVec 8)) : List (BitVec 8) :=
  outs (steps dround (start key ctr nonce) 10) (start key ctr nonce) 16
theorem outs_length (R S : Nat → BitVec 32) (k : Nat) : (outs R S k).length = 4 * k := by
  induction k with
  | zero => rfl
  | succ k ih => simp [outs, ih, bytes4]; omega
theorem block_length (key : List (BitVec 8)) (ctr : BitVec 32) (nonce : List (BitVec 8)) : (block key ctr nonce).length = 64 := outs_length _ _ 16

def key1 (key : List (BitVec 8)) (ctr : BitVec 32) (nonce : List (BitVec 8)) (i : Nat) : BitVec 8 := gat (block key (ctr + BitVec.ofNat 32 (i / 64)) nonce) (i % 64)
def xorTo (key : List (BitVec 8)) (ctr : BitVec 32) (nonce b : List (BitVec 8)) (j : Nat) : List (BitVec 8) := (List.range b.length).map fun i => if i < j then gat b i ^^^ key1 key ctr nonce i else 0
def xors (key : List (BitVec 8)) (ctr : BitVec 32) (nonce b : List (BitVec 8)) : List (BitVec 8) := xorTo key ctr nonce b b.length
theorem xorTo_length (key : List (BitVec 8)) (ctr : BitVec 32) (nonce b : List (BitVec 8)) (j : Nat) : (xorTo key ctr nonce b j).length = b.length := by simp [xorTo]
theorem xors_length (key : List (BitVec 8)) (ctr : BitVec 32) (nonce b : List (BitVec 8)) : (xors key ctr nonce b).length = b.length := xorTo_length ..
theorem gat_xors {key : List (BitVec 8)} {ctr : BitVec 32} {nonce b : List (BitVec 8)} {i : Nat} (h : i < b.length) : gat (xors key ctr nonce b) i = gat b i ^^^ key1 key ctr nonce i := by
  simp [gat, xors, xorTo, h]
theorem xorTo_zero (key : List (BitVec 8)) (ctr : BitVec 32) (nonce b : List (BitVec 8)) : xorTo key ctr nonce b 0 = List.replicate b.length 0 := by
  apply List.ext_getElem?; intro i
  simp [xorTo, List.getElem?_replicate]
  by_cases h : i < b.length <;> simp [h]
theorem xorTo_step (key : List (BitVec 8)) (ctr : BitVec 32) (nonce b : List (BitVec 8)) (m i : Nat) (h1 : 64 * m ≤ i) (h2 : i < 64 * m + 64) (hi : i < b.length) :
    (xorTo key ctr nonce b i).set i (gat b i ^^^ gat (block key (ctr + BitVec.ofNat 32 m) nonce) (i - 64 * m)) = xorTo key ctr nonce b (i + 1) := by
  have e1 : i / 64 = m := by omega
  have e2 : i % 64 = i - 64 * m := by omega
  apply List.ext_getElem?; intro j
  rw [List.getElem?_set]
  by_cases hj : i = j
  · subst hj
    simp [xorTo, hi, key1, e1, e2]
  · rw [if_neg hj]
    simp only [xorTo, List.getElem?_map]
    by_cases hjl : j < b.length
    · simp only [List.getElem?_range hjl, Option.map_some]
      by_cases h3 : j < i
      · rw [if_pos h3, if_pos (by omega)]
      · rw [if_neg h3, if_neg (by omega)]
    · rw [List.getElem?_eq_none (by simp; omega)]
      rfl
theorem xorTo_full (key : List (BitVec 8)) (ctr : BitVec 32) (nonce b : List (BitVec 8)) (j : Nat) (h : b.length ≤ j) : xorTo key ctr nonce b j = xors key ctr nonce b := by
  apply List.map_congr_left
  intro i hi
  have := List.mem_range.1 hi
  rw [if_pos (by omega), if_pos (by omega)]
theorem quarter_ge (S : Nat → BitVec 32) (a b c d j : Nat) (ha : j ≠ a) (hb : j ≠ b) (hc : j ≠ c) (hd : j ≠ d) : quarter S a b c d j = S j := by
  simp [quarter, put1, ha, hb, hc, hd]
theorem init1_zero (key : List (BitVec 8)) (i : Nat) (h : i < 16) : (#[Value.int .u32 1634760805, .int .u32 857760878, .int .u32 2036477234, .int .u32 1797285236, .int .u32 0, .int .u32 0, .int .u32 0, .int .u32 0, .int .u32 0, .int .u32 0, .int .u32 0, .int .u32 0, .int .u32 0, .int .u32 0, .int .u32 0, .int .u32 0] : Array Value)[i]? = some (by32 (init1 key 0 i)) := by
  match i, h with
  | 0, _ | 1, _ | 2, _ | 3, _ | 4, _ | 5, _ | 6, _ | 7, _ | 8, _ | 9, _ | 10, _ | 11, _ | 12, _ | 13, _ | 14, _ | 15, _ => rfl
  | n + 16, h => exact absurd h (by omega)
theorem init1_step (key : List (BitVec 8)) (k j : Nat) : put1 (init1 key k) (4 + k) (wordAt key (4 * k)) j = init1 key (k + 1) j := by
  unfold put1 init1
  by_cases h : j = 4 + k
  · subst h
    rw [if_pos rfl, if_neg (by omega), if_pos (by omega)]
    congr 1; omega
  · rw [if_neg h]
    by_cases h4 : j < 4
    · rw [if_pos h4, if_pos h4]
    · rw [if_neg h4, if_neg h4]
      by_cases h5 : j < 4 + k
      · rw [if_pos h5, if_pos (by omega)]
      · rw [if_neg h5, if_neg (by omega)]
theorem init2_zero (key : List (BitVec 8)) (ctr : BitVec 32) (nonce : List (BitVec 8)) (j : Nat) : put1 (init1 key 8) 12 ctr j = init2 key ctr nonce 0 j := by
  unfold put1 init2
  by_cases h : j = 12
  · rw [if_pos h, if_pos h]
  · rw [if_neg h, if_neg h, if_neg (by omega)]
theorem init2_step (key : List (BitVec 8)) (ctr : BitVec 32) (nonce : List (BitVec 8)) (k j : Nat) : put1 (init2 key ctr nonce k) (13 + k) (wordAt nonce (4 * k)) j = init2 key ctr nonce (k + 1) j := by
  unfold put1 init2
  by_cases h : j = 13 + k
  · subst h
    rw [if_pos rfl, if_neg (by omega), if_pos (by omega)]
    congr 1; omega
  · rw [if_neg h]
    by_cases h4 : j = 12
    · rw [if_pos h4, if_pos h4]
    · rw [if_neg h4, if_neg h4]
      by_cases h5 : 13 ≤ j ∧ j < 13 + k
      · rw [if_pos h5, if_pos (by omega)]
      · rw [if_neg h5, if_neg (by omega)]
end Strm
end Go.Proofs.Ytkbhenlkkpnbnaa
