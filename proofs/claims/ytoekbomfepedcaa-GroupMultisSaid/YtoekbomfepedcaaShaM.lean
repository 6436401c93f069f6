/- The sum's numbers, as plain functions. -/
import Derived.Test.YtoekbomfepedcaaBase
namespace Go.Proofs.Ytoekbomfepedcaa
set_option linter.unusedSimpArgs false
set_option linter.unusedVariables false
open Go.RowKit
namespace Sha

def steps {α : Type} (f : α → Nat → α) (S : α) : Nat → α
  | 0 => S
  | k + 1 => f (steps f S k) k
def rotr (x : BitVec 32) (n : Nat) : BitVec 32 := x >>> n ||| x <<< (32 - n)
def s0 (x : BitVec 32) : BitVec 32 := rotr x 7 ^^^ rotr x 18 ^^^ x >>> 3
def s1 (x : BitVec 32) : BitVec 32 := rotr x 17 ^^^ rotr x 19 ^^^ x >>> 10
def S0 (x : BitVec 32) : BitVec 32 := rotr x 2 ^^^ rotr x 13 ^^^ rotr x 22
def S1 (x : BitVec 32) : BitVec 32 := rotr x 6 ^^^ rotr x 11 ^^^ rotr x 25
def ch (e f g : BitVec 32) : BitVec 32 := (e &&& f) ^^^ (~~~e &&& g)
def maj (a b c : BitVec 32) : BitVec 32 := (a &&& b) ^^^ (a &&& c) ^^^ (b &&& c)
def be (m : Nat → BitVec 8) (i : Nat) : BitVec 32 := (m (4 * i)).setWidth 32 <<< 24 ||| (m (4 * i + 1)).setWidth 32 <<< 16 ||| (m (4 * i + 2)).setWidth 32 <<< 8 ||| (m (4 * i + 3)).setWidth 32
def w0 (m : Nat → BitVec 8) (k : Nat) : Nat → BitVec 32 := fun j => if j < k then be m j else 0
def sstep (w : Nat → BitVec 32) (k : Nat) : Nat → BitVec 32 := put1 w (16 + k) (w k + w (9 + k) + s0 (w (1 + k)) + s1 (w (14 + k)))
def sched (m : Nat → BitVec 8) : Nat → BitVec 32 := steps sstep (w0 m 16) 48
def K : List (BitVec 32) := [
  0x428a2f98, 0x71374491, 0xb5c0fbcf, 0xe9b5dba5, 0x3956c25b, 0x59f111f1, 0x923f82a4, 0xab1c5ed5, 0xd807aa98, 0x12835b01, 0x243185be, 0x550c7dc3, 0x72be5d74, 0x80deb1fe, 0x9bdc06a7, 0xc19bf174,
  0xe49b69c1, 0xefbe4786, 0x0fc19dc6, 0x240ca1cc, 0x2de92c6f, 0x4a7484aa, 0x5cb0a9dc, 0x76f988da, 0x983e5152, 0xa831c66d, 0xb00327c8, 0xbf597fc7, 0xc6e00bf3, 0xd5a79147, 0x06ca6351, 0x14292967,
  0x27b70a85, 0x2e1b2138, 0x4d2c6dfc, 0x53380d13, 0x650a7354, 0x766a0abb, 0x81c2c92e, 0x92722c85, 0xa2bfe8a1, 0xa81a664b, 0xc24b8b70, 0xc76c51a3, 0xd192e819, 0xd6990624, 0xf40e3585, 0x106aa070,
  0x19a4c116, 0x1e376c08, 0x2748774c, 0x34b0bcb5, 0x391c0cb3, 0x4ed8aa4a, 0x5b9cca4f, 0x682e6ff3, 0x748f82ee, 0x78a5636f, 0x84c87814, 0x8cc70208, 0x90befffa, 0xa4506ceb, 0xbef9a3f7, 0xc67178f2]
def kk (i : Nat) : BitVec 32 := gat K i
def F : List (BitVec 32) := [0x6a09e667, 0xbb67ae85, 0x3c6ef372, 0xa54ff53a, 0x510e527f, 0x9b05688c, 0x1f83d9ab, 0x5be0cd19]
def first (i : Nat) : BitVec 32 := gat F i
def tt (w V : Nat → BitVec 32) (i : Nat) : BitVec 32 := V 7 + S1 (V 4) + ch (V 4) (V 5) (V 6) + kk i + w i
def uu (V : Nat → BitVec 32) : BitVec 32 := S0 (V 0) + maj (V 0) (V 1) (V 2)
def round (w V : Nat → BitVec 32) (i : Nat) : Nat → BitVec 32 := fun j => if j = 0 then tt w V i + uu V else if j = 4 then V 3 + tt w V i else V (j - 1)
def compress (m : Nat → BitVec 8) (H : Nat → BitVec 32) : Nat → BitVec 32 := fun j => H j + steps (round (sched m)) H 64 j
def blk (msg : List (BitVec 8)) (k : Nat) : Nat → BitVec 8 := fun j => gat msg (64 * k + j)
def hs (msg : List (BitVec 8)) (k : Nat) : Nat → BitVec 32 := steps (fun H k => compress (blk msg k) H) first k
def be32 (x : BitVec 32) : List (BitVec 8) := [(x >>> 24).setWidth 8, (x >>> 16).setWidth 8, (x >>> 8).setWidth 8, x.setWidth 8]
def out (H : Nat → BitVec 32) : Nat → List (BitVec 8)
  | 0 => []
  | k + 1 => out H k ++ be32 (H k)
theorem out_length (H : Nat → BitVec 32) (k : Nat) : (out H k).length = 4 * k := by
  induction k with
  | zero => rfl
  | succ k ih => simp [out, ih, be32]; omega
def len1 (n i : Nat) : BitVec 8 := ((BitVec.ofNat 64 n * 8) >>> (8 * i)).setWidth 8
/-- The first k of a length's eight bytes. -/
def lens (n : Nat) : Nat → List (BitVec 8)
  | 0 => []
  | k + 1 => lens n k ++ [len1 n (7 - k)]
theorem lens_length (n k : Nat) : (lens n k).length = k := by
  induction k with
  | zero => rfl
  | succ k ih => simp [lens, ih]
def zeros (n : Nat) : Nat := (119 - n % 64) % 64
def pad (n : Nat) : List (BitVec 8) := (0x80 :: List.replicate (zeros n) 0) ++ lens n 8
theorem pad_length (n : Nat) : (pad n).length = zeros n + 9 := by simp [pad, lens_length]
def sum (msg : List (BitVec 8)) : List (BitVec 8) := out (hs (msg ++ pad msg.length) ((msg.length + (pad msg.length).length) / 64)) 8
theorem sum_length (msg : List (BitVec 8)) : (sum msg).length = 32 := out_length _ 8
theorem zeros_fit (n : Nat) : (n + (zeros n + 9)) % 64 = 0 := by unfold zeros; omega
theorem steps_congr {α : Type} (f g : α → Nat → α) (S : α) (n : Nat) (h : ∀ k, k < n → ∀ x, f x k = g x k) : steps f S n = steps g S n := by
  induction n with
  | zero => rfl
  | succ n ih => simp only [steps]; rw [ih (fun k hk => h k (by omega)), h n (by omega)]
theorem w0_congr {m m' : Nat → BitVec 8} (h : ∀ j, j < 64 → m j = m' j) : w0 m 16 = w0 m' 16 := by
  funext j
  unfold w0
  by_cases hj : j < 16
  · rw [if_pos hj, if_pos hj]
    unfold be
    rw [h _ (by omega), h _ (by omega), h _ (by omega), h _ (by omega)]
  · rw [if_neg hj, if_neg hj]
theorem compress_congr {m m' : Nat → BitVec 8} (h : ∀ j, j < 64 → m j = m' j) (H : Nat → BitVec 32) : compress m H = compress m' H := by
  unfold compress sched
  rw [w0_congr h]
theorem hs_append (msg ys : List (BitVec 8)) (k : Nat) (h : 64 * k ≤ msg.length) : hs (msg ++ ys) k = hs msg k := by
  unfold hs
  refine steps_congr _ _ _ _ fun i hi H => compress_congr (fun j hj => ?_) H
  unfold blk
  exact gat_append_left (by omega)
theorem hs_succ (msg : List (BitVec 8)) (k : Nat) : hs msg (k + 1) = compress (blk msg k) (hs msg k) := rfl
/-- The blocks behind k whole ones begin the rest. -/
theorem blk_drop (msg : List (BitVec 8)) (k : Nat) (H : Nat → BitVec 32) : compress (fun j => gat ((msg.drop (64 * k)).take 64) j) H = compress (blk msg k) H := by
  refine compress_congr (fun j hj => ?_) H
  rw [gat_take hj, gat_drop]
  rfl
end Sha
end Go.Proofs.Ytoekbomfepedcaa
