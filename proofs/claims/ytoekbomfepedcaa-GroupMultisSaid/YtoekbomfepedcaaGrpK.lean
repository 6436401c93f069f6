/- The second bases of the three groups, reckoned by the kernel. -/
import Derived.Test.YtoekbomfepedcaaGrpA
namespace Go.Proofs.Ytoekbomfepedcaa
set_option linter.unusedSimpArgs false
set_option linter.unusedVariables false
open Go.RowKit
open Sha
open Mac Pk Nt
def gPrkIn : List (BitVec 8) := [0xe7, 0x2b, 0xbd, 0x4d, 0x42, 0x9a, 0xc9, 0x14, 0xa8, 0xa6, 0xc5, 0xbd, 0x49, 0x63, 0x2f, 0xf6, 0xb0, 0x0d, 0x4f, 0xef, 0x42, 0xaf, 0xb4, 0x43, 0xf0, 0xb8, 0x04, 0x7d, 0xf0, 0x6c, 0x85, 0xd2]
def gPrk : List (BitVec 8) := [0xb6, 0x13, 0x67, 0x9a, 0x08, 0x14, 0xd9, 0xec, 0x77, 0x2f, 0x95, 0xd7, 0x78, 0xc3, 0x5f, 0xc5, 0xff, 0x16, 0x97, 0xc4, 0x93, 0x71, 0x56, 0x53, 0xc6, 0xc7, 0x12, 0x14, 0x42, 0x92, 0xc5, 0xad]
theorem gPrk_kb : kb [] = [] := by unfold kb; rw [if_neg (by decide)]
theorem gPrk_inner : inner [] [] = gPrkIn :=
  sum_is _ _ [54, 54, 54, 54, 54, 54, 54, 54, 54, 54, 54, 54, 54, 54, 54, 54, 54, 54, 54, 54, 54, 54, 54, 54, 54, 54, 54, 54, 54, 54, 54, 54, 54, 54, 54, 54, 54, 54, 54, 54, 54, 54, 54, 54, 54, 54, 54, 54, 54, 54, 54, 54, 54, 54, 54, 54, 54, 54, 54, 54, 54, 54, 54, 54, 128, 0, 0, 0, 0, 0, 0, 0, 0, 0, 0, 0, 0, 0, 0, 0, 0, 0, 0, 0, 0, 0, 0, 0, 0, 0, 0, 0, 0, 0, 0, 0, 0, 0, 0, 0, 0, 0, 0, 0, 0, 0, 0, 0, 0, 0, 0, 0, 0, 0, 0, 0, 0, 0, 0, 0, 0, 0, 0, 0, 0, 0, 2, 0] _ (by unfold padk; rw [gPrk_kb]; decide +kernel) rfl (by decide +kernel)
theorem gPrk_tag : tag [] [] = gPrk := by
  unfold tag
  rw [gPrk_inner]
  exact sum_is _ _ [92, 92, 92, 92, 92, 92, 92, 92, 92, 92, 92, 92, 92, 92, 92, 92, 92, 92, 92, 92, 92, 92, 92, 92, 92, 92, 92, 92, 92, 92, 92, 92, 92, 92, 92, 92, 92, 92, 92, 92, 92, 92, 92, 92, 92, 92, 92, 92, 92, 92, 92, 92, 92, 92, 92, 92, 92, 92, 92, 92, 92, 92, 92, 92, 231, 43, 189, 77, 66, 154, 201, 20, 168, 166, 197, 189, 73, 99, 47, 246, 176, 13, 79, 239, 66, 175, 180, 67, 240, 184, 4, 125, 240, 108, 133, 210, 128, 0, 0, 0, 0, 0, 0, 0, 0, 0, 0, 0, 0, 0, 0, 0, 0, 0, 0, 0, 0, 0, 0, 0, 0, 0, 0, 0, 0, 0, 3, 0] _ (by unfold padk; rw [gPrk_kb]; decide +kernel) rfl (by decide +kernel)
def gT1In : List (BitVec 8) := [0x7c, 0x50, 0x8a, 0x41, 0xb5, 0x0a, 0xee, 0xe4, 0xdd, 0xcb, 0x55, 0x95, 0x4f, 0x6f, 0x13, 0x11, 0x07, 0xe9, 0xf7, 0x2c, 0x3a, 0x12, 0x7c, 0xe6, 0xb9, 0x6c, 0x3b, 0x4d, 0x4d, 0x43, 0xe2, 0x04]
def gT1 : List (BitVec 8) := [0x16, 0x09, 0x5e, 0x60, 0x89, 0xc9, 0x84, 0x87, 0x0c, 0xd7, 0x61, 0xa5, 0x77, 0xad, 0x54, 0xc1, 0x31, 0x03, 0x0a, 0x9a, 0x0c, 0x90, 0x45, 0xac, 0x95, 0xb1, 0xe0, 0xe6, 0x0d, 0xfd, 0x79, 0x72]
theorem gT1_kb : kb gPrk = gPrk := by unfold kb; rw [if_neg (by decide)]
theorem gT1_inner : inner gPrk [104, 0, 1] = gT1In :=
  sum_is _ _ [128, 37, 81, 172, 62, 34, 239, 218, 65, 25, 163, 225, 78, 245, 105, 243, 201, 32, 161, 242, 165, 71, 96, 101, 240, 241, 36, 34, 116, 164, 243, 155, 54, 54, 54, 54, 54, 54, 54, 54, 54, 54, 54, 54, 54, 54, 54, 54, 54, 54, 54, 54, 54, 54, 54, 54, 54, 54, 54, 54, 54, 54, 54, 54, 104, 0, 1, 128, 0, 0, 0, 0, 0, 0, 0, 0, 0, 0, 0, 0, 0, 0, 0, 0, 0, 0, 0, 0, 0, 0, 0, 0, 0, 0, 0, 0, 0, 0, 0, 0, 0, 0, 0, 0, 0, 0, 0, 0, 0, 0, 0, 0, 0, 0, 0, 0, 0, 0, 0, 0, 0, 0, 0, 0, 0, 0, 2, 24] _ (by unfold padk; rw [gT1_kb]; decide +kernel) rfl (by decide +kernel)
theorem gT1_tag : tag gPrk [104, 0, 1] = gT1 := by
  unfold tag
  rw [gT1_inner]
  exact sum_is _ _ [234, 79, 59, 198, 84, 72, 133, 176, 43, 115, 201, 139, 36, 159, 3, 153, 163, 74, 203, 152, 207, 45, 10, 15, 154, 155, 78, 72, 30, 206, 153, 241, 92, 92, 92, 92, 92, 92, 92, 92, 92, 92, 92, 92, 92, 92, 92, 92, 92, 92, 92, 92, 92, 92, 92, 92, 92, 92, 92, 92, 92, 92, 92, 92, 124, 80, 138, 65, 181, 10, 238, 228, 221, 203, 85, 149, 79, 111, 19, 17, 7, 233, 247, 44, 58, 18, 124, 230, 185, 108, 59, 77, 77, 67, 226, 4, 128, 0, 0, 0, 0, 0, 0, 0, 0, 0, 0, 0, 0, 0, 0, 0, 0, 0, 0, 0, 0, 0, 0, 0, 0, 0, 0, 0, 0, 0, 3, 0] _ (by unfold padk; rw [gT1_kb]; decide +kernel) rfl (by decide +kernel)
theorem gExp_T1 (n : Nat) (h : n ≤ 32) : expand gPrk [104, BitVec.ofNat 8 0] n = gT1.take n := by
  rw [← parts_take gPrk [104, BitVec.ofNat 8 0] 1 n (by omega)]
  have : parts gPrk [104, BitVec.ofNat 8 0] 1 = gT1 := by
    show [] ++ tag gPrk ([] ++ [104, BitVec.ofNat 8 0] ++ [BitVec.ofNat 8 (0 + 1)]) = gT1
    rw [List.nil_append]
    exact gT1_tag
  rw [this]
theorem gTry0 : hTry 607 6 [] 0 = 597 := by
  unfold hTry
  rw [gPrk_tag, show byteSz 607 = 2 by decide +kernel, gExp_T1 _ (by decide)]
  rw [show ofB (gT1.take (2 + 8)) % 607 = 323 by decide +kernel, pow_is 8 (by decide)]
  decide +kernel
theorem gTry1 : hTry 655211 10 [] 0 = 96520 := by
  unfold hTry
  rw [gPrk_tag, show byteSz 655211 = 3 by decide +kernel, gExp_T1 _ (by decide)]
  rw [show ofB (gT1.take (3 + 8)) % 655211 = 235602 by decide +kernel, pow_is 8 (by decide)]
  decide +kernel
theorem gTry2 : hTry 20752587082923246163 18 [] 0 = 12833098634328171918 := by
  unfold hTry
  rw [gPrk_tag, show byteSz 20752587082923246163 = 9 by decide +kernel, gExp_T1 _ (by decide)]
  rw [show ofB (gT1.take (9 + 8)) % 20752587082923246163 = 7939214684620079117 by decide +kernel, pow_is 8 (by decide)]
  decide +kernel
/-! ### the three groups -/
def grP (r : Nat) : Nat := if r = 0 then 607 else if r = 1 then 655211 else 20752587082923246163
def grQ (r : Nat) : Nat := if r = 0 then 101 else if r = 1 then 65521 else 1152921504606847009
def grG (r : Nat) : Nat := if r = 0 then 64 else if r = 1 then 1024 else 262144
def grH (r : Nat) : Nat := if r = 0 then 597 else if r = 1 then 96520 else 12833098634328171918
def grS (r : Nat) : List St := if r = 0 then [] else if r = 1 then [⟨655211, 2, [65521]⟩] else [⟨1152921504606847009, 13, [2, 3, 11, 683, 2971]⟩, ⟨20752587082923246163, 2, [1152921504606847009]⟩]

def vp : Nat → Nat → Nat → Nat
  | 0, _, _ => 1
  | f + 1, n, p => if 2 ≤ p ∧ 0 < n ∧ n % p = 0 then p * vp f (n / p) p else 1
theorem vp_eq (p : Nat) : ∀ f n, n < 2 ^ f → vpow n p = vp f n p
  | 0, n, h => by
    obtain rfl : n = 0 := by omega
    rw [vpow, dif_neg (by omega)]; rfl
  | f + 1, n, h => by
    rw [vpow]
    unfold vp
    by_cases hc : 2 ≤ p ∧ 0 < n ∧ n % p = 0
    · rw [dif_pos hc, if_pos hc, vp_eq p f (n / p) (by
        have h1 : n / p ≤ n / 2 := Nat.div_le_div_left hc.1 (by omega)
        rw [Nat.pow_succ] at h
        omega)]
    · rw [dif_neg hc, if_neg hc]
def okF (N b : Nat) (ps bs : List Nat) (i : Nat) : Bool :=
  !hasB (ps.take i) (gat ps i) && (knownB bs (gat ps i) && (decide (2 ≤ gat ps i) && (decide ((N - 1) % gat ps i = 0) && decide (Nat.gcd (subm (fpow N 70 b ((N - 1) / gat ps i) 1) 1 N) N = 1))))
def holdsF (N b : Nat) (ps bs : List Nat) : Bool :=
  decide (2 ≤ N) && (decide (1 ≤ ps.length ∧ ps.length ≤ 32) && (decide (fpow N 70 b (N - 1) 1 = 1) && ((List.range ps.length).all (okF N b ps bs) && decide (N < prodL (ps.map (vp 70 (N - 1))) * prodL (ps.map (vp 70 (N - 1)))))))
theorem holdsF_eq {N : Nat} (hN : N < 2 ^ 70) (b : Nat) (ps bs : List Nat) : holdsB N b ps bs = holdsF N b ps bs := by
  have h1 : b ^ (N - 1) % N = fpow N 70 b (N - 1) 1 := pow_is 70 (by omega)
  have h2 : okP N b ps bs = okF N b ps bs := by
    funext i
    unfold okP okF
    have : (N - 1) / gat ps i < 2 ^ 70 := Nat.lt_of_le_of_lt (Nat.div_le_self _ _) (by omega)
    rw [pow_is 70 this]
  have h3 : facF N ps = prodL (ps.map (vp 70 (N - 1))) := by
    unfold facF
    congr 1
    refine List.map_congr_left fun p _ => vp_eq p 70 (N - 1) (by omega)
  unfold holdsB holdsF
  rw [h1, h2, h3]
set_option maxRecDepth 1000000 in
theorem gChk1 : checkE (grS 1) = 0 := by
  show checkE [⟨655211, 2, [65521]⟩] = 0
  unfold checkE
  rw [if_neg (by decide +kernel), if_pos]
  unfold holdAll holdAll
  rw [holdsF_eq (by decide)]
  decide +kernel
set_option maxRecDepth 1000000 in
theorem gChk2 : checkE (grS 2) = 0 := by
  show checkE [⟨1152921504606847009, 13, [2, 3, 11, 683, 2971]⟩, ⟨20752587082923246163, 2, [1152921504606847009]⟩] = 0
  unfold checkE
  rw [if_neg (by decide +kernel), if_pos]
  unfold holdAll holdAll holdAll
  rw [holdsF_eq (by decide), holdsF_eq (by decide)]
  decide +kernel
theorem primeB_small {n : Nat} {ss : List St} (h : smallB n = true) : primeB n ss = true := by unfold primeB; rw [h]; rfl
theorem primeB_step {n : Nat} {ss : List St} (h : checkE ss = 0) (ha : (ss.any fun s => s.N == n) = true) : primeB n ss = true := by unfold primeB; rw [decide_eq_true h, ha]; simp
theorem gPrime (r : Nat) (hr : r < 3) : primeB (grP r) (grS r) = true ∧ primeB (grQ r) (grS r) = true := by
  match r, hr with
  | 0, _ => exact ⟨primeB_small (by decide +kernel), primeB_small (by decide +kernel)⟩
  | 1, _ => exact ⟨primeB_step gChk1 (by decide +kernel), primeB_small (by decide +kernel)⟩
  | 2, _ => exact ⟨primeB_step gChk2 (by decide +kernel), primeB_step gChk2 (by decide +kernel)⟩
set_option maxRecDepth 1000000 in
theorem gMem (r : Nat) (hr : r < 3) : memB (grP r) (grQ r) (grG r) = true := by
  match r, hr with
  | 0, _ => unfold memB; rw [pow_is 70 (by decide)]; decide +kernel
  | 1, _ => unfold memB; rw [pow_is 70 (by decide)]; decide +kernel
  | 2, _ => unfold memB; rw [pow_is 70 (by decide)]; decide +kernel
theorem gSmall (r : Nat) (hr : r < 3) : ¬ (1024 < blen (grP r) ∨ 1024 < blen (grQ r) ∨ 1024 < blen (grG r) ∨ 128 < ([] : List (BitVec 8)).length) := by
  match r, hr with
  | 0, _ => decide +kernel
  | 1, _ => decide +kernel
  | 2, _ => decide +kernel
theorem gArgs (r : Nat) (hr : r < 3) : ¬ ((grP r - 1) % grQ r ≠ 0 ∨ grQ r ≤ 64 ∨ grG r ≤ 1 ∨ grP r ≤ grG r) := by
  match r, hr with
  | 0, _ => decide +kernel
  | 1, _ => decide +kernel
  | 2, _ => decide +kernel
theorem gFirst (r : Nat) (hr : r < 3) : hTry (grP r) ((grP r - 1) / grQ r) [] 0 = grH r := by
  match r, hr with
  | 0, _ => exact gTry0
  | 1, _ => exact gTry1
  | 2, _ => exact gTry2
theorem gBig (r : Nat) (hr : r < 3) : 1 < grH r := by
  match r, hr with
  | 0, _ => decide +kernel
  | 1, _ => decide +kernel
  | 2, _ => decide +kernel
/-- each of the three is a group, and its second base is this -/
theorem gNew (r : Nat) (hr : r < 3) : newG (grP r) (grQ r) (grG r) [] (grS r) = (0, grH r) := by
  unfold newG
  rw [if_neg (gSmall r hr), if_neg (fun h => h (gPrime r hr)), if_neg (gArgs r hr), if_neg (fun h => h (gMem r hr))]
  unfold hFrom
  rw [gFirst r hr, if_pos (gBig r hr)]
  rfl
end Go.Proofs.Ytoekbomfepedcaa
