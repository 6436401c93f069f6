/- The chapter's example of the box: reckoned by the kernel, and walked (lives). -/
import Derived.Lib.SmallJoins
import Derived.Test.YtpffdpieciaooaaBoxC
namespace Go.Proofs.Ytpffdpieciaooaa
set_option linter.unusedSimpArgs false
set_option linter.unusedVariables false
open Go.RowKit
open Nt Strm
attribute [local go_sem] steady steadyUpon Cls same_cell by8
attribute [local irreducible] wpHead wpTree
def litB (W : List Nat) : List (BitVec 8) := W.flatMap fun x => bytes4 (BitVec.ofNat 32 x)
theorem outs_lit {R S : Nat → BitVec 32} {W : List Nat} : ∀ n, n ≤ W.length → (∀ k, k < n → R k + S k = BitVec.ofNat 32 (W.getD k 0)) → outs R S n = litB (W.take n)
  | 0, _, _ => by simp [outs, litB]
  | n + 1, hn, h => by
    rw [outs, outs_lit n (by omega) (fun k hk => h k (by omega)), h n (by omega), List.take_succ_eq_append_getElem (by omega)]
    unfold litB
    rw [List.flatMap_append]
    simp [List.getD_eq_getElem?_getD, List.getElem?_eq_getElem (show n < W.length by omega)]
theorem block_lit {key : List (BitVec 8)} {ctr : BitVec 32} {nonce : List (BitVec 8)} {l0 W : List Nat} (h0 : St (Strm.start key ctr nonce) l0) (hW : rsK 10 l0 (fun l => (List.range 16).map fun i => (l.getD i 0 + l0.getD i 0) % M) = W) : block key ctr nonce = litB W := by
  obtain ⟨l', h1, h2⟩ := St.rs h0 10
  rw [h2] at hW
  have hl : W.length = 16 := by rw [← hW]; simp
  unfold block
  rw [outs_lit (W := W) 16 (by omega) (fun k hk => ?_), List.take_of_length_le (by omega)]
  apply BitVec.eq_of_toNat_eq
  rw [BitVec.toNat_add, h1.2 k hk, h0.2 k hk, ← hW, BitVec.toNat_ofNat]
  simp [List.getD_eq_getElem?_getD, hk, M]
def bkKey : List (BitVec 8) := (List.range 32).map fun i => BitVec.ofNat 8 (128 + i)
def bkNonce : List (BitVec 8) := [7, 0, 0, 0, 64, 65, 66, 67, 68, 69, 70, 71]
def bkSide : List (BitVec 8) := [80, 81, 82, 83, 192, 193, 194, 195, 196, 197, 198, 199]
def bkMsg : List (BitVec 8) := [76, 97, 100, 105, 101, 115, 32, 97, 110, 100, 32, 71, 101, 110, 116, 108, 101, 109, 101, 110, 32, 111, 102, 32, 116, 104, 101, 32, 99, 108, 97, 115, 115, 32, 111, 102, 32, 39, 57, 57, 58, 32, 73, 102, 32, 73, 32, 99, 111, 117, 108, 100, 32, 111, 102, 102, 101, 114, 32, 121, 111, 117, 32, 111, 110, 108, 121, 32, 111, 110, 101, 32, 116, 105, 112, 32, 102, 111, 114, 32, 116, 104, 101, 32, 102, 117, 116, 117, 114, 101, 44, 32, 115, 117, 110, 115, 99, 114, 101, 101, 110, 32, 119, 111, 117, 108, 100, 32, 98, 101, 32, 105, 116, 46]
def bkX : List (BitVec 8) := [211, 26, 141, 52, 100, 142, 96, 219, 123, 134, 175, 188, 83, 239, 126, 194, 164, 173, 237, 81, 41, 110, 8, 254, 169, 226, 181, 167, 54, 238, 98, 214, 61, 190, 164, 94, 140, 169, 103, 18, 130, 250, 251, 105, 218, 146, 114, 139, 26, 113, 222, 10, 158, 6, 11, 41, 5, 214, 165, 182, 126, 205, 59, 54, 146, 221, 189, 127, 45, 119, 139, 140, 152, 3, 174, 227, 40, 9, 27, 88, 250, 179, 36, 228, 250, 214, 117, 148, 85, 133, 128, 139, 72, 49, 215, 188, 63, 244, 222, 240, 142, 75, 122, 157, 229, 118, 210, 101, 134, 206, 198, 75, 97, 22]
def bkS0 : List Nat := [1634760805, 857760878, 2036477234, 1797285236, 2206368128, 2273740164, 2341112200, 2408484236, 2475856272, 2543228308, 2610600344, 2677972380, 0, 7, 1128415552, 1195787588]
def bkW0 : List Nat := [623619195, 2940711981, 1434105353, 2220222884, 1943462154, 3956897040, 2020971306, 4283684158, 3737943714, 3025001389, 3835434961, 3628272585, 2358556604, 2340244299, 958920317, 376022066]
def bkS1 : List Nat := [1634760805, 857760878, 2036477234, 1797285236, 2206368128, 2273740164, 2341112200, 2408484236, 2475856272, 2543228308, 2610600344, 2677972380, 1, 7, 1128415552, 1195787588]
def bkW1 : List Nat := [1575582623, 3124821249, 4220510741, 2919924022, 1065926849, 3731751177, 2278591197, 2768470613, 952868430, 727617196, 263379640, 3897744378, 1857160309, 1332570558, 3481642080, 1494988817]
def bkS2 : List Nat := [1634760805, 857760878, 2036477234, 1797285236, 2206368128, 2273740164, 2341112200, 2408484236, 2475856272, 2543228308, 2610600344, 2677972380, 2, 7, 1128415552, 1195787588]
def bkW2 : List Nat := [1606726140, 2901285186, 3286133484, 2020173390, 3292650382, 3774981020, 2880233511, 3485025339, 2512094812, 4060965856, 1169562256, 585542628, 51132437, 3614193102, 4217599654, 1694494685]
theorem bk_start0 : St (Strm.start bkKey 0 bkNonce) bkS0 := by
  refine ⟨rfl, fun j hj => ?_⟩
  rw [← refB_start bkKey 0 bkNonce j hj]
  match j, hj with
  | 0, _ | 1, _ | 2, _ | 3, _ | 4, _ | 5, _ | 6, _ | 7, _ | 8, _ | 9, _ | 10, _ | 11, _ | 12, _ | 13, _ | 14, _ | 15, _ => decide +kernel
  | n + 16, h => exact absurd h (by omega)
theorem bk_words0 : rsK 10 bkS0 (fun l => (List.range 16).map fun i => (l.getD i 0 + bkS0.getD i 0) % M) = bkW0 := by decide +kernel
theorem bk_block0 : block bkKey 0 bkNonce = litB bkW0 := block_lit bk_start0 bk_words0
theorem bk_start1 : St (Strm.start bkKey 1 bkNonce) bkS1 := by
  refine ⟨rfl, fun j hj => ?_⟩
  rw [← refB_start bkKey 1 bkNonce j hj]
  match j, hj with
  | 0, _ | 1, _ | 2, _ | 3, _ | 4, _ | 5, _ | 6, _ | 7, _ | 8, _ | 9, _ | 10, _ | 11, _ | 12, _ | 13, _ | 14, _ | 15, _ => decide +kernel
  | n + 16, h => exact absurd h (by omega)
theorem bk_words1 : rsK 10 bkS1 (fun l => (List.range 16).map fun i => (l.getD i 0 + bkS1.getD i 0) % M) = bkW1 := by decide +kernel
theorem bk_block1 : block bkKey 1 bkNonce = litB bkW1 := block_lit bk_start1 bk_words1
theorem bk_start2 : St (Strm.start bkKey 2 bkNonce) bkS2 := by
  refine ⟨rfl, fun j hj => ?_⟩
  rw [← refB_start bkKey 2 bkNonce j hj]
  match j, hj with
  | 0, _ | 1, _ | 2, _ | 3, _ | 4, _ | 5, _ | 6, _ | 7, _ | 8, _ | 9, _ | 10, _ | 11, _ | 12, _ | 13, _ | 14, _ | 15, _ => decide +kernel
  | n + 16, h => exact absurd h (by omega)
theorem bk_words2 : rsK 10 bkS2 (fun l => (List.range 16).map fun i => (l.getD i 0 + bkS2.getD i 0) % M) = bkW2 := by decide +kernel
theorem bk_block2 : block bkKey 2 bkNonce = litB bkW2 := block_lit bk_start2 bk_words2
theorem xors_lit (key : List (BitVec 8)) (nonce b B1 B2 : List (BitVec 8)) (h1 : block key 1 nonce = B1) (h2 : block key 2 nonce = B2) (hb : b.length ≤ 128) : xors key 1 nonce b = (List.range b.length).map fun i => gat b i ^^^ gat (if i < 64 then B1 else B2) (i % 64) := by
  unfold xors xorTo
  refine List.map_congr_left fun i hi => ?_
  have hi' : i < b.length := by simpa using hi
  rw [if_pos hi']
  unfold key1
  by_cases h : i < 64
  · rw [if_pos h, Nat.div_eq_of_lt h, ← h1]
    rfl
  · rw [if_neg h, show i / 64 = 1 by omega, ← h2]
    rfl
theorem bk_X : xors bkKey 1 bkNonce bkMsg = bkX := by
  rw [xors_lit _ _ _ _ _ bk_block1 bk_block2 (by decide)]
  decide +kernel
theorem bk_T0 : gat (tagOf ((litB bkW0).take 32) (boxD bkSide bkX)) 0 = 26 := by decide +kernel
theorem bk_T15 : gat (tagOf ((litB bkW0).take 32) (boxD bkSide bkX)) 15 = 145 := by decide +kernel
theorem bk_S : bxS bkKey bkNonce bkSide bkMsg = bkX ++ bxP bkKey bkNonce bkSide bkX := by unfold bxS; rw [bk_X]
theorem bk_0 : gat (bxS bkKey bkNonce bkSide bkMsg) 0 = 211 := by rw [bk_S]; rfl
theorem bk_114 : gat (bxS bkKey bkNonce bkSide bkMsg) 114 = 26 := by
  rw [bk_S, gat_append_right (by decide)]
  unfold bxP
  rw [bk_block0]
  exact bk_T0
theorem bk_129 : gat (bxS bkKey bkNonce bkSide bkMsg) 129 = 145 := by
  rw [bk_S, gat_append_right (by decide)]
  unfold bxP
  rw [bk_block0]
  exact bk_T15
end Go.Proofs.Ytpffdpieciaooaa
