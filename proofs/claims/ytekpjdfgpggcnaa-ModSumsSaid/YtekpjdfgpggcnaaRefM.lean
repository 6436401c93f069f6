/- The document's rings over rows of truths, walked: Of, Add, Sub, Mul. -/
import Derived.Test.YtekpjdfgpggcnaaRefE
import Derived.Test.YtekpjdfgpggcnaaRefF
import Derived.Test.YtekpjdfgpggcnaaModB
namespace Go.Proofs.Ytekpjdfgpggcnaa
set_option linter.unusedSimpArgs false
set_option linter.unusedVariables false
open Go.RowKit
open Nt

theorem blen_sum {a b k : Nat} (ha : blen a ≤ k) (hb : blen b ≤ k) : blen (a + b) ≤ k + 1 := by
  rw [blen_le_iff] at *
  rw [Nat.pow_succ]; omega
theorem blen_mul' {a b k : Nat} (ha : blen a ≤ k) (hb : blen b ≤ k) : blen (a * b) ≤ k + k := by
  rw [blen_le_iff] at *
  rw [Nat.pow_add]
  exact Nat.mul_lt_mul_of_lt_of_le ha (Nat.le_of_lt hb) (Nat.two_pow_pos k)
theorem blen_le_of {a b k : Nat} (h : a ≤ b) (hb : blen b ≤ k) : blen a ≤ k := by
  rw [blen_le_iff] at *; omega
set_option maxRecDepth 100000 in
set_option maxHeartbeats 1000000 in
theorem rmof_any (va vn : Value) (a n k : Nat) (w : World) (hVa : RefV w va a) (hVn : RefV w vn n) (hFa : blen a ≤ k) (hFn : blen n ≤ k) (hk : k ≤ 4000000) (hn : 0 < n) :
    Calls Try.prog 47 #[va, vn] w (RetR w (a % n)) := by
  obtain ⟨A, la, ca, xs, rfl, -⟩ := hVa.open_
  obtain ⟨B, lb, cb, ys, rfl, -⟩ := hVn.open_
  have hG : Ext w w := Upd.refl _ _
  go_enter Try.func47, Try.ntmps47
  go_wp2_with fail
  refine (rdiv_any _ _ a n k _ hVa hVn hFa hFn hk hn).mono ?_
  rintro e w1 ⟨A1, l1, c1, A2, l2, c2, rfl, hV1, hV2, hU⟩
  replace hG := hG.trans hU
  go_wp2_with fail
  go_ret
  exact ⟨_, _, _, rfl, hV2, hG⟩
set_option maxRecDepth 100000 in
set_option maxHeartbeats 1000000 in
theorem rmadd_any (va vb vn : Value) (a b n k : Nat) (w : World) (hVa : RefV w va a) (hVb : RefV w vb b) (hVn : RefV w vn n) (hFa : blen a ≤ k) (hFb : blen b ≤ k) (hFn : blen n ≤ k) (hk : k ≤ 1000000) (hn : 0 < n) :
    Calls Try.prog 49 #[va, vb, vn] w (RetR w ((a + b) % n)) := by
  obtain ⟨A, la, ca, xs, rfl, -⟩ := hVa.open_
  obtain ⟨B, lb, cb, ys, rfl, -⟩ := hVb.open_
  obtain ⟨D, ld, cd, zs, rfl, -⟩ := hVn.open_
  have hG : Ext w w := Upd.refl _ _
  go_enter Try.func49, Try.ntmps49
  go_wp2_with fail
  refine (radd_any _ _ a b k _ hVa hVb hFa hFb (by omega)).mono ?_
  rintro e w1 ⟨A1, l1, c1, rfl, hV1, hU⟩
  replace hG := hG.trans hU
  go_wp2_with fail
  refine (rmof_any _ _ (a + b) n (k + 1) _ hV1 (hVn.ext hG) (blen_sum hFa hFb) (by omega) (by omega) hn).mono ?_
  rintro e w2 ⟨A2, l2, c2, rfl, hV2, hU⟩
  replace hG := hG.trans hU
  go_wp2_with fail
  go_ret
  exact ⟨_, _, _, rfl, hV2, hG⟩
set_option maxRecDepth 100000 in
set_option maxHeartbeats 1000000 in
theorem rmmul_any (va vb vn : Value) (a b n k : Nat) (w : World) (hVa : RefV w va a) (hVb : RefV w vb b) (hVn : RefV w vn n) (hFa : blen a ≤ k) (hFb : blen b ≤ k) (hFn : blen n ≤ k) (hk : k ≤ 1000000) (hn : 0 < n) :
    Calls Try.prog 53 #[va, vb, vn] w (RetR w ((a * b) % n)) := by
  obtain ⟨A, la, ca, xs, rfl, -⟩ := hVa.open_
  obtain ⟨B, lb, cb, ys, rfl, -⟩ := hVb.open_
  obtain ⟨D, ld, cd, zs, rfl, -⟩ := hVn.open_
  have hG : Ext w w := Upd.refl _ _
  go_enter Try.func53, Try.ntmps53
  go_wp2_with fail
  refine (rmul_any _ _ a b k _ hVa hVb hFa hFb (by omega)).mono ?_
  rintro e w1 ⟨A1, l1, c1, rfl, hV1, hU⟩
  replace hG := hG.trans hU
  go_wp2_with fail
  refine (rmof_any _ _ (a * b) n (k + k) _ hV1 (hVn.ext hG) (blen_mul' hFa hFb) (by omega) (by omega) hn).mono ?_
  rintro e w2 ⟨A2, l2, c2, rfl, hV2, hU⟩
  replace hG := hG.trans hU
  go_wp2_with fail
  go_ret
  exact ⟨_, _, _, rfl, hV2, hG⟩
set_option maxRecDepth 100000 in
set_option maxHeartbeats 1000000 in
theorem rmsub_any (va vb vn : Value) (a b n k : Nat) (w : World) (hVa : RefV w va a) (hVb : RefV w vb b) (hVn : RefV w vn n) (hFa : blen a ≤ k) (hFb : blen b ≤ k) (hFn : blen n ≤ k) (hk : k ≤ 1000000) (hn : 0 < n) :
    Calls Try.prog 51 #[va, vb, vn] w (RetR w (subm a b n)) := by
  obtain ⟨A, la, ca, xs, rfl, -⟩ := hVa.open_
  obtain ⟨B, lb, cb, ys, rfl, -⟩ := hVb.open_
  obtain ⟨D, ld, cd, zs, rfl, -⟩ := hVn.open_
  have hle : b % n ≤ a % n + n := by have := Nat.mod_lt b hn; omega
  have hs := blen_sum (blen_mod (a := a) hFn hn) hFn
  have hG : Ext w w := Upd.refl _ _
  go_enter Try.func51, Try.ntmps51
  go_wp2_with fail
  refine (rmof_any _ _ a n k _ hVa hVn hFa hFn (by omega) hn).mono ?_
  rintro e w1 ⟨A1, l1, c1, rfl, hV1, hU⟩
  replace hG := hG.trans hU
  go_wp2_with fail
  refine (radd_any _ _ (a % n) n k _ hV1 (hVn.ext hG) (blen_mod hFn hn) hFn (by omega)).mono ?_
  rintro e w2 ⟨A2, l2, c2, rfl, hV2, hU⟩
  replace hG := hG.trans hU
  go_wp2_with fail
  refine (rmof_any _ _ b n k _ (hVb.ext hG) (hVn.ext hG) hFb hFn (by omega) hn).mono ?_
  rintro e w3 ⟨A3, l3, c3, rfl, hV3, hU⟩
  replace hG := hG.trans hU
  go_wp2_with fail
  refine (rsub_any _ _ (a % n + n) (b % n) (k + 1) _ (hV2.ext hU) hV3 hs (by omega) hle).mono ?_
  rintro e w4 ⟨A4, l4, c4, rfl, hV4, hU⟩
  replace hG := hG.trans hU
  go_wp2_with fail
  refine (rmof_any _ _ (a % n + n - b % n) n (k + 1) _ hV4 (hVn.ext hG) (blen_le_of (Nat.sub_le _ _) hs) (by omega) (by omega) hn).mono ?_
  rintro e w5 ⟨A5, l5, c5, rfl, hV5, hU⟩
  replace hG := hG.trans hU
  go_wp2_with fail
  go_ret
  exact ⟨_, _, _, rfl, hV5, hG⟩
end Go.Proofs.Ytekpjdfgpggcnaa
