/- A multiple taken away from words in place, walked: take. -/
import Derived.Test.YtekpjdfgpggcnaaNatG
namespace Go.Proofs.Ytekpjdfgpggcnaa
set_option linter.unusedSimpArgs false
set_option linter.unusedVariables false
open Go.RowKit
open Nt
attribute [local go_sem] by32 wrap_w32

theorem sub_digit {a b d w w' : Nat} {s : Int} (hs : s = (a : Int) - (b : Int) - (w : Int)) (ha : a < W32) (hb : b < W32) (hw : w ≤ 1) (h : (s < 0 ∧ d = (s + 4294967296).toNat ∧ w' = 1) ∨ (0 ≤ s ∧ d = s.toNat ∧ w' = 0)) : d + b + w = a + w' * W32 ∧ d < W32 := by
  unfold W32 at *
  omega
theorem d32_int {s : Int} {d : Nat} (h : s = (d : Int)) (hd : d < W32) : d32 (w32 s) = d := by rw [h, w32_nat hd]
theorem take_bd {c q : Nat} {y : BitVec 32} (hc : c ≤ q - 1) (hq : q ≤ W32) : 0 ≤ (q : Int) * n32 y ∧ (q : Int) * n32 y ≤ 18446744069414584320 ∧ (c : Int) + (q : Int) * n32 y ≤ 18446744073709551615 ∧ (c : Int) + (q : Int) * n32 y = ((c + q * d32 y : Nat) : Int) ∧ (c + q * d32 y) / W32 ≤ q - 1 := by
  have hy := d32_lt y
  have e : (q : Int) * n32 y = ((q * d32 y : Nat) : Int) := by rw [n32_d]; simp
  have h1 : q * d32 y ≤ q * (W32 - 1) := Nat.mul_le_mul_left _ (by omega)
  rw [e]
  unfold W32 at *
  refine ⟨by omega, by omega, ?_, rfl, ?_⟩
  · rcases Nat.eq_zero_or_pos q with h | h <;> omega
  · rcases Nat.eq_zero_or_pos q with h | h
    · subst h; omega
    · omega

theorem n32_mod (s : Nat) : n32 (w32 (s : Int)) = ((s % W32 : Nat) : Int) := congrArg Int.ofNat (d32_w32 s)
theorem take_next {zs0 zs ys : List (BitVec 32)} {N j k c b q w' : Nat} {s : Int} (hz : zs.length = N) (hjk : j + k < N) (hun : ∀ i, i < j ∨ j + k ≤ i → dig d32 zs i = dig d32 zs0 i)
    (hv : vf W32 (fun i => dig d32 zs (j + i)) k + q * vf W32 (dig d32 ys) k = vf W32 (fun i => dig d32 zs0 (j + i)) k + (c + b) * W32 ^ k)
    (hd : d32 (w32 s) + (c + q * d32 (gat ys k)) % W32 + b = d32 (gat zs (j + k)) + w' * W32) :
    (∀ i, i < j ∨ j + (k + 1) ≤ i → dig d32 (zs.set (j + k) (w32 s)) i = dig d32 zs0 i) ∧
    vf W32 (fun i => dig d32 (zs.set (j + k) (w32 s)) (j + i)) (k + 1) + q * vf W32 (dig d32 ys) (k + 1) = vf W32 (fun i => dig d32 zs0 (j + i)) (k + 1) + ((c + q * d32 (gat ys k)) / W32 + w') * W32 ^ (k + 1) := by
  refine ⟨fun i hi => by rw [dig_set (by omega), if_neg (by omega)]; exact hun i (by omega), take_step (w := b) ?_ ?_⟩
  · rw [← hv]
    congr 1
    exact vf_congr fun i hi => by rw [dig_set (by omega), if_neg (by omega)]
  · rw [dig_set (by omega), if_pos rfl, ← hun (j + k) (.inr (Nat.le_refl _))]
    exact hd
/-- what take leaves -/
structure Taken (w : World) (B g cap : Nat) (zs ys : List (BitVec 32)) (j m q : Nat) (e : Ending) (w' : World) : Prop where
  ex : ∃ (zs' : List (BitVec 32)) (cw : Nat), e = .returned (.bool (decide (dig d32 zs (j + m) < cw))) ∧ zs'.length = zs.length ∧ Own w' B 75 (some ⟨g, 0, none⟩) cap (zs'.map by32) ∧ (∀ i, i < j ∨ j + m < i → dig d32 zs' i = dig d32 zs i) ∧
    vf W32 (fun i => dig d32 zs' (j + i)) m + q * vf W32 (dig d32 ys) m = vf W32 (fun i => dig d32 zs (j + i)) m + cw * W32 ^ m ∧ (cw ≤ dig d32 zs (j + m) → dig d32 zs' (j + m) = dig d32 zs (j + m) - cw) ∧ (cw = dig d32 zs (j + m) + 1 → dig d32 zs' (j + m) = W32 - 1)
  upd : Upd (only g) w w'

set_option maxRecDepth 100000 in
set_option maxHeartbeats 2000000 in
theorem take_any (B g cap j m cu cv q : Nat) (Y : Option Addr) (zs0 ys : List (BitVec 32)) (w : World) (hO0 : Own w B 75 (some ⟨g, 0, none⟩) cap (zs0.map by32)) (hjm : j + m < zs0.length) (hl : zs0.length ≤ 2000000) (hym : ys.length = m) (hS : Sl by32 w Y ys) (hY : ∀ k, inA Y k → k ≠ g) (hq : q ≤ W32) :
    Calls Try.prog 67 #[.slice (some ⟨g, j, none⟩) (m + 1) cu, .slice Y m cv, .int .u64 q] w (Taken w B g cap zs0 ys j m q) := by
  obtain ⟨N, hN⟩ : ∃ N, zs0.length = N := ⟨_, rfl⟩
  rw [hN] at hjm hl
  have HN := hide hN
  have HM := hide hym
  have HS := hide hS
  have HY := hide hY
  have Hq := hide hq
  have hq' : (q : Int) ≤ 4294967296 := by unfold W32 at hq; omega
  clear hN hym hS hY hq
  go_enter Try.func67, Try.ntmps67
  go_wp2
  go_loopw [15, 7, 8] (fun i cr bo wr => ∃ (k c b : Nat) (zs : List (BitVec 32)), k ≤ m ∧ i = .int .i64 k ∧ cr = .int .u64 c ∧ bo = .int .i64 b ∧ c ≤ q - 1 ∧ b ≤ 1 ∧ zs.length = N ∧ Own wr B 75 (some ⟨g, 0, none⟩) cap (zs.map by32) ∧ (∀ i, i < j ∨ j + k ≤ i → dig d32 zs i = dig d32 zs0 i) ∧ vf W32 (fun i => dig d32 zs (j + i)) k + q * vf W32 (dig d32 ys) k = vf W32 (fun i => dig d32 zs0 (j + i)) k + (c + b) * W32 ^ k ∧ Upd (only g) w wr) (fun i _ _ _ => m - (intOf i).toNat)
  case atStart => exact ⟨0, 0, 0, zs0, Nat.zero_le _, rfl, rfl, rfl, Nat.zero_le _, Nat.zero_le _, HN.out, hO0, fun _ _ => rfl, by simp [vf], Upd.refl _ _⟩
  case round =>
    clear hO0
    obtain ⟨k, c, b, zs, hk, rfl, rfl, rfl, hc, hb, hzl, hO, hz, hv, hU⟩ := hrel
    have Hzl := hide hzl
    have Hv := hide hv
    have Hz := hide hz
    clear hzl hv hz
    have hcq : (c : Int) ≤ 4294967296 := by omega
    by_cases hlt : k < m
    · obtain ⟨t1, t2, t3, t4, t5⟩ := take_bd (y := gat ys k) hc Hq.out
      have H4 := hide t4
      obtain ⟨u1, u2⟩ := n32_bd (gat zs (j + k))
      obtain ⟨s1, s2⟩ := n32_bd (w32 ((c : Int) + (q : Int) * n32 (gat ys k)))
      obtain ⟨y1, y2⟩ := n32_bd (gat ys k)
      obtain ⟨b2, o2, hYe, hbl2, hcells⟩ := (HS.out.upd hU (fun b o h => by rw [h] at HY; exact HY.out b (by simp [inA]))).open_ (by rw [HM.out]; omega)
      have hcell := hcells k (by rw [HM.out]; omega)
      have hcz := hO.row.cell (i := j + k) (by rw [Hzl.out]; omega)
      clear hcells t4
      subst hYe
      by_cases hd : n32 (gat zs (j + k)) - n32 (w32 ((c : Int) + (q : Int) * n32 (gat ys k))) - (b : Int) < 0
      · go_wp2_with (refine wpList_store_own by32 one32 (w32 (n32 (gat zs (j + k)) - n32 (w32 ((c : Int) + (q : Int) * n32 (gat ys k))) - (b : Int) + 4294967296)) rfl rfl Try.n_sz32 rfl rfl hO (by rw [Hzl.out]; omega) ?_; intro w3 hO3 hU3)
        have hsd := sub_digit (a := d32 (gat zs (j + k))) (b := (c + q * d32 (gat ys k)) % W32) (w := b) (s := n32 (gat zs (j + k)) - n32 (w32 ((c : Int) + (q : Int) * n32 (gat ys k))) - (b : Int)) (d := (n32 (gat zs (j + k)) - n32 (w32 ((c : Int) + (q : Int) * n32 (gat ys k))) - (b : Int) + 4294967296).toNat) (w' := 1) (by rw [H4.out, n32_mod]; rfl) (d32_lt _) (Nat.mod_lt _ (by decide)) hb (.inl ⟨hd, rfl, rfl⟩)
        have hdd := d32_int (s := n32 (gat zs (j + k)) - n32 (w32 ((c : Int) + (q : Int) * n32 (gat ys k))) - (b : Int) + 4294967296) (d := (n32 (gat zs (j + k)) - n32 (w32 ((c : Int) + (q : Int) * n32 (gat ys k))) - (b : Int) + 4294967296).toNat) (by omega) hsd.2
        have htn := take_next (w' := 1) (s := n32 (gat zs (j + k)) - n32 (w32 ((c : Int) + (q : Int) * n32 (gat ys k))) - (b : Int) + 4294967296) Hzl.out (by omega) Hz.out Hv.out (by rw [hdd]; exact hsd.1)
        go_roundw
        case rel => exact ⟨k + 1, (c + q * d32 (gat ys k)) / W32, 1, _, by omega, by go_num, by rw [H4.out]; rfl, rfl, t5, by omega, by rw [List.length_set]; exact Hzl.out, hO3, htn.1, htn.2, hU.trans hU3⟩
        case measure => simp [intOf]; omega
      · have hd' : 0 ≤ n32 (gat zs (j + k)) - n32 (w32 ((c : Int) + (q : Int) * n32 (gat ys k))) - (b : Int) := by omega
        go_wp2_with (refine wpList_store_own by32 one32 (w32 (n32 (gat zs (j + k)) - n32 (w32 ((c : Int) + (q : Int) * n32 (gat ys k))) - (b : Int))) rfl rfl Try.n_sz32 rfl rfl hO (by rw [Hzl.out]; omega) ?_; intro w3 hO3 hU3)
        have hsd := sub_digit (a := d32 (gat zs (j + k))) (b := (c + q * d32 (gat ys k)) % W32) (w := b) (s := n32 (gat zs (j + k)) - n32 (w32 ((c : Int) + (q : Int) * n32 (gat ys k))) - (b : Int)) (d := (n32 (gat zs (j + k)) - n32 (w32 ((c : Int) + (q : Int) * n32 (gat ys k))) - (b : Int)).toNat) (w' := 0) (by rw [H4.out, n32_mod]; rfl) (d32_lt _) (Nat.mod_lt _ (by decide)) hb (.inr ⟨hd', rfl, rfl⟩)
        have hdd := d32_int (s := n32 (gat zs (j + k)) - n32 (w32 ((c : Int) + (q : Int) * n32 (gat ys k))) - (b : Int)) (d := (n32 (gat zs (j + k)) - n32 (w32 ((c : Int) + (q : Int) * n32 (gat ys k))) - (b : Int)).toNat) (by omega) hsd.2
        have htn := take_next (w' := 0) (s := n32 (gat zs (j + k)) - n32 (w32 ((c : Int) + (q : Int) * n32 (gat ys k))) - (b : Int)) Hzl.out (by omega) Hz.out Hv.out (by rw [hdd]; exact hsd.1)
        go_roundw
        case rel => exact ⟨k + 1, (c + q * d32 (gat ys k)) / W32, 0, _, by omega, by go_num, by rw [H4.out]; rfl, rfl, t5, by omega, by rw [List.length_set]; exact Hzl.out, hO3, htn.1, htn.2, hU.trans hU3⟩
        case measure => simp [intOf]; omega
    · obtain rfl : k = m := by omega
      obtain ⟨u1, u2⟩ := n32_bd (gat zs (j + k))
      have hcz := hO.row.cell (i := j + k) (by rw [Hzl.out]; omega)
      go_wp2_with (refine wpList_store_own by32 one32 (w32 (n32 (gat zs (j + k)) - (c : Int) - (b : Int))) rfl rfl Try.n_sz32 rfl rfl hO (by rw [Hzl.out]; omega) ?_; intro w3 hO3 hU3)
      go_ret
      have hun := Hz.out (j + k) (.inr (Nat.le_refl _))
      have hu := d32_lt (gat zs (j + k))
      refine ⟨⟨_, c + b, ?_, by rw [List.length_set, Hzl.out, HN.out], hO3, fun i hi => ?_, ?_, ?_, ?_⟩, hU.trans hU3⟩
      · have hb2 : decide (n32 (gat zs (j + k)) - (c : Int) - (b : Int) < 0) = decide (dig d32 zs0 (j + k) < c + b) := by
          rw [← hun]
          show decide (((d32 (gat zs (j + k)) : Nat) : Int) - (c : Int) - (b : Int) < 0) = decide (d32 (gat zs (j + k)) < c + b)
          rw [Bool.eq_iff_iff]; simp only [decide_eq_true_eq]; omega
        rw [← hb2]
        rfl
      · rw [dig_set (by rw [Hzl.out]; omega), if_neg (by omega)]; exact Hz.out i (by omega)
      · rw [← Hv.out]
        congr 1
        exact vf_congr fun i hi => by rw [dig_set (by rw [Hzl.out]; omega), if_neg (by omega)]
      · intro h
        rw [dig_set (by rw [Hzl.out]; omega), if_pos rfl, ← hun]
        rw [← hun] at h
        have h : c + b ≤ d32 (gat zs (j + k)) := h
        exact d32_int (d := d32 (gat zs (j + k)) - (c + b)) (by rw [n32_d]; omega) (by omega)
      · intro h
        rw [dig_set (by rw [Hzl.out]; omega), if_pos rfl]
        rw [← hun] at h
        have h : c + b = d32 (gat zs (j + k)) + 1 := h
        have e : n32 (gat zs (j + k)) - (c : Int) - (b : Int) = -1 := by rw [n32_d]; omega
        rw [e]; rfl
end Go.Proofs.Ytekpjdfgpggcnaa
