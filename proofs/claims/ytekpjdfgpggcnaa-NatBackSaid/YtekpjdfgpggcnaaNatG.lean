/- Products of numbers, walked: Mul. -/
import Derived.Test.YtekpjdfgpggcnaaNatF
namespace Go.Proofs.Ytekpjdfgpggcnaa
set_option linter.unusedSimpArgs false
set_option linter.unusedVariables false
open Go.RowKit
open Nt
attribute [local go_sem] by32 wrap_w32

theorem prod_cast {c : Nat} {x y z : BitVec 32} : (c : Int) + (n32 x * n32 y + n32 z) = ((c + (d32 x * d32 y + d32 z) : Nat) : Int) := by
  rw [n32_d, n32_d, n32_d]; simp
theorem prod_bd (x y : BitVec 32) : 0 ≤ n32 x * n32 y ∧ n32 x * n32 y ≤ 18446744065119617025 := by
  obtain ⟨hx1, hx2⟩ := n32_bd x
  obtain ⟨hy1, hy2⟩ := n32_bd y
  refine ⟨Int.mul_nonneg hx1 hy1, ?_⟩
  have h1 : n32 x * n32 y ≤ 4294967295 * n32 y := Int.mul_le_mul_of_nonneg_right hx2 hy1
  omega
theorem dig_set_fn {zs : List (BitVec 32)} {j : Nat} {s : Nat} (hj : j < zs.length) : dig d32 (zs.set j (w32 s)) = fun i => if i = j then s % W32 else dig d32 zs i := by
  funext i; rw [dig_set hj, d32_w32]
theorem mul_next {xs ys zs : List (BitVec 32)} {N i k c V : Nat} (hz : zs.length = N) (hN : i + k < N) (h : vf W32 (dig d32 zs) N + c * W32 ^ (i + k) = V + d32 (gat xs i) * W32 ^ i * vf W32 (dig d32 ys) k) :
    vf W32 (dig d32 (zs.set (i + k) (w32 ((c : Int) + (n32 (gat xs i) * n32 (gat ys k) + n32 (gat zs (i + k))))))) N + (c + (d32 (gat xs i) * d32 (gat ys k) + d32 (gat zs (i + k)))) / W32 * W32 ^ (i + (k + 1)) = V + d32 (gat xs i) * W32 ^ i * vf W32 (dig d32 ys) (k + 1) := by
  rw [prod_cast]
  exact mul_step (b := dig d32 ys) (o := dig d32 zs) hN h (dig_set_fn (by omega))
theorem mul_row {xs ys zs : List (BitVec 32)} {N i lb c V : Nat} (hz : zs.length = N) (hN : i + lb < N) (hc : c < W32) (h0 : dig d32 zs (i + lb) = 0) (hV : V = vf W32 (dig d32 xs) i * vf W32 (dig d32 ys) lb)
    (h : vf W32 (dig d32 zs) N + c * W32 ^ (i + lb) = V + d32 (gat xs i) * W32 ^ i * vf W32 (dig d32 ys) lb) : vf W32 (dig d32 (zs.set (i + lb) (w32 (c : Int)))) N = vf W32 (dig d32 xs) (i + 1) * vf W32 (dig d32 ys) lb := by
  have hs := vf_set (β := W32) (f := dig d32 zs) (v := c) hN
  rw [h0, Nat.zero_mul, Nat.add_zero] at hs
  rw [dig_set_fn (by omega), Nat.mod_eq_of_lt hc, hs, h, hV, vf_succ, Nat.add_mul]
  rfl
set_option maxRecDepth 100000 in
set_option maxHeartbeats 1000000 in
theorem mul_any (va vb : Value) (a b k : Nat) (w : World) (hVa : NatV w va a) (hVb : NatV w vb b) (hFa : Fit k a) (hFb : Fit k b) (hk : k ≤ 1000000) :
    Calls Try.prog 32 #[va, vb] w (RetN w (a * b)) := by
  obtain ⟨A, la, ca, xs, rfl, hlx, hca, hma, hSa, hTa, hna⟩ := hVa.open_
  obtain ⟨B, lb, cb, ys, rfl, hly, hcb, hmb, hSb, hTb, hnb⟩ := hVb.open_
  have hla : la ≤ k := hlx ▸ Fit.len (hlx ▸ hTa) hna hFa
  have hlb : lb ≤ k := hly ▸ Fit.len (hly ▸ hTb) hnb hFb
  have hma' : ca ≤ 9223372036854775807 := by unfold maxLen at hma; omega
  have HSa := hide hSa
  have HSb := hide hSb
  have Hna := hide hna
  have Hnb := hide hnb
  have HLa := hide hlx
  have HLb := hide hly
  obtain ⟨N, hN⟩ : ∃ N, N = la + lb := ⟨_, rfl⟩
  have HN := hide hN
  have hNi : (la : Int) + (lb : Int) = (N : Int) := by omega
  have hN2 : N ≤ 2000000 := by omega
  have HNi := hide hNi
  clear hVa hVb hTa hTb hSa hSb hna hnb hFa hFb hlx hly hN hNi
  go_enter Try.func32, Try.ntmps32
  go_wp2_with (at_make; go_must (refine wpList_mk _ _ _ Try.n_el32 rfl rfl N rfl rfl HNi.out HNi.out (by omega) (by unfold maxLen; omega) by32 rfl rfl (B := w.heap.size + 1 + 1 + 1) (by simp) ?_); intro g w2 hO hg hU; have hB1 : Box w2 w.heap.size 26 (.slice A la ca) := (by repeat (first | (with_reducible refine Box.new_at ?_; (simp; done)) | (with_reducible assumption) | (with_reducible refine Box.alloc ?_ _) | (with_reducible refine Box.drew ?_) | (with_reducible refine Box.ext ?_ (by with_reducible assumption)))); have hB2 : Box w2 (w.heap.size + 1) 26 (.slice B lb cb) := (by repeat (first | (with_reducible refine Box.new_at ?_; (simp; done)) | (with_reducible assumption) | (with_reducible refine Box.alloc ?_ _) | (with_reducible refine Box.drew ?_) | (with_reducible refine Box.ext ?_ (by with_reducible assumption)))); have hB3 : Box w2 (w.heap.size + 1 + 1) 26 (.slice none 0 0) := (by repeat (first | (with_reducible refine Box.new_at ?_; (simp; done)) | (with_reducible assumption) | (with_reducible refine Box.alloc ?_ _) | (with_reducible refine Box.drew ?_) | (with_reducible refine Box.ext ?_ (by with_reducible assumption)))); have hE2 : Ext w w2 := (by repeat (first | (with_reducible exact Upd.refl _ _) | (with_reducible assumption) | (refine Upd.setCell ?_ (.inr (by first | exact Nat.le_refl _ | (dsimp only; omega) | (simp; done) | (simp; omega))) _) | (with_reducible refine Upd.alloc ?_ _) | (with_reducible refine Upd.drew ?_) | (with_reducible refine Upd.trans ?_ (by with_reducible assumption)))); clear hU; have c1 := hB1.cell; have c2 := hB2.cell)
  obtain rfl : g = w.heap.size + 1 + 1 + 1 := by rw [hg]; simp
  clear hg c1 c2
  go_loopw [22] (fun i wr => ∃ (j : Nat) (zs : List (BitVec 32)), j ≤ la ∧ i = .int .i64 j ∧ zs.length = N ∧ Own wr (w.heap.size + 1 + 1 + 1) 75 (some ⟨w.heap.size + 1 + 1 + 1, 0, none⟩) N (zs.map by32) ∧ vf W32 (dig d32 zs) N = vf W32 (dig d32 xs) j * vf W32 (dig d32 ys) lb ∧ (∀ q, j + lb ≤ q → dig d32 zs q = 0) ∧ Box wr w.heap.size 26 (.slice A la ca) ∧ Box wr (w.heap.size + 1) 26 (.slice B lb cb) ∧ Box wr (w.heap.size + 1 + 1) 26 (.slice none 0 0) ∧ Ext w wr) (fun i _ => la - (intOf i).toNat)
  case atStart => exact ⟨0, _, Nat.zero_le _, rfl, List.length_replicate, hO, by rw [vf_zeros (f0 := fun _ => 0)]; show 0 = 0 * _; rw [Nat.zero_mul], fun q _ => dig_zeros _ _, hB1, hB2, hB3, hE2⟩
  case round =>
    clear hO hB1 hB2 hB3 hE2
    obtain ⟨i, zs, hi, rfl, hzl, hO, hv, hz, hB1, hB2, hB3, hE⟩ := hrel
    have Hzl := hide hzl
    have Hv := hide hv
    have Hz := hide hz
    clear hzl hv hz
    have c1 := hB1.cell
    have c2 := hB2.cell
    by_cases hil : i < la
    · obtain ⟨hx1, hx2⟩ := n32_bd (gat xs i)
      obtain ⟨b1, o1, rfl, hbl1, hcells⟩ := (HSa.out.ext hE).open_ (by rw [HLa.out]; omega)
      have hcell := hcells i (by rw [HLa.out]; omega)
      clear hcells
      have hd : decide ((i : Int) < (la : Int)) = true := decide_eq_true (by omega)
      obtain ⟨wo, rfl⟩ : ∃ wo : World, wo = wr := ⟨_, rfl⟩
      go_wp2_with fail
      obtain ⟨V, hV⟩ : ∃ V, V = vf W32 (dig d32 zs) N := ⟨_, rfl⟩
      have HV := hide hV
      go_loopw [30, 8] (fun q cr wr => ∃ (j cy : Nat) (zs : List (BitVec 32)), j ≤ lb ∧ q = .int .i64 j ∧ cr = .int .u64 (cy : Nat) ∧ cy < W32 ∧ zs.length = N ∧ Own wr (w.heap.size + 1 + 1 + 1) 75 (some ⟨w.heap.size + 1 + 1 + 1, 0, none⟩) N (zs.map by32) ∧ vf W32 (dig d32 zs) N + cy * W32 ^ (i + j) = V + d32 (gat xs i) * W32 ^ i * vf W32 (dig d32 ys) j ∧ (∀ q, i + lb ≤ q → dig d32 zs q = 0) ∧ Box wr w.heap.size 26 (.slice (some ⟨b1, o1, none⟩) la ca) ∧ Box wr (w.heap.size + 1) 26 (.slice B lb cb) ∧ Box wr (w.heap.size + 1 + 1) 26 (.slice none 0 0) ∧ Ext w wr) (fun i _ _ => lb - (intOf i).toNat)
      case atStart => exact ⟨0, 0, zs, Nat.zero_le _, rfl, rfl, by decide, Hzl.out, hO, by rw [← hV]; simp [vf], Hz.out, hB1, hB2, hB3, hE⟩
      case round =>
        clear hO hB1 hB2 hB3 hE c1 c2 hcell hV hbl1
        have Hv0 := Hv
        have HVz : Hid (V = vf W32 (dig d32 xs) i * vf W32 (dig d32 ys) lb) := hide (HV.out.trans Hv0.out)
        clear Hv Hv0 HV Hzl Hz
        obtain ⟨j, cy, zs, hj, rfl, rfl, hcy, hzl, hO, hv, hz, hB1, hB2, hB3, hE⟩ := hrel
        have hcy' : (cy : Int) ≤ 4294967295 := by unfold W32 at hcy; omega
        have Hcy := hide hcy
        have Hzl := hide hzl
        have Hv := hide hv
        have Hz := hide hz
        clear hzl hv hz hcy
        have c1 := hB1.cell
        have c2 := hB2.cell
        by_cases hjl : j < lb
        · obtain ⟨hp1, hp2⟩ := prod_bd (gat xs i) (gat ys j)
          obtain ⟨hy1, hy2⟩ := n32_bd (gat ys j)
          obtain ⟨hz1, hz2⟩ := n32_bd (gat zs (i + j))
          obtain ⟨b2, o2, rfl, hbl2, hcells⟩ := (HSb.out.ext hE).open_ (by rw [HLb.out]; omega)
          have hcell2 := hcells j (by rw [HLb.out]; omega)
          clear hcells
          have hij : i + j < N := by have := HN.out; omega
          have hcz := hO.row.cell (i := i + j) (by rw [Hzl.out]; omega)
          go_wp2_with (refine wpList_store_own by32 one32 (w32 ((cy : Int) + (n32 (gat xs i) * n32 (gat ys j) + n32 (gat zs (i + j))))) rfl rfl Try.n_sz32 rfl rfl hO (by rw [Hzl.out]; omega) ?_; intro w3 hO3 hU3)
          have hn1 : ∀ g, g < w.heap.size + 1 + 1 + 1 → ¬ only (w.heap.size + 1 + 1 + 1) g := fun g hg h => by unfold only at h; omega
          go_roundw
          case rel => exact ⟨j + 1, (cy + (d32 (gat xs i) * d32 (gat ys j) + d32 (gat zs (i + j)))) / W32, _, by omega, by go_num, by rw [prod_cast]; rfl, mul_carry (by decide) Hcy.out (d32_lt _) (d32_lt _) (d32_lt _), by rw [List.length_set]; exact Hzl.out, hO3, mul_next Hzl.out hij Hv.out, fun q hq => by rw [dig_set (by rw [Hzl.out]; omega), if_neg (by omega)]; exact Hz.out q hq, hB1.upd hU3 (hn1 _ (by omega)), hB2.upd hU3 (hn1 _ (by omega)), hB3.upd hU3 (hn1 _ (by omega)), Upd.fresh hU3 hE (fun i hi => by unfold only at hi; omega)⟩
          case measure => simp [intOf]; omega
        · obtain rfl : j = lb := by omega
          have hij : i + j < N := by have := HN.out; omega
          go_wp2_with (refine wpList_store_own by32 one32 (w32 (cy : Int)) rfl rfl Try.n_sz32 rfl rfl hO (by rw [Hzl.out]; omega) ?_; intro w3 hO3 hU3)
          have hn1 : ∀ g, g < w.heap.size + 1 + 1 + 1 → ¬ only (w.heap.size + 1 + 1 + 1) g := fun g hg h => by unfold only at h; omega
          go_roundw
          case rel => exact ⟨i + 1, _, by omega, by go_num, by rw [List.length_set]; exact Hzl.out, hO3, mul_row Hzl.out hij Hcy.out (Hz.out _ (Nat.le_refl _)) HVz.out Hv.out, fun q hq => by rw [dig_set (by rw [Hzl.out]; omega), if_neg (by omega)]; exact Hz.out q (by omega), hB1.upd hU3 (hn1 _ (by omega)), hB2.upd hU3 (hn1 _ (by omega)), hB3.upd hU3 (hn1 _ (by omega)), Upd.fresh hU3 hE (fun i hi => by unfold only at hi; omega)⟩
          case measure => simp [intOf]; omega
    · obtain rfl : i = la := by omega
      go_wp2_with (go_at_call 54; refine (trim_any _ N N zs _ Hzl.out (Nat.le_refl _) (by unfold maxLen; omega) hO.sl).mono ?_; rintro e w4 ⟨A4, l4, c4, rfl, hV4, hU4⟩; have hB5 := hB3.ext hU4; have c5 := hB5.cell; have f5 := hB5.frozen)
      exact bodyPost_ret (v := .agg #[.slice A4 l4 c4]) (by simp [results, Try.results32, go_sem, c5]) rfl ⟨_, _, _, rfl, (hV4.of_eq (by unfold numOf; rw [Hzl.out, Hv.out, ← Hna.out, ← Hnb.out]; unfold numOf; rw [HLa.out, HLb.out])).far c5, (by repeat (first | (with_reducible exact Upd.refl _ _) | (with_reducible assumption) | (refine Upd.setCell ?_ (.inr (by first | exact Nat.le_refl _ | (dsimp only; omega) | (simp; done) | (simp; omega))) _) | (with_reducible refine Upd.alloc ?_ _) | (with_reducible refine Upd.drew ?_) | (with_reducible refine Upd.trans ?_ (by with_reducible assumption))))⟩
end Go.Proofs.Ytekpjdfgpggcnaa
