/- Differences of numbers, walked: Sub. -/
import Derived.Test.YtekpjdfgpggcnaaNatH
import Derived.Test.YtekpjdfgpggcnaaNatT
namespace Go.Proofs.Ytekpjdfgpggcnaa
set_option linter.unusedSimpArgs false
set_option linter.unusedVariables false
open Go.RowKit
open Nt
attribute [local go_sem] by32 wrap_w32

/-- A number and a truth are handed back. -/
def RetO (w : World) (n : Nat) (t : Bool) (e : Ending) (w' : World) : Prop := ∃ A l c, e = .returned (.tuple #[.agg #[.slice A l c], .bool t]) ∧ NatV w' (.agg #[.slice A l c]) n ∧ Ext w w'
theorem cmpI_neg {a b : Nat} : (cmpI a b < 0) = (a < b) := by
  unfold cmpI
  split
  · simp [*]
  · split <;> simp [*]
theorem cmpI_bd (a b : Nat) : -1 ≤ cmpI a b ∧ cmpI a b ≤ 1 := by
  unfold cmpI
  split
  · omega
  · split <;> omega

theorem sub_next {xs ys zs : List (BitVec 32)} {N k b w' : Nat} {s : Int} (hz : zs.length = N) (hk : k < N) (hv : vf W32 (dig d32 zs) k + vf W32 (dig d32 ys) k = vf W32 (dig d32 xs) k + b * W32 ^ k)
    (hd : d32 (w32 s) + dig d32 ys k + b = dig d32 xs k + w' * W32) :
    vf W32 (dig d32 (zs.set k (w32 s))) (k + 1) + vf W32 (dig d32 ys) (k + 1) = vf W32 (dig d32 xs) (k + 1) + w' * W32 ^ (k + 1) := by
  refine sub_step (w := b) ?_ ?_
  · rw [← hv]
    congr 1
    exact vf_congr fun i hi => by rw [dig_set (by omega), if_neg (by omega)]
  · rw [dig_set (by omega), if_pos rfl]; exact hd

theorem sub_val {xs ys zs : List (BitVec 32)} {la lb a b w : Nat} (hz : zs.length = la) (hx : xs.length = la) (hy : ys.length = lb) (hle : lb ≤ la) (ha : numOf W32 d32 xs = a) (hb : numOf W32 d32 ys = b) (hv : vf W32 (dig d32 zs) la + vf W32 (dig d32 ys) la = vf W32 (dig d32 xs) la + w * W32 ^ la) (hab : b ≤ a) :
    numOf W32 d32 zs = a - b := by
  have h1 : vf W32 (dig d32 ys) la = b := by rw [← hb]; exact vf_out rfl (by omega)
  have h2 : vf W32 (dig d32 xs) la = a := by rw [← ha]; unfold numOf; rw [hx]
  have hw := sub_end hv (fun i _ => d32_lt _) (by omega)
  subst hw
  unfold numOf
  rw [hz]
  omega
set_option maxRecDepth 100000 in
set_option maxHeartbeats 2000000 in
theorem sub_any (va vb : Value) (a b k : Nat) (w : World) (hVa : NatV w va a) (hVb : NatV w vb b) (hFa : Fit k a) (hFb : Fit k b) (hk : k ≤ 1000000) :
    Calls Try.prog 37 #[va, vb] w (if a < b then RetO w 0 false else RetO w (a - b) true) := by
  obtain ⟨A, la, ca, xs, rfl, hlx, hca, hma, hSa, hTa, hna⟩ := hVa.open_
  obtain ⟨B, lb, cb, ys, rfl, hly, hcb, hmb, hSb, hTb, hnb⟩ := hVb.open_
  have hla : la ≤ k := hlx ▸ Fit.len (hlx ▸ hTa) hna hFa
  have hlb : lb ≤ k := hly ▸ Fit.len (hly ▸ hTb) hnb hFb
  have hcb2 := cmpI_bd a b
  by_cases hab : a < b
  · rw [if_pos hab]
    have hcn : cmpI a b < 0 := by rw [cmpI_neg]; exact hab
    clear hTa hTb hSa hSb hna hnb hlx hly hcb2
    go_enter Try.func37, Try.ntmps37
    go_wp2_with (go_at_call 24; refine (cmp_any _ _ a b k _ (hVa.ext (by repeat (first | (with_reducible exact Upd.refl _ _) | (with_reducible assumption) | (refine Upd.setCell ?_ (.inr (by first | exact Nat.le_refl _ | (dsimp only; omega) | (simp; done) | (simp; omega))) _) | (with_reducible refine Upd.alloc ?_ _) | (with_reducible refine Upd.drew ?_) | (with_reducible refine Upd.trans ?_ (by with_reducible assumption))))) (hVb.ext (by repeat (first | (with_reducible exact Upd.refl _ _) | (with_reducible assumption) | (refine Upd.setCell ?_ (.inr (by first | exact Nat.le_refl _ | (dsimp only; omega) | (simp; done) | (simp; omega))) _) | (with_reducible refine Upd.alloc ?_ _) | (with_reducible refine Upd.drew ?_) | (with_reducible refine Upd.trans ?_ (by with_reducible assumption))))) hFa hFb hk).mono ?_; rintro e w4 ⟨rfl, hU⟩; have hB3 : Box w4 (w.heap.size + 1 + 1) 26 (.slice none 0 0) := (by repeat (first | (with_reducible refine Box.new_at ?_; (simp; done)) | (with_reducible assumption) | (with_reducible refine Box.alloc ?_ _) | (with_reducible refine Box.drew ?_) | (with_reducible refine Box.ext ?_ (by with_reducible assumption)))); have c3 := hB3.cell; have f3 := hB3.frozen)
    exact bodyPost_ret (v := .tuple #[.agg #[.slice none 0 0], .bool false]) (by simp [results, Try.results37, go_sem, c3]) rfl ⟨_, _, _, rfl, NatV.nil _, (by repeat (first | (with_reducible exact Upd.refl _ _) | (with_reducible assumption) | (refine Upd.setCell ?_ (.inr (by first | exact Nat.le_refl _ | (dsimp only; omega) | (simp; done) | (simp; omega))) _) | (with_reducible refine Upd.alloc ?_ _) | (with_reducible refine Upd.drew ?_) | (with_reducible refine Upd.trans ?_ (by with_reducible assumption))))⟩
  · rw [if_neg hab]
    have hcn : 0 ≤ cmpI a b := by
      rcases Int.lt_or_le (cmpI a b) 0 with h | h
      · rw [cmpI_neg] at h; exact absurd h hab
      · exact h
    have hle : lb ≤ la := by
      rcases Nat.lt_or_ge la lb with h | h
      · have := cmp_len (xs := xs) (ys := ys) (hly ▸ hTb) (by omega)
        rw [hna, hnb] at this; omega
      · exact h
    have HSa := hide hSa
    have HSb := hide hSb
    have HLa := hide hlx
    have HLb := hide hly
    have Hna := hide hna
    have Hnb := hide hnb
    clear hTa hTb hSa hSb hna hnb hlx hly hcb2
    go_enter Try.func37, Try.ntmps37
    go_wp2_with (first
      | (go_at_call 24; refine (cmp_any _ _ a b k _ (hVa.ext (by repeat (first | (with_reducible exact Upd.refl _ _) | (with_reducible assumption) | (refine Upd.setCell ?_ (.inr (by first | exact Nat.le_refl _ | (dsimp only; omega) | (simp; done) | (simp; omega))) _) | (with_reducible refine Upd.alloc ?_ _) | (with_reducible refine Upd.drew ?_) | (with_reducible refine Upd.trans ?_ (by with_reducible assumption))))) (hVb.ext (by repeat (first | (with_reducible exact Upd.refl _ _) | (with_reducible assumption) | (refine Upd.setCell ?_ (.inr (by first | exact Nat.le_refl _ | (dsimp only; omega) | (simp; done) | (simp; omega))) _) | (with_reducible refine Upd.alloc ?_ _) | (with_reducible refine Upd.drew ?_) | (with_reducible refine Upd.trans ?_ (by with_reducible assumption))))) hFa hFb hk).mono ?_; rintro e w4 ⟨rfl, hU⟩; have hB1 : Box w4 w.heap.size 26 (.slice A la ca) := (by repeat (first | (with_reducible refine Box.new_at ?_; (simp; done)) | (with_reducible assumption) | (with_reducible refine Box.alloc ?_ _) | (with_reducible refine Box.drew ?_) | (with_reducible refine Box.ext ?_ (by with_reducible assumption)))); have hB2 : Box w4 (w.heap.size + 1) 26 (.slice B lb cb) := (by repeat (first | (with_reducible refine Box.new_at ?_; (simp; done)) | (with_reducible assumption) | (with_reducible refine Box.alloc ?_ _) | (with_reducible refine Box.drew ?_) | (with_reducible refine Box.ext ?_ (by with_reducible assumption)))); have hB3 : Box w4 (w.heap.size + 1 + 1) 26 (.slice none 0 0) := (by repeat (first | (with_reducible refine Box.new_at ?_; (simp; done)) | (with_reducible assumption) | (with_reducible refine Box.alloc ?_ _) | (with_reducible refine Box.drew ?_) | (with_reducible refine Box.ext ?_ (by with_reducible assumption)))); have c1 := hB1.cell; have hE4 : Ext w w4 := (by repeat (first | (with_reducible exact Upd.refl _ _) | (with_reducible assumption) | (refine Upd.setCell ?_ (.inr (by first | exact Nat.le_refl _ | (dsimp only; omega) | (simp; done) | (simp; omega))) _) | (with_reducible refine Upd.alloc ?_ _) | (with_reducible refine Upd.drew ?_) | (with_reducible refine Upd.trans ?_ (by with_reducible assumption)))); clear hU hVa hVb)
      | (at_make; go_must (refine wpList_mk _ _ _ Try.n_el32 rfl rfl la rfl rfl rfl rfl (by omega) (by unfold maxLen; omega) by32 rfl rfl (B := w4.heap.size) (Nat.le_refl _) ?_); intro g w5 hO hg hU5; have hB1' := hB1.ext hU5; have c1' := hB1'.cell))
    subst hg
    have hB2' := hB2.ext hU5
    have hB3' := hB3.ext hU5
    have hE5 := hE4.trans hU5
    have h3 := hB3.lt
    clear c1 c1' hB1 hB2 hB3 hU5 hcn
    go_loopw [23, 7] (fun i bo wr => ∃ (j b : Nat) (zs : List (BitVec 32)), j ≤ la ∧ i = .int .i64 j ∧ bo = .int .i64 b ∧ b ≤ 1 ∧ zs.length = la ∧ Own wr w4.heap.size 75 (some ⟨w4.heap.size, 0, none⟩) la (zs.map by32) ∧ vf W32 (dig d32 zs) j + vf W32 (dig d32 ys) j = vf W32 (dig d32 xs) j + b * W32 ^ j ∧ Box wr w.heap.size 26 (.slice A la ca) ∧ Box wr (w.heap.size + 1) 26 (.slice B lb cb) ∧ Box wr (w.heap.size + 1 + 1) 26 (.slice none 0 0) ∧ Ext w wr) (fun i _ _ => la - (intOf i).toNat)
    case atStart => exact ⟨0, 0, _, Nat.zero_le _, rfl, rfl, Nat.zero_le _, List.length_replicate, hO, by simp [vf], hB1', hB2', hB3', hE5⟩
    case round =>
      clear hO hB1' hB2' hB3' hE5
      obtain ⟨j, b, zs, hj, rfl, rfl, hb, hzl, hO, hv, hB1, hB2, hB3, hE⟩ := hrel
      have Hzl := hide hzl
      have Hv := hide hv
      clear hzl hv
      have c1 := hB1.cell
      have c2 := hB2.cell
      by_cases hj' : j < la
      · obtain ⟨x1, x2⟩ := n32_bd (gat xs j)
        obtain ⟨b1, o1, hAe, hbl1, hcells⟩ := (HSa.out.ext hE).open_ (by rw [HLa.out]; omega)
        have hcell := hcells j (by rw [HLa.out]; omega)
        subst hAe
        clear hcells
        by_cases hjb : j < lb
        · obtain ⟨y1, y2⟩ := n32_bd (gat ys j)
          obtain ⟨b2, o2, hBe, hbl2, hcells⟩ := (HSb.out.ext hE).open_ (by rw [HLb.out]; omega)
          have hcell2 := hcells j (by rw [HLb.out]; omega)
          subst hBe
          clear hcells
          by_cases hd : n32 (gat xs j) - (b : Int) - n32 (gat ys j) < 0
          ·
            go_wp2_with (refine wpList_store_own by32 one32 (w32 (n32 (gat xs j) - (b : Int) - n32 (gat ys j) + 4294967296)) rfl rfl Try.n_sz32 rfl rfl hO (by rw [Hzl.out]; omega) ?_; intro w3 hO3 hU3)
            have hsd := sub_digit (a := d32 (gat xs j)) (b := d32 (gat ys j)) (w := b) (s := n32 (gat xs j) - (b : Int) - n32 (gat ys j)) (d := (n32 (gat xs j) - (b : Int) - n32 (gat ys j) + 4294967296).toNat) (w' := 1) (by rw [n32_d]; rw [n32_d]; omega) (d32_lt _) (d32_lt _) hb (.inl ⟨hd, rfl, rfl⟩)
            have hdd := d32_int (s := n32 (gat xs j) - (b : Int) - n32 (gat ys j) + 4294967296) (d := (n32 (gat xs j) - (b : Int) - n32 (gat ys j) + 4294967296).toNat) (by omega) hsd.2
            have hn1 : ∀ g, g < w.heap.size + 1 + 1 + 1 → g < w4.heap.size := fun g hg => by omega
            go_roundw
            case rel => exact ⟨j + 1, 1, _, by omega, by go_num, rfl, by omega, by rw [List.length_set]; exact Hzl.out, hO3, sub_next Hzl.out hj' Hv.out (by rw [hdd]; exact hsd.1), hB1.upd hU3 (fun h => by unfold only at h; omega), hB2.upd hU3 (fun h => by unfold only at h; omega), hB3.upd hU3 (fun h => by unfold only at h; omega), Upd.fresh hU3 hE (fun i hi => by unfold only at hi; omega)⟩
            case measure => simp [intOf]; omega
          · have hd' : 0 ≤ n32 (gat xs j) - (b : Int) - n32 (gat ys j) := by omega
            go_wp2_with (refine wpList_store_own by32 one32 (w32 (n32 (gat xs j) - (b : Int) - n32 (gat ys j))) rfl rfl Try.n_sz32 rfl rfl hO (by rw [Hzl.out]; omega) ?_; intro w3 hO3 hU3)
            have hsd := sub_digit (a := d32 (gat xs j)) (b := d32 (gat ys j)) (w := b) (s := n32 (gat xs j) - (b : Int) - n32 (gat ys j)) (d := (n32 (gat xs j) - (b : Int) - n32 (gat ys j)).toNat) (w' := 0) (by rw [n32_d]; rw [n32_d]; omega) (d32_lt _) (d32_lt _) hb (.inr ⟨hd', rfl, rfl⟩)
            have hdd := d32_int (s := n32 (gat xs j) - (b : Int) - n32 (gat ys j)) (d := (n32 (gat xs j) - (b : Int) - n32 (gat ys j)).toNat) (by omega) hsd.2
            have hn1 : ∀ g, g < w.heap.size + 1 + 1 + 1 → g < w4.heap.size := fun g hg => by omega
            go_roundw
            case rel => exact ⟨j + 1, 0, _, by omega, by go_num, rfl, by omega, by rw [List.length_set]; exact Hzl.out, hO3, sub_next Hzl.out hj' Hv.out (by rw [hdd]; exact hsd.1), hB1.upd hU3 (fun h => by unfold only at h; omega), hB2.upd hU3 (fun h => by unfold only at h; omega), hB3.upd hU3 (fun h => by unfold only at h; omega), Upd.fresh hU3 hE (fun i hi => by unfold only at hi; omega)⟩
            case measure => simp [intOf]; omega
        · by_cases hd : n32 (gat xs j) - (b : Int) < 0
          ·
            go_wp2_with (refine wpList_store_own by32 one32 (w32 (n32 (gat xs j) - (b : Int) + 4294967296)) rfl rfl Try.n_sz32 rfl rfl hO (by rw [Hzl.out]; omega) ?_; intro w3 hO3 hU3)
            have hsd := sub_digit (a := d32 (gat xs j)) (b := 0) (w := b) (s := n32 (gat xs j) - (b : Int)) (d := (n32 (gat xs j) - (b : Int) + 4294967296).toNat) (w' := 1) (by rw [n32_d]; omega) (d32_lt _) (by decide) hb (.inl ⟨hd, rfl, rfl⟩)
            have hdd := d32_int (s := n32 (gat xs j) - (b : Int) + 4294967296) (d := (n32 (gat xs j) - (b : Int) + 4294967296).toNat) (by omega) hsd.2
            have hn1 : ∀ g, g < w.heap.size + 1 + 1 + 1 → g < w4.heap.size := fun g hg => by omega
            go_roundw
            case rel => exact ⟨j + 1, 1, _, by omega, by go_num, rfl, by omega, by rw [List.length_set]; exact Hzl.out, hO3, sub_next Hzl.out hj' Hv.out (by rw [hdd]; rw [dig_out (xs := ys) rfl (by rw [HLb.out]; omega)]; exact hsd.1), hB1.upd hU3 (fun h => by unfold only at h; omega), hB2.upd hU3 (fun h => by unfold only at h; omega), hB3.upd hU3 (fun h => by unfold only at h; omega), Upd.fresh hU3 hE (fun i hi => by unfold only at hi; omega)⟩
            case measure => simp [intOf]; omega
          · have hd' : 0 ≤ n32 (gat xs j) - (b : Int) := by omega
            go_wp2_with (refine wpList_store_own by32 one32 (w32 (n32 (gat xs j) - (b : Int))) rfl rfl Try.n_sz32 rfl rfl hO (by rw [Hzl.out]; omega) ?_; intro w3 hO3 hU3)
            have hsd := sub_digit (a := d32 (gat xs j)) (b := 0) (w := b) (s := n32 (gat xs j) - (b : Int)) (d := (n32 (gat xs j) - (b : Int)).toNat) (w' := 0) (by rw [n32_d]; omega) (d32_lt _) (by decide) hb (.inr ⟨hd', rfl, rfl⟩)
            have hdd := d32_int (s := n32 (gat xs j) - (b : Int)) (d := (n32 (gat xs j) - (b : Int)).toNat) (by omega) hsd.2
            have hn1 : ∀ g, g < w.heap.size + 1 + 1 + 1 → g < w4.heap.size := fun g hg => by omega
            go_roundw
            case rel => exact ⟨j + 1, 0, _, by omega, by go_num, rfl, by omega, by rw [List.length_set]; exact Hzl.out, hO3, sub_next Hzl.out hj' Hv.out (by rw [hdd]; rw [dig_out (xs := ys) rfl (by rw [HLb.out]; omega)]; exact hsd.1), hB1.upd hU3 (fun h => by unfold only at h; omega), hB2.upd hU3 (fun h => by unfold only at h; omega), hB3.upd hU3 (fun h => by unfold only at h; omega), Upd.fresh hU3 hE (fun i hi => by unfold only at hi; omega)⟩
            case measure => simp [intOf]; omega
      · obtain rfl : j = la := by omega
        have cf3 := hB3.cell
        go_wp2_with (go_at_call 54; refine (trim_any _ j j zs _ Hzl.out (Nat.le_refl _) (by unfold maxLen; omega) hO.sl).mono ?_; rintro e w6 ⟨A6, l6, c6, rfl, hV6, hU6⟩; have hB5 := hB3.ext hU6; have c5 := hB5.cell; have f5 := hB5.frozen)
        exact bodyPost_ret (v := .tuple #[.agg #[.slice A6 l6 c6], .bool true]) (by simp [results, Try.results37, go_sem, c5]) rfl ⟨_, _, _, rfl, (hV6.of_eq (sub_val Hzl.out HLa.out HLb.out hle Hna.out Hnb.out Hv.out (by omega))).far c5, (by repeat (first | (with_reducible exact Upd.refl _ _) | (with_reducible assumption) | (refine Upd.setCell ?_ (.inr (by first | exact Nat.le_refl _ | (dsimp only; omega) | (simp; done) | (simp; omega))) _) | (with_reducible refine Upd.alloc ?_ _) | (with_reducible refine Upd.drew ?_) | (with_reducible refine Upd.trans ?_ (by with_reducible assumption))))⟩
end Go.Proofs.Ytekpjdfgpggcnaa
