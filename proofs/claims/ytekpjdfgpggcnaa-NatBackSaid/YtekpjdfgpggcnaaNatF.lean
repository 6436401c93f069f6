/- Sums of numbers, walked: Add. -/
import Derived.Test.YtekpjdfgpggcnaaNatE
namespace Go.Proofs.Ytekpjdfgpggcnaa
set_option linter.unusedSimpArgs false
set_option linter.unusedVariables false
open Go.RowKit
open Nt
attribute [local go_sem] by32 wrap_w32

theorem add_next {xs ys zs : List (BitVec 32)} {k c s : Nat} (hz : zs.length = k) (h : vf W32 (dig d32 zs) k + c * W32 ^ k = vf W32 (dig d32 xs) k + vf W32 (dig d32 ys) k) (hs : c + dig d32 xs k + dig d32 ys k = s) :
    vf W32 (dig d32 (zs ++ [w32 s])) (k + 1) + s / W32 * W32 ^ (k + 1) = vf W32 (dig d32 xs) (k + 1) + vf W32 (dig d32 ys) (k + 1) := by
  subst hs
  refine add_step (c := c) ?_ ?_
  · rw [vf_append_left (by omega)]; exact h
  · rw [dig_append_right (by omega), hz, Nat.sub_self]
    exact d32_w32 _
theorem add_last {xs ys zs : List (BitVec 32)} {k c : Nat} (hz : zs.length = k) (h : vf W32 (dig d32 zs) k + c * W32 ^ k = vf W32 (dig d32 xs) k + vf W32 (dig d32 ys) k) (hx : xs.length = k) (hy : ys.length ≤ k) (hc : c ≤ 1) :
    numOf W32 d32 (zs ++ [w32 c]) = numOf W32 d32 xs + numOf W32 d32 ys := by
  unfold numOf
  rw [List.length_append, hz, List.length_singleton, vf_succ, vf_append_left (by omega), dig_append_right (by omega), hz, Nat.sub_self]
  have e : dig d32 [w32 (c : Int)] 0 = c := by
    show d32 (w32 (c : Int)) = c
    rw [d32_w32]; unfold W32; omega
  rw [e, h, hx, vf_out (by rfl) hy]
  rfl
theorem sum_cast {c : Nat} {x y : BitVec 32} : (c : Int) + n32 x + n32 y = ((c + d32 x + d32 y : Nat) : Int) := rfl
theorem sum_cast' {c : Nat} {x : BitVec 32} : (c : Int) + n32 x = ((c + d32 x + 0 : Nat) : Int) := rfl
theorem quo_cast {s : Nat} : (s : Int) / 4294967296 = ((s / W32 : Nat) : Int) := rfl


set_option maxRecDepth 100000 in
set_option maxHeartbeats 1000000 in
theorem add_any (va vb : Value) (a b k : Nat) (w : World) (hVa : NatV w va a) (hVb : NatV w vb b) (hFa : Fit k a) (hFb : Fit k b) (hk : k ≤ 1000000) :
    Calls Try.prog 35 #[va, vb] w (RetN w (a + b)) := by
  obtain ⟨A, la, ca, xs, rfl, hlx, hca, hma, hSa, hTa, hna⟩ := hVa.open_
  obtain ⟨B, lb, cb, ys, rfl, hly, hcb, hmb, hSb, hTb, hnb⟩ := hVb.open_
  have hla : la ≤ k := hlx ▸ Fit.len (hlx ▸ hTa) hna hFa
  have hlb : lb ≤ k := hly ▸ Fit.len (hly ▸ hTb) hnb hFb
  have HSa := hide hSa
  have HSb := hide hSb
  have Hna := hide hna
  have Hnb := hide hnb
  have HLa := hide hlx
  have HLb := hide hly
  clear hVa hVb hTa hTb hSa hSb hna hnb hFa hFb hlx hly
  by_cases hlt : la < lb
  · have hle : la ≤ lb := by omega
    go_enter Try.func35, Try.ntmps35
    go_wp2_with (at_make; go_must (refine wpList_mk0 _ _ _ Try.n_el32 rfl rfl (lb + 1) rfl rfl (by omega) (by omega) (by unfold maxLen; omega) (B := w.heap.size + 1 + 1 + 1) (by simp) ?_); intro g w2 hO hg hU; have hB1 : Box w2 w.heap.size 26 (.slice B lb cb) := (by repeat (first | (with_reducible refine Box.new_at ?_; (simp; done)) | (with_reducible assumption) | (with_reducible refine Box.alloc ?_ _) | (with_reducible refine Box.drew ?_) | (with_reducible refine Box.ext ?_ (by with_reducible assumption)))); have hB2 : Box w2 (w.heap.size + 1) 26 (.slice A la ca) := (by repeat (first | (with_reducible refine Box.new_at ?_; (simp; done)) | (with_reducible assumption) | (with_reducible refine Box.alloc ?_ _) | (with_reducible refine Box.drew ?_) | (with_reducible refine Box.ext ?_ (by with_reducible assumption)))); have hB3 : Box w2 (w.heap.size + 1 + 1) 26 (.slice none 0 0) := (by repeat (first | (with_reducible refine Box.new_at ?_; (simp; done)) | (with_reducible assumption) | (with_reducible refine Box.alloc ?_ _) | (with_reducible refine Box.drew ?_) | (with_reducible refine Box.ext ?_ (by with_reducible assumption)))); have hE2 : Ext w w2 := (by repeat (first | (with_reducible exact Upd.refl _ _) | (with_reducible assumption) | (refine Upd.setCell ?_ (.inr (by first | exact Nat.le_refl _ | (dsimp only; omega) | (simp; done) | (simp; omega))) _) | (with_reducible refine Upd.alloc ?_ _) | (with_reducible refine Upd.drew ?_) | (with_reducible refine Upd.trans ?_ (by with_reducible assumption)))); clear hU; have c1 := hB1.cell; have c2 := hB2.cell)
    obtain rfl : g = w.heap.size + 1 + 1 + 1 := by rw [hg]; simp
    clear hg c1 c2
    go_loopw [26, 6, 5] (fun i cr v wr => ∃ (j cy : Nat) (zs : List (BitVec 32)) (Z : Option Addr) (cz : Nat), j ≤ lb ∧ i = .int .i64 j ∧ cr = .int .u64 (cy : Nat) ∧ cy ≤ 1 ∧ v = .slice Z j cz ∧ zs.length = j ∧ Own wr (w.heap.size + 1 + 1 + 1) 75 Z cz (zs.map by32) ∧ vf W32 (dig d32 zs) j + cy * W32 ^ j = vf W32 (dig d32 ys) j + vf W32 (dig d32 xs) j ∧ Box wr w.heap.size 26 (.slice B lb cb) ∧ Box wr (w.heap.size + 1) 26 (.slice A la ca) ∧ Box wr (w.heap.size + 1 + 1) 26 (.slice none 0 0) ∧ Ext w wr) (fun i _ _ _ => lb - (intOf i).toNat)
    case atStart => exact ⟨0, 0, [], _, _, Nat.zero_le _, rfl, rfl, Nat.zero_le _, rfl, rfl, hO, rfl, hB1, hB2, hB3, hE2⟩
    case round =>
      clear hO hB1 hB2 hB3 hE2
      obtain ⟨j, cy, zs, Z, cz, hj, rfl, rfl, hcy, rfl, hzl, hO, hv, hB1, hB2, hB3, hE⟩ := hrel
      have Hzl := hide hzl
      have Hv := hide hv
      clear hzl hv
      have c1 := hB1.cell
      have c2 := hB2.cell
      by_cases hjl : j < lb
      · have hxb := n32_bd (gat ys j)
        obtain ⟨hx1, hx2⟩ := hxb
        obtain ⟨b1, o1, hb1, hbl1, hcells⟩ := (HSb.out.ext hE).open_ (by rw [HLb.out]; omega)
        have hcell := hcells j (by rw [HLb.out]; omega)
        clear hcells
        subst hb1
        by_cases hjm : j < la
        · obtain ⟨hy1, hy2⟩ := n32_bd (gat xs j)
          obtain ⟨b2, o2, hb2, hbl2, hcells⟩ := (HSa.out.ext hE).open_ (by rw [HLa.out]; omega)
          have hcell2 := hcells j (by rw [HLa.out]; omega)
          clear hcells
          subst hb2
          go_wp2_with (at_builtin; go_must (refine wpList_apd by32 one32 Try.n_el32 zs [w32 ((cy : Int) + n32 (gat ys j) + n32 (gat xs j))] (zs ++ [w32 ((cy : Int) + n32 (gat ys j) + n32 (gat xs j))]) (j + 1) rfl (by rw [List.length_append, Hzl.out]; rfl) (by omega) (by unfold maxLen; omega) rfl rfl rfl Hzl.out (hO.ext ((Upd.refl _ _).alloc _)) rfl rfl (Sl.new by32 _ _ [w32 ((cy : Int) + n32 (gat ys j) + n32 (gat xs j))]) (by have := hE.size; have := hB3.lt; simp; omega) ?_); intro Z2 c2 w3 hO3 hU3 hin3)
          go_roundw
          case rel => exact ⟨j + 1, (cy + d32 (gat ys j) + d32 (gat xs j)) / W32, _, _, _, by omega, by go_num, rfl, by have := d32_lt (gat ys j); have := d32_lt (gat xs j); unfold W32 at *; omega, rfl, by rw [List.length_append, Hzl.out]; rfl, hO3, add_next (s := cy + d32 (gat ys j) + d32 (gat xs j)) Hzl.out Hv.out rfl, (hB1.alloc _).upd hU3 (hO.ne_box hB1 (by decide)), (hB2.alloc _).upd hU3 (hO.ne_box hB2 (by decide)), (hB3.alloc _).upd hU3 (hO.ne_box hB3 (by decide)), Upd.fresh hU3 (hE.alloc _) (fun i hi => by have := (hO.in_ hi).1; omega)⟩
          case measure => simp [intOf]; omega
        · go_wp2_with (at_builtin; go_must (refine wpList_apd by32 one32 Try.n_el32 zs [w32 ((cy : Int) + n32 (gat ys j))] (zs ++ [w32 ((cy : Int) + n32 (gat ys j))]) (j + 1) rfl (by rw [List.length_append, Hzl.out]; rfl) (by omega) (by unfold maxLen; omega) rfl rfl rfl Hzl.out (hO.ext ((Upd.refl _ _).alloc _)) rfl rfl (Sl.new by32 _ _ [w32 ((cy : Int) + n32 (gat ys j))]) (by have := hE.size; have := hB3.lt; simp; omega) ?_); intro Z2 c2 w3 hO3 hU3 hin3)
          go_roundw
          case rel => exact ⟨j + 1, (cy + d32 (gat ys j) + 0) / W32, _, _, _, by omega, by go_num, rfl, by have := d32_lt (gat ys j); unfold W32 at *; omega, rfl, by rw [List.length_append, Hzl.out]; rfl, hO3, add_next (s := cy + d32 (gat ys j) + 0) Hzl.out Hv.out (by rw [dig_out (xs := xs) rfl (by rw [HLa.out]; omega)]; rfl), (hB1.alloc _).upd hU3 (hO.ne_box hB1 (by decide)), (hB2.alloc _).upd hU3 (hO.ne_box hB2 (by decide)), (hB3.alloc _).upd hU3 (hO.ne_box hB3 (by decide)), Upd.fresh hU3 (hE.alloc _) (fun i hi => by have := (hO.in_ hi).1; omega)⟩
          case measure => simp [intOf]; omega
      · obtain rfl : j = lb := by omega
        have cf3 := hB3.cell
        go_wp2_with (first
          | (at_builtin; go_must (refine wpList_apd by32 one32 Try.n_el32 zs [w32 (cy : Int)] (zs ++ [w32 (cy : Int)]) (j + 1) rfl (by rw [List.length_append, Hzl.out]; rfl) (by omega) (by unfold maxLen; omega) rfl rfl rfl Hzl.out (hO.ext ((Upd.refl _ _).alloc _)) rfl rfl (Sl.new by32 _ _ [w32 (cy : Int)]) (by have := hE.size; have := hB3.lt; simp; omega) ?_); intro Z2 c2 w3 hO3 hU3 hin3; have hB4 := (hB3.alloc (.cells #[.int .u32 (n32 (w32 (cy : Int)))] 75)).upd hU3 (hO.ne_box hB3 (by decide)); have hE3 := Upd.fresh hU3 (hE.alloc _) (fun i hi => by have := (hO.in_ hi).1; omega))
          | (go_at_call 54; refine (trim_any Z2 (j + 1) c2 (zs ++ [w32 (cy : Int)]) w3 (by rw [List.length_append, Hzl.out]; rfl) (by have := hO3.cap.1; simp [Hzl.out] at this; omega) hO3.cap.2 hO3.sl).mono ?_; rintro e w4 ⟨A4, l4, c4, rfl, hV4, hU4⟩; have hB5 := hB4.ext hU4; have c5 := hB5.cell; have f5 := hB5.frozen))
        exact bodyPost_ret (v := .agg #[.slice A4 l4 c4]) (by simp [results, Try.results35, go_sem, c5]) rfl ⟨_, _, _, rfl, (hV4.of_eq ((add_last Hzl.out Hv.out HLb.out (by rw [HLa.out]; omega) hcy).trans (by rw [Hna.out, Hnb.out, Nat.add_comm]))).far c5, (by repeat (first | (with_reducible exact Upd.refl _ _) | (with_reducible assumption) | (refine Upd.setCell ?_ (.inr (by first | exact Nat.le_refl _ | (dsimp only; omega) | (simp; done) | (simp; omega))) _) | (with_reducible refine Upd.alloc ?_ _) | (with_reducible refine Upd.drew ?_) | (with_reducible refine Upd.trans ?_ (by with_reducible assumption))))⟩
  · have hle : lb ≤ la := by omega
    go_enter Try.func35, Try.ntmps35
    go_wp2_with (at_make; go_must (refine wpList_mk0 _ _ _ Try.n_el32 rfl rfl (la + 1) rfl rfl (by omega) (by omega) (by unfold maxLen; omega) (B := w.heap.size + 1 + 1 + 1) (by simp) ?_); intro g w2 hO hg hU; have hB1 : Box w2 w.heap.size 26 (.slice A la ca) := (by repeat (first | (with_reducible refine Box.new_at ?_; (simp; done)) | (with_reducible assumption) | (with_reducible refine Box.alloc ?_ _) | (with_reducible refine Box.drew ?_) | (with_reducible refine Box.ext ?_ (by with_reducible assumption)))); have hB2 : Box w2 (w.heap.size + 1) 26 (.slice B lb cb) := (by repeat (first | (with_reducible refine Box.new_at ?_; (simp; done)) | (with_reducible assumption) | (with_reducible refine Box.alloc ?_ _) | (with_reducible refine Box.drew ?_) | (with_reducible refine Box.ext ?_ (by with_reducible assumption)))); have hB3 : Box w2 (w.heap.size + 1 + 1) 26 (.slice none 0 0) := (by repeat (first | (with_reducible refine Box.new_at ?_; (simp; done)) | (with_reducible assumption) | (with_reducible refine Box.alloc ?_ _) | (with_reducible refine Box.drew ?_) | (with_reducible refine Box.ext ?_ (by with_reducible assumption)))); have hE2 : Ext w w2 := (by repeat (first | (with_reducible exact Upd.refl _ _) | (with_reducible assumption) | (refine Upd.setCell ?_ (.inr (by first | exact Nat.le_refl _ | (dsimp only; omega) | (simp; done) | (simp; omega))) _) | (with_reducible refine Upd.alloc ?_ _) | (with_reducible refine Upd.drew ?_) | (with_reducible refine Upd.trans ?_ (by with_reducible assumption)))); clear hU; have c1 := hB1.cell; have c2 := hB2.cell)
    obtain rfl : g = w.heap.size + 1 + 1 + 1 := by rw [hg]; simp
    clear hg c1 c2
    go_loopw [26, 6, 5] (fun i cr v wr => ∃ (j cy : Nat) (zs : List (BitVec 32)) (Z : Option Addr) (cz : Nat), j ≤ la ∧ i = .int .i64 j ∧ cr = .int .u64 (cy : Nat) ∧ cy ≤ 1 ∧ v = .slice Z j cz ∧ zs.length = j ∧ Own wr (w.heap.size + 1 + 1 + 1) 75 Z cz (zs.map by32) ∧ vf W32 (dig d32 zs) j + cy * W32 ^ j = vf W32 (dig d32 xs) j + vf W32 (dig d32 ys) j ∧ Box wr w.heap.size 26 (.slice A la ca) ∧ Box wr (w.heap.size + 1) 26 (.slice B lb cb) ∧ Box wr (w.heap.size + 1 + 1) 26 (.slice none 0 0) ∧ Ext w wr) (fun i _ _ _ => la - (intOf i).toNat)
    case atStart => exact ⟨0, 0, [], _, _, Nat.zero_le _, rfl, rfl, Nat.zero_le _, rfl, rfl, hO, rfl, hB1, hB2, hB3, hE2⟩
    case round =>
      clear hO hB1 hB2 hB3 hE2
      obtain ⟨j, cy, zs, Z, cz, hj, rfl, rfl, hcy, rfl, hzl, hO, hv, hB1, hB2, hB3, hE⟩ := hrel
      have Hzl := hide hzl
      have Hv := hide hv
      clear hzl hv
      have c1 := hB1.cell
      have c2 := hB2.cell
      by_cases hjl : j < la
      · have hxb := n32_bd (gat xs j)
        obtain ⟨hx1, hx2⟩ := hxb
        obtain ⟨b1, o1, hb1, hbl1, hcells⟩ := (HSa.out.ext hE).open_ (by rw [HLa.out]; omega)
        have hcell := hcells j (by rw [HLa.out]; omega)
        clear hcells
        subst hb1
        by_cases hjm : j < lb
        · obtain ⟨hy1, hy2⟩ := n32_bd (gat ys j)
          obtain ⟨b2, o2, hb2, hbl2, hcells⟩ := (HSb.out.ext hE).open_ (by rw [HLb.out]; omega)
          have hcell2 := hcells j (by rw [HLb.out]; omega)
          clear hcells
          subst hb2
          go_wp2_with (at_builtin; go_must (refine wpList_apd by32 one32 Try.n_el32 zs [w32 ((cy : Int) + n32 (gat xs j) + n32 (gat ys j))] (zs ++ [w32 ((cy : Int) + n32 (gat xs j) + n32 (gat ys j))]) (j + 1) rfl (by rw [List.length_append, Hzl.out]; rfl) (by omega) (by unfold maxLen; omega) rfl rfl rfl Hzl.out (hO.ext ((Upd.refl _ _).alloc _)) rfl rfl (Sl.new by32 _ _ [w32 ((cy : Int) + n32 (gat xs j) + n32 (gat ys j))]) (by have := hE.size; have := hB3.lt; simp; omega) ?_); intro Z2 c2 w3 hO3 hU3 hin3)
          go_roundw
          case rel => exact ⟨j + 1, (cy + d32 (gat xs j) + d32 (gat ys j)) / W32, _, _, _, by omega, by go_num, rfl, by have := d32_lt (gat xs j); have := d32_lt (gat ys j); unfold W32 at *; omega, rfl, by rw [List.length_append, Hzl.out]; rfl, hO3, add_next (s := cy + d32 (gat xs j) + d32 (gat ys j)) Hzl.out Hv.out rfl, (hB1.alloc _).upd hU3 (hO.ne_box hB1 (by decide)), (hB2.alloc _).upd hU3 (hO.ne_box hB2 (by decide)), (hB3.alloc _).upd hU3 (hO.ne_box hB3 (by decide)), Upd.fresh hU3 (hE.alloc _) (fun i hi => by have := (hO.in_ hi).1; omega)⟩
          case measure => simp [intOf]; omega
        · go_wp2_with (at_builtin; go_must (refine wpList_apd by32 one32 Try.n_el32 zs [w32 ((cy : Int) + n32 (gat xs j))] (zs ++ [w32 ((cy : Int) + n32 (gat xs j))]) (j + 1) rfl (by rw [List.length_append, Hzl.out]; rfl) (by omega) (by unfold maxLen; omega) rfl rfl rfl Hzl.out (hO.ext ((Upd.refl _ _).alloc _)) rfl rfl (Sl.new by32 _ _ [w32 ((cy : Int) + n32 (gat xs j))]) (by have := hE.size; have := hB3.lt; simp; omega) ?_); intro Z2 c2 w3 hO3 hU3 hin3)
          go_roundw
          case rel => exact ⟨j + 1, (cy + d32 (gat xs j) + 0) / W32, _, _, _, by omega, by go_num, rfl, by have := d32_lt (gat xs j); unfold W32 at *; omega, rfl, by rw [List.length_append, Hzl.out]; rfl, hO3, add_next (s := cy + d32 (gat xs j) + 0) Hzl.out Hv.out (by rw [dig_out (xs := ys) rfl (by rw [HLb.out]; omega)]; rfl), (hB1.alloc _).upd hU3 (hO.ne_box hB1 (by decide)), (hB2.alloc _).upd hU3 (hO.ne_box hB2 (by decide)), (hB3.alloc _).upd hU3 (hO.ne_box hB3 (by decide)), Upd.fresh hU3 (hE.alloc _) (fun i hi => by have := (hO.in_ hi).1; omega)⟩
          case measure => simp [intOf]; omega
      · obtain rfl : j = la := by omega
        have cf3 := hB3.cell
        go_wp2_with (first
          | (at_builtin; go_must (refine wpList_apd by32 one32 Try.n_el32 zs [w32 (cy : Int)] (zs ++ [w32 (cy : Int)]) (j + 1) rfl (by rw [List.length_append, Hzl.out]; rfl) (by omega) (by unfold maxLen; omega) rfl rfl rfl Hzl.out (hO.ext ((Upd.refl _ _).alloc _)) rfl rfl (Sl.new by32 _ _ [w32 (cy : Int)]) (by have := hE.size; have := hB3.lt; simp; omega) ?_); intro Z2 c2 w3 hO3 hU3 hin3; have hB4 := (hB3.alloc (.cells #[.int .u32 (n32 (w32 (cy : Int)))] 75)).upd hU3 (hO.ne_box hB3 (by decide)); have hE3 := Upd.fresh hU3 (hE.alloc _) (fun i hi => by have := (hO.in_ hi).1; omega))
          | (go_at_call 54; refine (trim_any Z2 (j + 1) c2 (zs ++ [w32 (cy : Int)]) w3 (by rw [List.length_append, Hzl.out]; rfl) (by have := hO3.cap.1; simp [Hzl.out] at this; omega) hO3.cap.2 hO3.sl).mono ?_; rintro e w4 ⟨A4, l4, c4, rfl, hV4, hU4⟩; have hB5 := hB4.ext hU4; have c5 := hB5.cell; have f5 := hB5.frozen))
        exact bodyPost_ret (v := .agg #[.slice A4 l4 c4]) (by simp [results, Try.results35, go_sem, c5]) rfl ⟨_, _, _, rfl, (hV4.of_eq ((add_last Hzl.out Hv.out HLa.out (by rw [HLb.out]; omega) hcy).trans (by rw [Hna.out, Hnb.out]))).far c5, (by repeat (first | (with_reducible exact Upd.refl _ _) | (with_reducible assumption) | (refine Upd.setCell ?_ (.inr (by first | exact Nat.le_refl _ | (dsimp only; omega) | (simp; done) | (simp; omega))) _) | (with_reducible refine Upd.alloc ?_ _) | (with_reducible refine Upd.drew ?_) | (with_reducible refine Upd.trans ?_ (by with_reducible assumption))))⟩
end Go.Proofs.Ytekpjdfgpggcnaa
