/- Division of numbers, walked: the general case. -/
import Derived.Test.YtekpjdfgpggcnaaNatL
import Derived.Test.YtekpjdfgpggcnaaNatS
import Derived.Test.YtekpjdfgpggcnaaSlc
import Derived.Test.YtekpjdfgpggcnaaNatO
import Derived.Test.YtekpjdfgpggcnaaNatU
namespace Go.Proofs.Ytekpjdfgpggcnaa
set_option linter.unusedSimpArgs false
set_option linter.unusedVariables false
open Go.RowKit
open Nt
attribute [local go_sem] by32 wrap_w32 steady steadyUpon Cls same_cell

theorem shr_val {x y : BitVec 32} {n : Nat} : d32 (w32 (bits BinOp.or IntKind.u64 (IntKind.u64.wrap (IntKind.u64.wrap (n32 y) * 4294967296)) (IntKind.u64.wrap (n32 x)) / 2 ^ n)) = (d32 y * W32 + d32 x) / 2 ^ n % W32 := by
  have hx := d32_lt x
  have hy := d32_lt y
  have e1 : IntKind.u64.wrap (n32 x) = ((d32 x : Nat) : Int) := by rw [n32_d, u64_nat (by unfold W32 at hx; omega)]
  have e2 : IntKind.u64.wrap (n32 y) = ((d32 y : Nat) : Int) := by rw [n32_d, u64_nat (by unfold W32 at hy; omega)]
  have e3 : IntKind.u64.wrap (((d32 y : Nat) : Int) * 4294967296) = ((d32 y : Nat) : Int) * 4294967296 := by
    rw [show ((d32 y : Nat) : Int) * 4294967296 = ((d32 y * 4294967296 : Nat) : Int) by omega, u64_nat (by unfold W32 at hy; omega)]
  rw [e1, e2, e3, or_words hy hx, show (((d32 y * W32 + d32 x : Nat) : Int)) / 2 ^ n = (((d32 y * W32 + d32 x) / 2 ^ n : Nat) : Int) by simp, d32_w32]

set_option maxRecDepth 100000 in
set_option maxHeartbeats 4000000 in
theorem div_many (va : Value) (B : Option Addr) (cb M a b k : Nat) (ys : List (BitVec 32)) (w : World) (hVa : NatV w va a) (hVb : NatV w (.agg #[.slice B (M + 2) cb]) b) (hFa : Fit k a) (hFb : Fit k b) (hk : k ≤ 1000000) (hab : ¬ a < b)
    (hly : ys.length = M + 2) (hcb : M + 2 ≤ cb) (hmb : cb ≤ maxLen) (hSb : Sl by32 w B ys) (hTb : Trd (dig d32 ys) (M + 2)) (hnb : numOf W32 d32 ys = b) :
    Calls Try.prog 28 #[va, .agg #[.slice B (M + 2) cb]] w (RetD w (a / b) (a % b) 0) := by
  obtain ⟨A, la, ca, xs, rfl, hlx, hca, hma, hSa, hTa, hna⟩ := hVa.open_
  have hla : la ≤ k := hlx ▸ Fit.len (hlx ▸ hTa) hna hFa
  have hlb : M + 2 ≤ k := hly ▸ Fit.len (hly ▸ hTb) hnb hFb
  have hle : M + 2 ≤ la := by
    rcases Nat.lt_or_ge la (M + 2) with h | h
    · have := cmp_len (xs := xs) (ys := ys) (hly ▸ hTb) (by omega)
      rw [hna, hnb] at this; omega
    · exact h
  obtain ⟨p, hp⟩ : ∃ p, la = M + 2 + p := ⟨la - (M + 2), by omega⟩
  subst hp
  have hcn : 0 ≤ cmpI a b := by
    rcases Int.lt_or_le (cmpI a b) 0 with h | h
    · rw [cmpI_neg] at h; exact absurd h hab
    · exact h
  have hcn' : decide (cmpI a b < 0) = false := decide_eq_false (by omega)
  have htop : dig d32 ys (M + 1) ≠ 0 := by
    have := hTb
    unfold Trd at this
    rcases this with h | h
    · omega
    · exact h
  have hb0 : ¬ b = 0 := by
    have h1 := (Trd.zero_iff one_lt_W32 hTb).1
    intro h0
    unfold numOf at hnb
    rw [hly, h0] at hnb
    have := h1 hnb
    omega
  obtain ⟨yb, yo, rfl, hyl, hyc⟩ := hSb.open_ (by omega)
  have hcell := hyc (M + 1) (by omega)
  have hy1 : (((M + 2 : Nat) : Int) == 1) = false := by rw [beq_eq_false_iff_ne]; omega
  have hy2 : ((M + 2 : Nat) : Int) - 1 = ((M + 1 : Nat) : Int) := by omega
  obtain ⟨n, hn⟩ : ∃ n, n = 32 - blen (d32 (gat ys (M + 1))) := ⟨_, rfl⟩
  have hn32 : n < 32 := by
    have := (blen_le (n := d32 (gat ys (M + 1))) htop).1
    omega
  have Hn := hide hn
  have HSa := hide hSa
  have HSb := hide hSb
  have HTa := hide hTa
  have HTb := hide hTb
  have Hna := hide hna
  have Hnb := hide hnb
  have Hlx := hide hlx
  have Hly := hide hly
  have Htop := hide htop
  clear hyc hSa hSb hTa hTb hna hnb hlx hly htop hn
  go_enter Try.func28, Try.ntmps28
  go_wp2_with (first
    | (go_at_call 23; go_must (refine (zero_any _ b _ (hVb.ext (by repeat (first | (with_reducible exact Upd.refl _ _) | (with_reducible assumption) | (refine Upd.setCell ?_ (.inr (by first | exact Nat.le_refl _ | (dsimp only; omega) | (simp; done) | (simp; omega))) _) | (with_reducible refine Upd.alloc ?_ _) | (with_reducible refine Upd.drew ?_) | (with_reducible refine Upd.trans ?_ (by with_reducible assumption)))))).mono ?_); rintro e w4 ⟨rfl, hU4⟩; have hB2 : Box w4 w.heap.size 26 (.slice A (M + 2 + p) ca) := (by repeat (first | (with_reducible refine Box.new_at ?_; (simp; done)) | (with_reducible assumption) | (with_reducible refine Box.alloc ?_ _) | (with_reducible refine Box.drew ?_) | (with_reducible refine Box.ext ?_ (by with_reducible assumption)))); have hB3 : Box w4 (w.heap.size + 1) 26 (.slice (some ⟨yb, yo, none⟩) (M + 2) cb) := (by repeat (first | (with_reducible refine Box.new_at ?_; (simp; done)) | (with_reducible assumption) | (with_reducible refine Box.alloc ?_ _) | (with_reducible refine Box.drew ?_) | (with_reducible refine Box.ext ?_ (by with_reducible assumption)))); have hB4 : Box w4 (w.heap.size + 1 + 1) 26 (.slice none 0 0) := (by repeat (first | (with_reducible refine Box.new_at ?_; (simp; done)) | (with_reducible assumption) | (with_reducible refine Box.alloc ?_ _) | (with_reducible refine Box.drew ?_) | (with_reducible refine Box.ext ?_ (by with_reducible assumption)))); have hB5 : Box w4 (w.heap.size + 1 + 1 + 1) 26 (.slice none 0 0) := (by repeat (first | (with_reducible refine Box.new_at ?_; (simp; done)) | (with_reducible assumption) | (with_reducible refine Box.alloc ?_ _) | (with_reducible refine Box.drew ?_) | (with_reducible refine Box.ext ?_ (by with_reducible assumption)))); have hE4 : Ext w w4 := (by repeat (first | (with_reducible exact Upd.refl _ _) | (with_reducible assumption) | (refine Upd.setCell ?_ (.inr (by first | exact Nat.le_refl _ | (dsimp only; omega) | (simp; done) | (simp; omega))) _) | (with_reducible refine Upd.alloc ?_ _) | (with_reducible refine Upd.drew ?_) | (with_reducible refine Upd.trans ?_ (by with_reducible assumption)))); have c2 := hB2.cell; have c3 := hB3.cell; clear hU4)
    | (go_at_call 24; go_must (refine (cmp_any _ _ a b k _ (hVa.ext (by repeat (first | (with_reducible exact Upd.refl _ _) | (with_reducible assumption) | (refine Upd.setCell ?_ (.inr (by first | exact Nat.le_refl _ | (dsimp only; omega) | (simp; done) | (simp; omega))) _) | (with_reducible refine Upd.alloc ?_ _) | (with_reducible refine Upd.drew ?_) | (with_reducible refine Upd.trans ?_ (by with_reducible assumption))))) (hVb.ext (by repeat (first | (with_reducible exact Upd.refl _ _) | (with_reducible assumption) | (refine Upd.setCell ?_ (.inr (by first | exact Nat.le_refl _ | (dsimp only; omega) | (simp; done) | (simp; omega))) _) | (with_reducible refine Upd.alloc ?_ _) | (with_reducible refine Upd.drew ?_) | (with_reducible refine Upd.trans ?_ (by with_reducible assumption))))) hFa hFb hk).mono ?_); rintro e w5 ⟨rfl, hU5⟩; have hE5 := hE4.trans hU5; have hB2' := hB2.ext hU5; have hB3' := hB3.ext hU5; have hB4' := hB4.ext hU5; have hB5' := hB5.ext hU5; clear hB2 hB3 hB4 hB5 hU5 hE4 c2 c3; have c3 := hB3'.cell; have cy : w5.cell? ⟨yb, yo + (M + 1), none⟩ = some (.int .u32 (n32 (gat ys (M + 1)))) := (hE5.cell (p := ⟨yb, yo + (M + 1), none⟩) hyl (fun h => h)).trans hcell)
    | (go_at_call 59; go_must (refine (lead32_any _ _).mono ?_); rintro e w6 ⟨rfl, rfl⟩; rw [← Hn.out]))
  clear c3 cy hcell hy1 hy2 hcn hcn'
  obtain ⟨W, hW⟩ : ∃ W, W = w5.drew := ⟨_, rfl⟩
  have hEW : Ext w W := by rw [hW]; exact hE5.drew
  have hC2 : Box W w.heap.size 26 (.slice A (M + 2 + p) ca) := by rw [hW]; exact hB2'.drew
  have hC3 : Box W (w.heap.size + 1) 26 (.slice (some ⟨yb, yo, none⟩) (M + 2) cb) := by rw [hW]; exact hB3'.drew
  have hC4 : Box W (w.heap.size + 1 + 1) 26 (.slice none 0 0) := by rw [hW]; exact hB4'.drew
  have hC5 : Box W (w.heap.size + 1 + 1 + 1) 26 (.slice none 0 0) := by rw [hW]; exact hB5'.drew
  have c2 := fun x : Wd (Ext W) => (x.ok.cell (p := ⟨w.heap.size, 0, none⟩) hC2.lt (fun h => h)).trans hC2.cell
  have c3 := fun x : Wd (Ext W) => (x.ok.cell (p := ⟨w.heap.size + 1, 0, none⟩) hC3.lt (fun h => h)).trans hC3.cell
  refine wp_region_plan (Ext W) 13 [(false,0), (false,1), (false,2), (false,4), (false,5), (false,6), (false,8), (false,9), (false,10), (true,3), (true,7), (false,11), (false,12)] (by kernel_rfl) (by kernel_rfl) (by rw [← hW]; exact Upd.refl _ _) (fun hne => ?_)
  rw [← hW]
  clear hW hB2' hB3' hB4' hB5' hE5
  repeat (refine head_q rfl (fun K hK => ?_); have hK2 := hide hK; clear hK; go_simp; refine hK2.out _ ?_; clear hK2 K)
  refine head_l rfl ?_
  go_wp2_with fail
  refine (shift_any A (M + 2 + p) ca n xs _ Hlx.out (HSa.out.ext hEW) (by omega) hn32).mono ?_
  rintro e w7 ⟨gu, us, rfl, hul, hOu, hus, hU7⟩
  go_wp2_with fail
  refine ⟨Cls (Ext W), fun _ h => h, ⟨⟨_, hU7⟩, rfl⟩, ?_⟩
  refine head_l rfl ?_
  go_wp2_with fail
  refine (shift_any (some ⟨yb, yo, none⟩) (M + 2) cb n ys _ Hly.out ((HSb.out.ext hEW).ext hU7) (by omega) hn32).mono ?_
  rintro e w8 ⟨gv, vs, rfl, hvl, hOv, hvs, hU8⟩
  go_wp2_with fail
  have hE8 := hU7.trans hU8
  refine ⟨Cls (Ext W), fun _ h => h, ⟨⟨_, hE8⟩, rfl⟩, ?_⟩
  clear c2 c3
  have hs1 : ∀ w, (Instr.sliceAt 24 (.slice (some ⟨gv, 0, none⟩) (M + 2 + 1) (M + 2 + 1)) none (some (.int .i64 ((M : Int) + 2))) none).run Try.prog w = .ok (.slice (some ⟨gv, 0, none⟩) (M + 2) (M + 2 + 1)) w := fun w => run_cut_h Try.n_el32.under Try.n_sz32 (some ⟨gv, 0, none⟩) (M + 2 + 1) (M + 2 + 1) (M + 2) .i64 (by omega) w
  repeat (refine head_q rfl (fun K hK => ?_); have hK2 := hide hK; clear hK; go_simp; refine hK2.out _ ?_; clear hK2 K)
  refine head_nil ?_
  try simp only [List.drop_succ_cons, List.drop_zero]
  -- the plain facts
  obtain ⟨D, hD⟩ : ∃ D, D = 2 ^ n := ⟨_, rfl⟩
  have hD0 : 0 < D := by rw [hD]; exact Nat.pow_pos (by omega)
  have hb32 : blen (d32 (gat ys (M + 1))) ≤ 32 := blen_le_iff.2 (d32_lt _)
  obtain ⟨hw1, hw2⟩ := norm_word (n := n) Htop.out hb32 Hn.out
  rw [← hD] at hw1 hw2
  have hyv : vf W32 (dig d32 ys) (M + 2) = b := by have := Hnb.out; unfold numOf at this; rw [Hly.out] at this; exact this
  have hVlo : 2147483648 * W32 ^ (M + 1) ≤ b * D := by rw [← hyv]; exact norm_low (f := dig d32 ys) (m := M + 1) hw1
  have hVhi : b * D < W32 ^ (M + 2) := by rw [← hyv]; exact norm_high (β := W32) (f := dig d32 ys) (m := M + 1) (fun i _ => d32_lt _) hD0 hw2
  have hvv : vf W32 (dig d32 vs) (M + 2) = b * D := by
    have h1 : vf W32 (dig d32 vs) (M + 2 + 1) = b * D := by have := hvs; unfold numOf at this; rw [hvl] at this; rw [this, ← hD, Hnb.out.symm]; rfl
    rw [drop_top (by decide) (by rw [h1]; exact hVhi), h1]
  have huu : vf W32 (dig d32 us) (M + 2 + p + 1) = a * D := by have := hus; unfold numOf at this; rw [hul] at this; rw [this, ← hD, Hna.out.symm]; rfl
  have hvtop : 2147483648 ≤ dig d32 (vs.take (M + 2)) (M + 1) := by
    rw [dig_take (by omega)]
    exact top_ge (β := W32) (f := dig d32 vs) (m := M + 1) (fun i _ => d32_lt _) (by rw [hvv]; exact hVlo)
  have hstart : a * D < b * D * W32 ^ (p + 1) := by
    refine start_lt (m := M + 1) hD0 ?_ ?_
    · have h1 := numOf_lt (xs := xs) d32_lt
      rw [Hna.out, Hlx.out] at h1
      rw [show M + 1 + (p + 1) = M + 2 + p by omega]; exact h1
    · have h1 := (HTb.out).low (β := W32) (by omega)
      rw [hyv] at h1; exact h1
  have HD := hide hD
  have Hvv := hide hvv
  have Huu := hide huu
  have Hvtop := hide hvtop
  have Hstart := hide hstart
  have HVhi := hide hVhi
  have Hul := hide hul
  have Hvl := hide hvl
  clear hD hvv huu hvtop hstart hVhi hVlo hyv hw1 hw2 hb32 hul hvl hus hvs
  go_wp2_with (at_make; go_must (refine wpList_mk _ _ _ Try.n_el32 rfl rfl (p + 1) rfl rfl (by omega) (by omega) (by omega) (by unfold maxLen; omega) by32 rfl rfl (B := W.heap.size) (by have := hE8.size; simp; omega) ?_); intro gq w9 hOq hgq hU9; have Hgq := hide hgq; clear hgq)
  have hgq := Hgq.out
  clear Hgq
  have hu8 : gu < w7.heap.size := (hOu.in_ (k := gu) (by simp [inA])).2
  have hv8 : w7.heap.size ≤ gv ∧ gv < w8.heap.size := hOv.in_ (k := gv) (by simp [inA])
  have huW : W.heap.size ≤ gu := (hOu.in_ (k := gu) (by simp [inA])).1
  have hguv : gu ≠ gv := by omega
  have hguq : gu ≠ gq := by have := hU8.size; omega
  have hgvq : gv ≠ gq := by omega
  have hgqW : W.heap.size ≤ gq := by have := hE8.size; omega
  have hE9 : Ext W w9 := hE8.trans hU9
  have hOu9 := (hOu.ext hU8).ext hU9
  have hSv9 := (hOv.sl.ext hU9).take (M + 2)
  have hgvW : W.heap.size ≤ gv := by have := hU7.size; omega
  clear hgq hU9 hU8 hU7 hE8 hOu hOv hu8 hv8
  go_loopw [13] (fun c wx => ∃ (j : Nat) (cc : Int) (zs qs : List (BitVec 32)), j ≤ p + 1 ∧ cc = (j : Int) - 1 ∧ c = .int .i64 cc ∧ zs.length = M + 2 + p + 1 ∧ qs.length = p + 1 ∧ Own wx W.heap.size 75 (some ⟨gu, 0, none⟩) (M + 2 + p + 1) (zs.map by32) ∧ Own wx W.heap.size 75 (some ⟨gq, 0, none⟩) (p + 1) (qs.map by32) ∧ Sl by32 wx (some ⟨gv, 0, none⟩) (vs.take (M + 2)) ∧ a * D = vf W32 (dig d32 qs) (p + 1) * (b * D) + vf W32 (dig d32 zs) (M + 2 + p + 1) ∧ vf W32 (dig d32 zs) (M + 2 + p + 1) < b * D * W32 ^ j ∧ (∀ i, i < j → dig d32 qs i = 0) ∧ Ext W wx) (fun c _ => (intOf c + 1).toNat)
  case atStart =>
    obtain ⟨h1, h2⟩ := div_start (q := dig d32 (List.replicate (p + 1) (default : BitVec 32))) (nq := p + 1) (u := dig d32 us) (nu := M + 2 + p + 1) Huu.out (fun i _ => dig_zeros _ _) Hstart.out
    exact ⟨p + 1, _, us, _, Nat.le_refl _, (by omega), rfl, Hul.out, List.length_replicate, hOu9, hOq, hSv9, h1, h2, fun i _ => dig_zeros _ _, hE9⟩
  case round =>
    clear hOu9 hOq hSv9 hE9
    obtain ⟨j, cc, zs, qs, hj, hcc, rfl, hzl, hql, hOu, hOq, hSv, hv1, hv2, hq0, hE⟩ := hrel
    have Hzl := hide hzl
    have Hql := hide hql
    have Hv1 := hide hv1
    have Hv2 := hide hv2
    have Hq0 := hide hq0
    clear hzl hql hv1 hv2 hq0
    rcases j with _ | j
    · obtain rfl : cc = -1 := by omega
      clear hcc
      have hfin := div_end hD0 Hv1.out (by have := Hv2.out; rwa [Nat.pow_zero, Nat.mul_one] at this)
      have hlow : vf W32 (dig d32 zs) (M + 2 + p + 1) < W32 ^ (M + 2) := by
        have := Hv2.out
        rw [Nat.pow_zero, Nat.mul_one] at this
        exact Nat.lt_trans this HVhi.out
      have hz0 : dig d32 zs (M + 2) = 0 := vf_zero_above (by decide) hlow (Nat.le_refl _) (by omega)
      have hzv : vf W32 (dig d32 zs) (M + 2) = vf W32 (dig d32 zs) (M + 2 + p + 1) := (vf_zero_tail (by omega) (fun i h1 h2 => vf_zero_above (by decide) hlow h1 h2)).symm
      have Hfin := hide hfin
      have Hz0 := hide hz0
      have Hzv := hide hzv
      clear hfin hlow hz0 hzv
      go_wp2_with (at_make; go_must (refine wpList_mk _ _ _ Try.n_el32 rfl rfl (M + 2) rfl rfl (by omega) (by omega) (by omega) (by unfold maxLen; omega) by32 rfl rfl (B := W.heap.size) (by have := hE.size; simp; omega) ?_); intro gr w12 hOr hgr hU12; have Hgr := hide hgr; clear hgr)
      have hgrq : gr ≠ gq := by have := Hgr.out; have := (hOq.in_ (k := gq) (by simp [inA])).2; omega
      have hgru : gr ≠ gu := by have := Hgr.out; have := (hOu.in_ (k := gu) (by simp [inA])).2; omega
      have hgrW : W.heap.size ≤ gr := by have := Hgr.out; have := hE.size; omega
      have hOu12 := hOu.ext hU12
      have hOq12 := hOq.ext hU12
      have hE12 := hE.trans hU12
      clear hOu hOq hE hU12 hSv Hgr
      go_loopw [96] (fun c wx => ∃ (i : Nat) (rs : List (BitVec 32)), i ≤ M + 2 ∧ c = .int .i64 i ∧ rs.length = M + 2 ∧ Own wx W.heap.size 75 (some ⟨gr, 0, none⟩) (M + 2) (rs.map by32) ∧ Own wx W.heap.size 75 (some ⟨gu, 0, none⟩) (M + 2 + p + 1) (zs.map by32) ∧ Own wx W.heap.size 75 (some ⟨gq, 0, none⟩) (p + 1) (qs.map by32) ∧ vf W32 (dig d32 rs) i * D + dig d32 zs 0 % D = vf W32 (dig d32 zs) i + dig d32 zs i % D * W32 ^ i ∧ Ext W wx) (fun c _ => M + 2 - (intOf c).toNat)
      case atStart => exact ⟨0, _, Nat.zero_le _, rfl, List.length_replicate, hOr, hOu12, hOq12, by show 0 * D + _ = 0 + _; rw [Nat.zero_mul, Nat.pow_zero, Nat.mul_one], hE12⟩
      case round =>
        clear hOr hOu12 hOq12 hE12
        obtain ⟨i, rs, hi, rfl, hrl, hOr, hOu, hOq, hv, hE⟩ := hrel
        have Hrl := hide hrl
        have Hv := hide hv
        clear hrl hv
        by_cases hil : i < M + 2
        · have hd1 : decide ((i : Int) < (M : Int) + 2) = true := decide_eq_true (by omega)
          have hx0 := n32_bd (gat zs i)
          obtain ⟨hx1, hx2⟩ := hx0
          have hy0 := n32_bd (gat zs (i + 1))
          obtain ⟨hy1, hy2⟩ := hy0
          have hi1 : (i : Int) ≤ 1000000 := by omega
          have c1 := fun x : Wd (Same wr.drew) => (same_cell x ⟨gu, i, none⟩).trans (hOu.row.cell (i := i) (by rw [Hzl.out]; omega))
          have c2 := fun x : Wd (Same wr.drew) => (same_cell x ⟨gu, i + 1, none⟩).trans (hOu.row.cell (i := i + 1) (by rw [Hzl.out]; omega))
          go_wp2_with fail
          have q1 : IntKind.i64.wrap ((i : Int) + 1) = (i : Int) + 1 := IntWalk.i64_in _ (by omega)
          have q2 : (0 : Int) ≤ (i : Int) + 1 := by omega
          have q3 : ((i : Int) + 1).toNat = i + 1 := by omega
          have q4 : (i : Int) + 1 < (M : Int) + 2 + (p : Int) + 1 := by omega
          have q5 : (i : Int) < (M : Int) + 2 + (p : Int) + 1 := by omega
          have q6 : (i : Int) < (M : Int) + 2 := by omega
          refine wp_region_plan (Same _) 19 [(false,0), (false,1), (false,2), (false,3), (false,4), (false,5), (false,6), (false,7), (false,8), (false,9), (false,10), (false,11), (false,12), (false,13), (false,14), (false,15), (false,16), (false,17), (false,18)] (by kernel_rfl) (by kernel_rfl) rfl (fun hne => ?_)
          repeat (refine head_q rfl (fun K hK => ?_); have hK2 := hide hK; clear hK; go_simp; refine hK2.out _ ?_; clear hK2 K)
          clear q6 q1 q2 q3 q4 q5
          refine head_nil ?_
          try simp only [List.drop_succ_cons, List.drop_zero]
          refine wpList_store_own by32 one32 _ rfl rfl Try.n_sz32 rfl rfl (hOr.upd ((Upd.refl (only gu) wr).drew) (fun k hk hk2 => by simp [inA] at hk; unfold only at hk2; omega)) (by rw [Hrl.out]; exact hil) ?_
          intro w13 hO13 hU13
          go_wp2_with fail
          go_roundw
          case rel =>
            refine ⟨i + 1, _, by omega, by go_num, by rw [List.length_set]; exact Hrl.out, hO13, hOu.upd hU13.undrew (fun k hk hk2 => by simp [inA] at hk; unfold only at hk2; omega), hOq.upd hU13.undrew (fun k hk hk2 => by simp [inA] at hk; unfold only at hk2; omega), ?_, Upd.fresh hU13.undrew hE (fun i hi => by unfold only at hi; omega)⟩
            refine shr_step (β := W32) (E := 2 ^ (32 - n)) (by rw [HD.out]; exact w_split hn32) hD0 (d32_lt _) ?_ ?_
            · rw [← Hv.out]
              congr 2
              exact vf_congr fun q hq => by rw [dig_set (by rw [Hrl.out]; omega), if_neg (by omega)]
            · rw [dig_set (by rw [Hrl.out]; omega), if_pos rfl, shr_val, HD.out]
              rfl
          case measure => simp [intOf]; omega
        · obtain rfl : i = M + 2 := by omega
          have hd1 : decide (((M + 2 : Nat) : Int) < (M : Int) + 2) = false := decide_eq_false (by omega)
          have hrv : numOf W32 d32 rs = a % b := by
            have h1 := shr_end hD0 Hv.out Hz0.out
            unfold numOf
            rw [Hrl.out, h1, Hzv.out, Hfin.out.2]
          have hqv : numOf W32 d32 qs = a / b := by
            unfold numOf
            rw [Hql.out, Hfin.out.1]
          have Hrv := hide hrv
          have Hqv := hide hqv
          have hEw := hEW.trans hE
          have hB4 := hC4.ext hE
          have hB5 := hC5.ext hE
          clear hrv hqv
          go_wp2_with fail
          refine (trim_any (some ⟨gq, 0, none⟩) (p + 1) (p + 1) qs _ Hql.out (Nat.le_refl _) (by unfold maxLen; omega) hOq.sl).mono ?_
          rintro e w14 ⟨A14, l14, c14, rfl, hV14, hU14⟩
          rw [Hqv.out] at hV14
          go_wp2_with fail
          refine (trim_any (some ⟨gr, 0, none⟩) (M + 2) (M + 2) rs _ Hrl.out (Nat.le_refl _) (by unfold maxLen; omega) (hOr.ext hU14).sl).mono ?_
          rintro e w15 ⟨A15, l15, c15, rfl, hV15, hU15⟩
          rw [Hrv.out] at hV15
          have hB4' := (hB4.ext hU14).ext hU15
          have hB5' := (hB5.ext hU14).ext hU15
          have hEw' := (hEw.trans hU14).trans hU15
          have hV14' := hV14.ext hU15
          clear hB4 hB5 hEw hU14 hU15 hV14 hOr hOu hOq hE
          have c4 := hB4'.cell
          have f4 := hB4'.frozen
          have c5 := hB5'.far (p := ⟨w.heap.size + 1 + 1, 0, none⟩) (by simp) (.slice A14 l14 c14)
          have d5 := c5.cell
          have f5 := c5.frozen
          go_wp2
          have q4 := ((hB4'.set (.slice A14 l14 c14)).far (p := ⟨w.heap.size + 1 + 1 + 1, 0, none⟩) (by simp) (.slice A15 l15 c15)).cell
          have q5 := ((hB5'.far (p := ⟨w.heap.size + 1 + 1, 0, none⟩) (by simp) (.slice A14 l14 c14)).set (.slice A15 l15 c15)).cell
          exact bodyPost_ret (v := .tuple #[.agg #[.slice A14 l14 c14], .agg #[.slice A15 l15 c15], .int .i64 0]) (by simp [results, Try.results28, go_sem, q4, q5]) rfl ⟨_, _, _, _, _, _, rfl, (hV14'.far (v := .slice A14 l14 c14) c4).far (v := .slice A15 l15 c15) d5, (hV15.far (v := .slice A14 l14 c14) c4).far (v := .slice A15 l15 c15) d5, (hEw'.setCell (p := ⟨w.heap.size + 1 + 1, 0, none⟩) (.inr (by simp; omega)) _).setCell (p := ⟨w.heap.size + 1 + 1 + 1, 0, none⟩) (.inr (by simp; omega)) _⟩
    · obtain rfl : cc = (j : Int) := by omega
      have hs2 : ∀ w, (Instr.sliceAt 24 (.slice (some ⟨gu, 0, none⟩) (M + 2 + p + 1) (M + 2 + p + 1)) (some (.int .i64 (j : Int))) (some (.int .i64 ((j : Int) + ((M : Int) + 2) + 1))) none).run Try.prog w = .ok (.slice (some ⟨gu, j, none⟩) (M + 3) (M + 2 + p + 1 - j)) w := fun w => by
        have h := run_cut_lh Try.n_el32.under Try.n_sz32 (some ⟨gu, 0, none⟩) (M + 2 + p + 1) (M + 2 + p + 1) j (j + M + 3) .i64 .i64 (by omega) (by omega) w
        rw [shA_some, if_neg (by omega), Nat.zero_add, show j + M + 3 - j = M + 3 by omega] at h
        rw [show (j : Int) + ((M : Int) + 2) + 1 = ((j + M + 3 : Nat) : Int) by omega]
        exact h
      have hj0 : (0 : Int) ≤ (j : Int) := by omega
      have hj1 : (j : Int) ≤ 1000000 := by omega
      have hM1 : (M : Int) ≤ 1000000 := by omega
      clear hcc
      have hwin := hide (window_lt (β := W32) (u := dig d32 zs) (nu := M + 2 + p + 1) (m := M + 2) (j := j) (V := b * D) (by decide) Hv2.out (by omega))
      go_wp2_with fail
      refine (digit_any W.heap.size gu (M + 2 + p + 1) j M (M + 2 + p + 1 - j) (M + 2 + 1) (some ⟨gv, 0, none⟩) zs (vs.take (M + 2)) _ hOu (by rw [Hzl.out]; omega) (by rw [Hzl.out]; omega) (by rw [List.length_take, Hvl.out]; omega) hSv (fun k hk => by simp [inA] at hk; omega) (by omega) (by omega) Hvtop.out (by rw [vf_congr (fun i hi => dig_take hi), Hvv.out]; exact hwin.out)).mono ?_
      rintro e w10 ⟨⟨zs', rfl, hzl', hO10, hun, hval⟩, hU10⟩
      rw [vf_congr (f := dig d32 (vs.take (M + 2))) (g := dig d32 vs) (fun i hi => dig_take hi), Hvv.out] at hval ⊢
      have hOq10 := hOq.upd hU10 (fun k hk hk2 => by simp [inA] at hk; unfold only at hk2; omega)
      have hcz := hOq10.row.cell (i := j) (by rw [Hql.out]; omega)
      have Hval := hide hval
      have Hun := hide hun
      have Hzl' := hide hzl'
      clear hval hun hzl'
      obtain ⟨X, hX⟩ : ∃ X, X = vf W32 (fun i => dig d32 zs (j + i)) (M + 2 + 1) := ⟨_, rfl⟩
      rw [← hX]
      have HX := hide hX
      clear hX
      go_wp2_with (refine wpList_store_own by32 one32 (w32 ((X / (b * D) : Nat) : Int)) rfl rfl Try.n_sz32 rfl rfl hOq10 (by rw [Hql.out]; omega) ?_; intro w11 hO11 hU11)
      go_roundw
      case rel =>
        have hst := div_step (β := W32) (q := dig d32 qs) (q' := dig d32 (qs.set j (w32 ((X / (b * D) : Nat) : Int)))) (u := dig d32 zs) (u' := dig d32 zs') (nq := p + 1) (nu := M + 2 + p + 1) (m := M + 2) (j := j) (V := b * D) (by decide) Hv1.out Hv2.out (Nat.le_of_lt HVhi.out) (Nat.mul_pos (by omega) hD0) (Hq0.out j (by omega)) (by omega) (by omega) (vf_lt fun i _ => d32_lt _) (fun i _ hi => Hun.out i hi) Hval.out (by
          funext i
          rw [dig_set (by rw [Hql.out]; omega)]
          by_cases e : i = j
          · rw [if_pos e, if_pos e, d32_w32, ← HX.out, Nat.mod_eq_of_lt]
            refine Nat.div_lt_of_lt_mul ?_
            rw [HX.out, Nat.mul_comm]
            exact hwin.out
          · rw [if_neg e, if_neg e])
        exact ⟨j, _, zs', _, by omega, rfl, rfl, by rw [Hzl'.out, Hzl.out], by rw [List.length_set]; exact Hql.out, hO10.upd hU11 (fun k hk hk2 => by simp [inA] at hk; unfold only at hk2; omega), hO11, (hSv.upd hU10 (fun b o hb hk2 => by cases hb; unfold only at hk2; omega)).upd hU11 (fun b o hb hk2 => by cases hb; unfold only at hk2; omega), hst.1, hst.2, fun i hi => by rw [dig_set (by rw [Hql.out]; omega), if_neg (by omega)]; exact Hq0.out i (by omega), Upd.fresh hU11 (Upd.fresh hU10 hE (fun i hi => by unfold only at hi; omega)) (fun i hi => by unfold only at hi; omega)⟩
      case measure => simp [intOf]
end Go.Proofs.Ytekpjdfgpggcnaa
