/- A digit of a quotient, walked: digit. -/
import Derived.Test.YtekpjdfgpggcnaaNatT
import Derived.Deep.QuietTactic
import Derived.BigQuiet
namespace Go.Proofs.Ytekpjdfgpggcnaa
set_option linter.unusedSimpArgs false
set_option linter.unusedVariables false
open Go.RowKit
open Nt
attribute [local go_sem] steady steadyUpon Cls same_cell by32 wrap_w32

theorem top_two {β m : Nat} {f : Nat → Nat} (hm : 1 ≤ m) : (f m * β + f (m - 1)) * β ^ (m - 1) ≤ vf β f (m + 1) := by
  obtain ⟨k, rfl⟩ : ∃ k, m = k + 1 := ⟨m - 1, by omega⟩
  rw [Nat.add_sub_cancel, vf_succ, vf_succ, Nat.pow_succ, Nat.add_mul, Nat.mul_assoc, Nat.mul_comm β]
  omega
theorem top_one {β m : Nat} {f : Nat → Nat} (hf : ∀ i, i < m → f i < β) (hm : 1 ≤ m) : vf β f m < (f (m - 1) + 1) * β ^ (m - 1) := by
  obtain ⟨k, rfl⟩ : ∃ k, m = k + 1 := ⟨m - 1, by omega⟩
  rw [Nat.add_sub_cancel, vf_succ, Nat.add_mul, Nat.one_mul]
  have := vf_lt (β := β) (f := f) (n := k) (fun i hi => hf i (by omega))
  omega
theorem top_bound {β m T p U V : Nat} (hβ : 0 < β) (hp0 : 0 < p) (hT : T * β ^ (m - 1) ≤ U) (hp : V < (p + 1) * β ^ (m - 1)) (hUV : U < β * V) (h2 : β ≤ 2 * p) : T / p ≤ β + 1 := by
  have hP : 0 < β ^ (m - 1) := Nat.pow_pos hβ
  have h1 : T * β ^ (m - 1) < β * (p + 1) * β ^ (m - 1) := by
    refine Nat.lt_of_le_of_lt hT (Nat.lt_of_lt_of_le hUV ?_)
    rw [Nat.mul_assoc]
    exact Nat.mul_le_mul_left _ (Nat.le_of_lt hp)
  have h3 : T < β * (p + 1) := Nat.lt_of_mul_lt_mul_right h1
  have h4 : T / p < β + 2 := by
    rw [Nat.div_lt_iff_lt_mul hp0, Nat.add_mul]
    rw [Nat.mul_add] at h3
    omega
  omega
theorem back_cast {c : Nat} {x y : BitVec 32} : (c : Int) + (n32 x + n32 y) = ((c + d32 x + d32 y : Nat) : Int) := by rw [n32_d, n32_d]; omega
theorem back_next {zs1 zs ys : List (BitVec 32)} {N j k c : Nat} (hz : zs.length = N) (hjk : j + k < N) (hun : ∀ i, i < j ∨ j + k ≤ i → dig d32 zs i = dig d32 zs1 i)
    (hv : vf W32 (fun i => dig d32 zs (j + i)) k + c * W32 ^ k = vf W32 (fun i => dig d32 zs1 (j + i)) k + vf W32 (dig d32 ys) k) :
    (∀ i, i < j ∨ j + (k + 1) ≤ i → dig d32 (zs.set (j + k) (w32 ((c : Int) + (n32 (gat zs (j + k)) + n32 (gat ys k))))) i = dig d32 zs1 i) ∧
    vf W32 (fun i => dig d32 (zs.set (j + k) (w32 ((c : Int) + (n32 (gat zs (j + k)) + n32 (gat ys k))))) (j + i)) (k + 1) + (c + d32 (gat zs (j + k)) + d32 (gat ys k)) / W32 * W32 ^ (k + 1) = vf W32 (fun i => dig d32 zs1 (j + i)) (k + 1) + vf W32 (dig d32 ys) (k + 1) := by
  refine ⟨fun i hi => by rw [dig_set (by omega), if_neg (by omega)]; exact hun i (by omega), ?_⟩
  have hu : d32 (gat zs (j + k)) = dig d32 zs1 (j + k) := hun (j + k) (.inr (Nat.le_refl _))
  rw [hu]
  refine add_step (a := fun i => dig d32 zs1 (j + i)) (b := dig d32 ys) (c := c) ?_ ?_
  · rw [← hv]
    congr 1
    exact vf_congr fun i hi => by rw [dig_set (by omega), if_neg (by omega)]
  · rw [dig_set (by omega), if_pos rfl, back_cast, d32_w32, hu]; rfl
theorem quo_top {U V T p P : Nat} (hV : p * P ≤ V) (hU : U < (T + 1) * P) (hp : 0 < p) : U / V ≤ T / p := by
  have hV0 : 0 < V := by
    rcases Nat.eq_zero_or_pos P with h | h
    · subst h; omega
    · exact Nat.lt_of_lt_of_le (Nat.mul_pos hp h) hV
  have h : U / V < T / p + 1 := by
    rw [Nat.div_lt_iff_lt_mul hV0]
    refine Nat.lt_of_lt_of_le hU (Nat.le_trans ?_ (Nat.mul_le_mul_left _ hV))
    rw [← Nat.mul_assoc]
    refine Nat.mul_le_mul_right _ ?_
    have := Nat.div_add_mod T p
    have := Nat.mod_lt T hp
    rw [Nat.add_mul, Nat.one_mul, Nat.mul_comm]
    omega
  omega
/-- what digit leaves -/
structure Digit (w : World) (B g cap : Nat) (zs ys : List (BitVec 32)) (j m : Nat) (e : Ending) (w' : World) : Prop where
  ex : ∃ zs' : List (BitVec 32), e = .returned (.int .u32 (n32 (w32 ((vf W32 (fun i => dig d32 zs (j + i)) (m + 1) / vf W32 (dig d32 ys) m : Nat) : Int)))) ∧ zs'.length = zs.length ∧ Own w' B 75 (some ⟨g, 0, none⟩) cap (zs'.map by32) ∧ (∀ i, i < j ∨ j + m < i → dig d32 zs' i = dig d32 zs i) ∧
    vf W32 (fun i => dig d32 zs' (j + i)) (m + 1) = vf W32 (fun i => dig d32 zs (j + i)) (m + 1) % vf W32 (dig d32 ys) m
  upd : Upd (only g) w w'

theorem or_words {a b : Nat} (ha : a < W32) (hb : b < W32) : bits .or .u64 ((a : Int) * 4294967296) (b : Int) = ((a * W32 + b : Nat) : Int) := by
  have h := or_nat' .u64 rfl (a := b) (b := a) (s := 32) hb (by unfold W32 at *; show b + a * 2 ^ 32 < 2 ^ 64; omega)
  have e : ((a * 2 ^ 32 : Nat) : Int) = (a : Int) * 4294967296 := by simp
  rw [e] at h
  rw [h]
  unfold W32
  omega

set_option maxRecDepth 100000 in
set_option maxHeartbeats 4000000 in
theorem digit_any (B g cap j M cu cv : Nat) (Y : Option Addr) (zs0 ys : List (BitVec 32)) (w : World) (hO0 : Own w B 75 (some ⟨g, 0, none⟩) cap (zs0.map by32)) (hjm : j + (M + 2) < zs0.length) (hl : zs0.length ≤ 2000000) (hym : ys.length = M + 2) (hS : Sl by32 w Y ys) (hY : ∀ k, inA Y k → k ≠ g) (hcu : M + 3 ≤ cu) (hcv : M + 2 ≤ cv)
    (hv1 : 2147483648 ≤ dig d32 ys (M + 1)) (hUV : vf W32 (fun i => dig d32 zs0 (j + i)) (M + 3) < W32 * vf W32 (dig d32 ys) (M + 2)) :
    Calls Try.prog 61 #[.slice (some ⟨g, j, none⟩) (M + 3) cu, .slice Y (M + 2) cv] w (Digit w B g cap zs0 ys j (M + 2)) := by
  obtain ⟨N, hN⟩ : ∃ N, zs0.length = N := ⟨_, rfl⟩
  rw [hN] at hjm hl
  have HN := hide hN
  have HM := hide hym
  have HS := hide hS
  have HY := hide hY
  obtain ⟨b2, o2, hYe, hbl2, hcells⟩ := hS.open_ (by rw [hym]; omega)
  subst hYe
  obtain ⟨a, ha⟩ : ∃ a, a = dig d32 zs0 (j + (M + 2)) := ⟨_, rfl⟩
  obtain ⟨b, hb⟩ : ∃ b, b = dig d32 zs0 (j + (M + 1)) := ⟨_, rfl⟩
  obtain ⟨c, hc⟩ : ∃ c, c = dig d32 zs0 (j + M) := ⟨_, rfl⟩
  obtain ⟨p, hp⟩ : ∃ p, p = dig d32 ys (M + 1) := ⟨_, rfl⟩
  obtain ⟨s, hs⟩ : ∃ s, s = dig d32 ys M := ⟨_, rfl⟩
  have ca : w.cell? ⟨g, j + (M + 2), none⟩ = some (.int .u32 (a : Int)) := by rw [ha]; exact hO0.row.cell (i := j + (M + 2)) (by rw [hN]; omega)
  have cb : w.cell? ⟨g, j + (M + 1), none⟩ = some (.int .u32 (b : Int)) := by rw [hb]; exact hO0.row.cell (i := j + (M + 1)) (by rw [hN]; omega)
  have cc : w.cell? ⟨g, j + M, none⟩ = some (.int .u32 (c : Int)) := by rw [hc]; exact hO0.row.cell (i := j + M) (by rw [hN]; omega)
  have cp : w.cell? ⟨b2, o2 + (M + 1), none⟩ = some (.int .u32 (p : Int)) := by rw [hp]; exact hcells (M + 1) (by rw [hym]; omega)
  have cs : w.cell? ⟨b2, o2 + M, none⟩ = some (.int .u32 (s : Int)) := by rw [hs]; exact hcells M (by rw [hym]; omega)
  have la : a < W32 := by rw [ha]; exact d32_lt _
  have lb : b < W32 := by rw [hb]; exact d32_lt _
  have lc : c < W32 := by rw [hc]; exact d32_lt _
  have lp : p < W32 := by rw [hp]; exact d32_lt _
  have ls : s < W32 := by rw [hs]; exact d32_lt _
  have lp1 : 2147483648 ≤ p := by rw [hp]; exact hv1
  obtain ⟨T, hT⟩ : ∃ T, T = a * W32 + b := ⟨_, rfl⟩
  obtain ⟨Q, hQ⟩ : ∃ Q, Q = vf W32 (fun i => dig d32 zs0 (j + i)) (M + 3) / vf W32 (dig d32 ys) (M + 2) := ⟨_, rfl⟩
  have hi1 : ∀ (q r : Nat), q * p + r = T → W32 ≤ q ∨ r * W32 + c < q * s → Q < q := by
    intro q r h1 h2
    rw [hQ]
    refine guess_high (β := W32) (u := fun i => dig d32 zs0 (j + i)) (v := dig d32 ys) (m := M + 2) (by decide) (fun i _ => d32_lt _) (fun i _ => d32_lt _) (by omega) (r := r) ?_ hUV ?_
    · show q * dig d32 ys (M + 1) + r = dig d32 zs0 (j + (M + 2)) * W32 + dig d32 zs0 (j + (M + 1))
      rw [← ha, ← hb, ← hp, ← hT, h1]
    · show W32 ≤ q ∨ r * W32 + dig d32 zs0 (j + M) < q * dig d32 ys M
      rw [← hc, ← hs]; exact h2
  have lo1 : ∀ (q r : Nat), q * p + r = T → ((q < W32 ∧ q * s ≤ r * W32 + c) ∨ (q ≤ W32 ∧ W32 ≤ r)) → q ≤ Q + 1 := by
    intro q r h1 h2
    rw [hQ]
    refine guess_low (β := W32) (u := fun i => dig d32 zs0 (j + i)) (v := dig d32 ys) (m := M + 2) (by decide) (fun i _ => d32_lt _) (fun i _ => d32_lt _) (by omega) (r := r) ?_ (show 0 < dig d32 ys (M + 1) by omega) ?_
    · show q * dig d32 ys (M + 1) + r = dig d32 zs0 (j + (M + 2)) * W32 + dig d32 zs0 (j + (M + 1))
      rw [← ha, ← hb, ← hp, ← hT, h1]
    · show (q < W32 ∧ q * dig d32 ys M ≤ r * W32 + dig d32 zs0 (j + M)) ∨ _
      rw [← hc, ← hs]; exact h2
  have hVp : p * W32 ^ (M + 1) ≤ vf W32 (dig d32 ys) (M + 2) := by
    rw [hp]; show _ ≤ vf W32 (dig d32 ys) (M + 1) + dig d32 ys (M + 1) * W32 ^ (M + 1); omega
  have hUT : vf W32 (fun i => dig d32 zs0 (j + i)) (M + 3) < (T + 1) * W32 ^ (M + 1) := by
    have h1 : vf W32 (fun i => dig d32 zs0 (j + i)) (M + 1) < W32 ^ (M + 1) := vf_lt fun i _ => d32_lt _
    rw [hT, ha, hb]
    show vf W32 (fun i => dig d32 zs0 (j + i)) (M + 1) + dig d32 zs0 (j + (M + 1)) * W32 ^ (M + 1) + dig d32 zs0 (j + (M + 2)) * W32 ^ (M + 2) < _
    rw [Nat.pow_succ W32 (M + 1), Nat.add_mul, Nat.add_mul, Nat.one_mul, Nat.mul_assoc, Nat.mul_comm W32]
    omega
  have HI := hide hi1
  have LO := hide lo1
  have HQ := hide hQ
  have HT := hide hT
  have hTq : T / p ≤ W32 + 1 := by
    refine top_bound (β := W32) (m := M + 2) (by decide) (by omega) (U := vf W32 (fun i => dig d32 zs0 (j + i)) (M + 3)) (V := vf W32 (dig d32 ys) (M + 2)) ?_ ?_ hUV (by unfold W32; omega)
    · rw [hT, ha, hb]; exact top_two (β := W32) (f := fun i => dig d32 zs0 (j + i)) (by omega)
    · rw [hp]; exact top_one (fun i _ => d32_lt _) (by omega)
  have HV1 := hide hv1
  have HUV := hide hUV
  have HO := hide hO0
  have Hcell := hide (And.intro ca (And.intro cb (And.intro cc (And.intro cp cs))))
  have Hab := hide (And.intro ha (And.intro hb (And.intro hc (And.intro hp hs))))
  clear hi1 lo1 hQ hT hv1 hUV hO0 hcells ha hb hc hp hs hN hym hS hY ca cb cc cp cs
  have Hla := hide la
  have Hlb := hide lb
  have Hlc := hide lc
  have Hls := hide ls
  have Hlp := hide lp
  have la' : (a : Int) ≤ 4294967295 := by unfold W32 at la; omega
  have lb' : (b : Int) ≤ 4294967295 := by unfold W32 at lb; omega
  have lc' : (c : Int) ≤ 4294967295 := by unfold W32 at lc; omega
  have lp' : (p : Int) ≤ 4294967295 := by unfold W32 at lp; omega
  have ls' : (s : Int) ≤ 4294967295 := by unfold W32 at ls; omega
  clear la lb lc lp ls
  go_enter Try.func61, Try.ntmps61
  go_wp2
  have ca : w.drew.cell? ⟨g, j + (M + 2), none⟩ = some (.int .u32 (a : Int)) := Hcell.out.1
  have cb : w.drew.cell? ⟨g, j + (M + 1), none⟩ = some (.int .u32 (b : Int)) := Hcell.out.2.1
  have e1 : IntKind.u64.wrap ((a : Nat) : Int) = (a : Int) := IntWalk.u64_in _ (by omega)
  have e2 : IntKind.u64.wrap ((a : Int) * 4294967296) = (a : Int) * 4294967296 := IntWalk.u64_in _ (by omega)
  have e3 : IntKind.u64.wrap ((b : Nat) : Int) = (b : Int) := IntWalk.u64_in _ (by omega)
  have e4 : bits .or .u64 ((a : Int) * 4294967296) (b : Int) = (T : Int) := by rw [HT.out]; exact or_words Hla.out Hlb.out
  have w1 : IntKind.i64.wrap ((M : Int) + 2 - 1) = (M : Int) + 1 := by rw [show (M : Int) + 2 - 1 = (M : Int) + 1 by omega]; exact IntWalk.i64_in _ (by omega)
  have p1 : (0 : Int) ≤ (M : Int) + 1 := by omega
  have p1' : (0 : Int) ≤ (M : Int) + 2 := by omega
  have p2 : (M : Int) + 1 < (M : Int) + 3 := by omega
  have p3 : (M : Int) + 2 < (M : Int) + 3 := by omega
  have p4 : ((M : Int) + 1).toNat = M + 1 := by omega
  have p5 : ((M : Int) + 2).toNat = M + 2 := by omega
  refine wp_region_plan (Same _) 13 [(false,0), (false,1), (false,2), (false,3), (false,4), (false,5), (false,6), (false,7), (false,8), (false,9), (false,10), (false,11), (false,12)] (by kernel_rfl) (by kernel_rfl) rfl (fun hne => ?_)
  repeat (refine head_q rfl (fun K hK => ?_); have hK2 := hide hK; clear hK; go_simp; refine hK2.out _ ?_; clear hK2 K)
  refine head_nil ?_
  try simp only [List.drop_succ_cons, List.drop_zero]
  go_wp2_with fail
  clear ca cb e1 e2 e3 e4
  have ca : w.drew.drew.cell? ⟨b2, o2 + (M + 1), none⟩ = some (.int .u32 (p : Int)) := Hcell.out.2.2.2.1
  have hpz : ¬ p = 0 := by omega
  have hT64 : (T : Int) ≤ 18446744073709551615 := by have := HT.out; have := Hla.out; have := Hlb.out; unfold W32 at *; omega
  have hTp : ((T / p : Nat) : Int) = (T : Int) / (p : Int) := rfl
  have hTp2 : ((T % p : Nat) : Int) = (T : Int) % (p : Int) := rfl
  have hTp3 : (T : Int) / (p : Int) ≤ (T : Int) := Int.ediv_le_self _ (by omega)
  have hTp0 : 0 ≤ (T : Int) / (p : Int) := by rw [← hTp]; exact Int.natCast_nonneg _
  obtain ⟨q0, hq0⟩ : ∃ q0, q0 = T / p := ⟨_, rfl⟩
  obtain ⟨r0, hr0⟩ : ∃ r0, r0 = T % p := ⟨_, rfl⟩
  have e1 : IntKind.u64.wrap ((p : Nat) : Int) = (p : Int) := IntWalk.u64_in _ (by omega)
  have e2 : IntKind.u64.wrap ((T : Int) / (p : Int)) = (q0 : Int) := by rw [hq0, hTp]; exact IntWalk.u64_in _ ⟨hTp0, Int.le_trans hTp3 hT64⟩
  have e3 : (T : Int).tmod (p : Int) = (r0 : Int) := by rw [hr0, hTp2]; exact IntWalk.rem_in _ _ (by omega)
  have e4 : (T : Int) % (p : Int) = (r0 : Int) := by rw [hr0, hTp2]
  have p2' : (M : Int) + 1 < (M : Int) + 2 := by omega
  have hqr : q0 * p + r0 = T := by rw [hq0, hr0, Nat.mul_comm]; exact Nat.div_add_mod T p
  have hr0p : r0 < p := by rw [hr0]; exact Nat.mod_lt _ (by omega)
  have Hqr := hide hqr
  have Hq0 := hide hq0
  rw [← hq0] at hTq
  clear hTp hTp2 hTp3 hTp0 hq0 hr0 hqr hT64
  refine wp_region_plan (Same _) 17 [(false,0), (false,1), (false,2), (false,3), (false,4), (false,5), (false,6), (false,7), (false,8), (false,9), (false,10), (false,11), (false,12), (false,13), (false,14), (false,15), (false,16)] (by kernel_rfl) (by kernel_rfl) rfl (fun hne => ?_)
  repeat (refine head_q rfl (fun K hK => ?_); have hK2 := hide hK; clear hK; go_simp; refine hK2.out _ ?_; clear hK2 K)
  refine head_nil ?_
  try simp only [List.drop_succ_cons, List.drop_zero]
  go_wp2_with fail
  clear ca e1 e2 e3 e4
  go_loopw [7, 8] (fun qv rv wr => ∃ q r : Nat, qv = .int .u64 q ∧ rv = .int .u64 r ∧ q * p + r = T ∧ r < W32 ∧ Q ≤ q ∧ q ≤ W32 + 1 ∧ Ext w wr) (fun _ rv _ => W32 - (intOf rv).toNat)
  case atStart => exact ⟨q0, r0, rfl, rfl, Hqr.out, Nat.lt_trans hr0p Hlp.out, by rw [HQ.out, Hq0.out]; exact quo_top hVp hUT (by omega), hTq, (by repeat (first | (with_reducible exact Upd.refl _ _) | (with_reducible assumption) | (refine Upd.setCell ?_ (.inr (by first | exact Nat.le_refl _ | (dsimp only; omega) | (simp; done) | (simp; omega))) _) | (with_reducible refine Upd.alloc ?_ _) | (with_reducible refine Upd.drew ?_) | (with_reducible refine Upd.trans ?_ (by with_reducible assumption))))⟩
  case round =>
    clear Hqr Hq0 hTq hr0p
    obtain ⟨q, r, rfl, rfl, hqr, hrW, hQq, hqW, hE⟩ := hrel
    have Hqr := hide hqr
    have HrW := hide hrW
    have HqW := hide hqW
    have hqi : (q : Int) ≤ 4294967297 := by unfold W32 at hqW; omega
    have hri : (r : Int) ≤ 4294967295 := by unfold W32 at hrW; omega
    have cp : wr.cell? ⟨b2, o2 + (M + 1), none⟩ = some (.int .u32 (p : Int)) := (hE.cell (World.block_lt_of_cell? w _ Hcell.out.2.2.2.1) (fun h => h)).trans Hcell.out.2.2.2.1
    clear hqr hrW hqW
    by_cases hA : W32 ≤ q
    · have hQ1 := HI.out q r Hqr.out (.inl hA)
      have gA : (4294967296 : Int) ≤ (q : Int) := by unfold W32 at hA; omega
      clear hA
      go_wp2_with fail
      by_cases hB : (4294967296 : Int) ≤ (r : Int) + (p : Int)
      · go_quiet (fail)
        go_wp2_with fail
        rw [show (q : Int) - 1 = ((q - 1 : Nat) : Int) by omega]
        have hEq : Ext w (wr.drewN nq) := hE.drewN _
        have hq2 : (q - 1) ≤ Q + 1 := (LO.out (q - 1) (r + p) (by have := Hqr.out; rw [Nat.sub_mul, Nat.one_mul]; have h1 : 1 * p ≤ q * p := Nat.mul_le_mul_right _ (by omega); omega) (.inr ⟨by have := HqW.out; omega, by unfold W32; omega⟩))
        have hq3 : (q - 1) ≤ W32 := (by have := HqW.out; omega)
        refine (take_any B g cap j (M + 2) cu cv (q - 1) (some ⟨b2, o2, none⟩) zs0 ys _ (HO.out.ext hEq) (by rw [HN.out]; omega) (by rw [HN.out]; omega) HM.out (HS.out.ext hEq) HY.out hq3).mono ?_
        rintro e w3 ⟨⟨zs1, cw, rfl, hl1, hO1, hz1, hv1, hy1, hn1⟩, hU1⟩
        have hq1 : Q ≤ (q - 1) := by omega
        have hVlt : vf W32 (dig d32 ys) (M + 2) < W32 ^ (M + 2) := vf_lt fun i _ => d32_lt _
        have hV0 : 0 < vf W32 (dig d32 ys) (M + 2) := by
          rcases Nat.eq_zero_or_pos (vf W32 (dig d32 ys) (M + 2)) with h | h
          · have := HUV.out; rw [h] at this; omega
          · exact h
        have hUs : vf W32 (fun i => dig d32 zs0 (j + i)) (M + 3) = vf W32 (fun i => dig d32 zs0 (j + i)) (M + 2) + dig d32 zs0 (j + (M + 2)) * W32 ^ (M + 2) := rfl
        by_cases hcw : cw ≤ dig d32 zs0 (j + (M + 2))
        · have hdc : decide (dig d32 zs0 (j + (M + 2)) < cw) = false := decide_eq_false (by omega)
          obtain ⟨t1, t2, t3⟩ := take_yes hv1 hUs (Nat.le_of_lt hVlt) hV0 (by rw [← HQ.out]; exact hq1) hcw
          have ht4 := hy1 hcw
          rw [hdc]
          have Hfin : Hid (Digit w B g cap zs0 ys j (M + 2) (.returned (.int .u32 (n32 (w32 (((q - 1) : Nat) : Int))))) w3) := hide ⟨⟨zs1, by rw [← t1], hl1, hO1, hz1, by rw [show M + 2 + 1 = M + 3 from rfl, show vf W32 (fun i => dig d32 zs1 (j + i)) (M + 3) = vf W32 (fun i => dig d32 zs1 (j + i)) (M + 2) + dig d32 zs1 (j + (M + 2)) * W32 ^ (M + 2) from rfl, ht4, t3, t2, Nat.zero_mul, Nat.add_zero]⟩, (Upd.ofExt hEq).trans hU1⟩
          clear t1 t2 t3 ht4 hv1 hy1 hn1 hz1 hl1 hdc hUs hVlt hV0 hq1 hq2 hq3
          go_wp2
          go_ret
          exact Hfin.out
        · have hdc : decide (dig d32 zs0 (j + (M + 2)) < cw) = true := decide_eq_true (by omega)
          rw [hdc]
          obtain ⟨t1, t2, t3⟩ := take_no hv1 hUs (Nat.le_of_lt hVlt) hV0 (vf_lt fun i _ => d32_lt _) (by rw [← HQ.out]; exact hq2) (by omega)
          have ht4 := hn1 t2
          have Hl1 := hide (hl1.trans HN.out)
          have H3 := hide t3
          have H4 := hide ht4
          have H1 := hide (t1.trans (by rw [← HQ.out]))
          have Hz1 := hide hz1
          have hE3 : Upd (only g) w w3 := (Upd.ofExt hEq).trans hU1
          have hqI : (1 : Int) ≤ (((q - 1) : Nat) : Int) := by have := H1.out; omega
          clear t1 t2 t3 ht4 hv1 hy1 hn1 hz1 hl1 hdc hUs hVlt hV0 hq1 hq2 hq3 hU1 hcw
          try clear hA
          go_wp2_with fail
          go_loopw [85, 9] (fun iv cv' wx => ∃ (k c : Nat) (zs : List (BitVec 32)), k ≤ M + 2 ∧ iv = .int .i64 k ∧ cv' = .int .u64 c ∧ c ≤ 1 ∧ zs.length = N ∧ Own wx B 75 (some ⟨g, 0, none⟩) cap (zs.map by32) ∧ (∀ i, i < j ∨ j + k ≤ i → dig d32 zs i = dig d32 zs1 i) ∧ vf W32 (fun i => dig d32 zs (j + i)) k + c * W32 ^ k = vf W32 (fun i => dig d32 zs1 (j + i)) k + vf W32 (dig d32 ys) k ∧ Upd (only g) w wx) (fun iv _ _ => M + 2 - (intOf iv).toNat)
          case atStart => exact ⟨0, 0, zs1, Nat.zero_le _, rfl, rfl, Nat.zero_le _, Hl1.out, hO1, fun _ _ => rfl, by simp [vf], hE3⟩
          case round =>
            clear hO1 hE3 w1 p1 p1' p2 p3 p4 p5 p2' hqI lp1 hqi hri hpz la' lb' lc' lp' ls'
            obtain ⟨k, c', zs, hk, rfl, rfl, hc', hzl, hO, hz, hv, hU⟩ := hrel
            have Hzl := hide hzl
            have Hz := hide hz
            have Hv := hide hv
            clear hzl hz hv
            by_cases hlt : k < M + 2
            · obtain ⟨u1, u2⟩ := n32_bd (gat zs (j + k))
              obtain ⟨y1, y2⟩ := n32_bd (gat ys k)
              have hcell := (HS.out.upd hU (fun b o h => HY.out b (by rw [h]; simp [inA]))).cells k (by rw [HM.out]; omega)
              have hcz := hO.row.cell (i := j + k) (by rw [Hzl.out]; omega)
              have hlI : (k : Int) < (M : Int) + 2 := by omega
              have hlJ : (k : Int) < (M : Int) + 3 := by omega
              clear hlt
              go_wp2_with (refine wpList_store_own by32 one32 (w32 ((c' : Int) + (n32 (gat zs (j + k)) + n32 (gat ys k)))) rfl rfl Try.n_sz32 rfl rfl hO (by rw [Hzl.out]; omega) ?_; intro w4 hO4 hU4)
              have hbn := back_next Hzl.out (by omega : j + k < N) Hz.out Hv.out
              go_roundw
              case rel => exact ⟨k + 1, (c' + d32 (gat zs (j + k)) + d32 (gat ys k)) / W32, _, by omega, by go_num, by rw [back_cast]; rfl, by have := d32_lt (gat zs (j + k)); have := d32_lt (gat ys k); unfold W32 at *; omega, by rw [List.length_set]; exact Hzl.out, hO4, hbn.1, hbn.2, hU.trans hU4⟩
              case measure => simp [intOf]; omega
            · obtain rfl : k = M + 2 := by omega
              have hcz := hO.row.cell (i := j + (M + 2)) (by rw [Hzl.out]; omega)
              obtain ⟨u1, u2⟩ := n32_bd (gat zs (j + (M + 2)))
              obtain ⟨y1, y2⟩ := n32_bd (w32 (c' : Int))
              go_wp2_with (refine wpList_store_own by32 one32 (w32 (n32 (gat zs (j + (M + 2))) + n32 (w32 (c' : Int)))) rfl rfl Try.n_sz32 rfl rfl hO (by rw [Hzl.out]; omega) ?_; intro w4 hO4 hU4)
              go_ret
              refine ⟨⟨_, ?_, by rw [List.length_set, Hzl.out, HN.out], hO4, fun i hi => ?_, ?_⟩, hU.trans hU4⟩
              · have e : (((q - 1) : Nat) : Int) - 1 = ((Q : Nat) : Int) := by have := H1.out; omega
                rw [e, HQ.out]
                rfl
              · rw [dig_set (by rw [Hzl.out]; omega), if_neg (by omega), Hz.out i (by omega)]
                exact Hz1.out i hi
              · have hbe := back_end Hv.out (vf_lt fun i _ => d32_lt _) hc' H3.out
                have hun : d32 (gat zs (j + (M + 2))) = W32 - 1 := (Hz.out (j + (M + 2)) (.inr (Nat.le_refl _))).trans H4.out
                have hv0 : d32 (w32 (n32 (gat zs (j + (M + 2))) + n32 (w32 (c' : Int)))) = 0 := by
                  rw [hbe.1, n32_d, hun]; rfl
                show vf W32 (fun i => dig d32 (zs.set (j + (M + 2)) _) (j + i)) (M + 2) + dig d32 (zs.set (j + (M + 2)) _) (j + (M + 2)) * W32 ^ (M + 2) = _
                rw [dig_set (by rw [Hzl.out]; omega), if_pos rfl, hv0, Nat.zero_mul, Nat.add_zero, ← hbe.2]
                exact vf_congr fun i hi => by rw [dig_set (by rw [Hzl.out]; omega), if_neg (by omega)]
      · go_quiet (fail)
        go_wp2_with fail
        go_roundw
        case rel => exact ⟨q - 1, r + p, by rw [show (q : Int) - 1 = ((q - 1 : Nat) : Int) by omega], by go_num, (by have := Hqr.out; rw [Nat.sub_mul, Nat.one_mul]; have h1 : 1 * p ≤ q * p := Nat.mul_le_mul_right _ (by omega); omega), by unfold W32; omega, by omega, by have := HqW.out; omega, hE.drewN _⟩
        case measure => simp [intOf]; have := HrW.out; unfold W32 at *; omega
    · have gA : (q : Int) < 4294967296 := by unfold W32 at hA; omega
      go_wp2_with fail
      obtain ⟨qs, hqs⟩ : ∃ qs, qs = q * s := ⟨_, rfl⟩
      obtain ⟨rc, hrc⟩ : ∃ rc, rc = r * W32 + c := ⟨_, rfl⟩
      have hqsI : (q : Int) * (s : Int) = (qs : Int) := by rw [hqs]; simp
      have hqs1 : qs ≤ 18446744065119617025 := by
        rw [hqs]
        have : q * s ≤ 4294967295 * 4294967295 := Nat.mul_le_mul (by omega) (by omega)
        omega
      have e0 : IntKind.u64.wrap ((s : Nat) : Int) = (s : Int) := IntWalk.u64_in _ (by omega)
      have e1 : IntKind.u64.wrap ((q : Int) * (s : Int)) = (qs : Int) := by rw [hqsI]; exact IntWalk.u64_in _ (by omega)
      have e2 : IntKind.u64.wrap ((r : Int) * 4294967296) = (r : Int) * 4294967296 := IntWalk.u64_in _ (by omega)
      have e3 : IntKind.u64.wrap ((c : Nat) : Int) = (c : Int) := IntWalk.u64_in _ (by omega)
      have e4 : bits .or .u64 ((r : Int) * 4294967296) (c : Int) = (rc : Int) := by rw [hrc]; exact or_words HrW.out Hlc.out
      have w2 : IntKind.i64.wrap (M : Int) = (M : Int) := IntWalk.i64_in _ (by omega)
      have i1 : (0 : Int) ≤ (M : Int) := by omega
      have i2 : (M : Int) < (M : Int) + 2 := by omega
      have i3 : (M : Int) < (M : Int) + 3 := by omega
      have cs : wr.cell? ⟨b2, o2 + M, none⟩ = some (.int .u32 (s : Int)) := (hE.cell (World.block_lt_of_cell? w _ Hcell.out.2.2.2.2) (fun h => h)).trans Hcell.out.2.2.2.2
      have cc : wr.cell? ⟨g, j + M, none⟩ = some (.int .u32 (c : Int)) := (hE.cell (World.block_lt_of_cell? w _ Hcell.out.2.2.1) (fun h => h)).trans Hcell.out.2.2.1
      have Hqs := hide hqs
      have Hrc := hide hrc
      clear hqs hrc hqsI hqs1
      by_cases hC : (rc : Int) < (qs : Int)
      · have hQ1 := HI.out q r Hqr.out (.inr (by rw [← Hqs.out, ← Hrc.out]; omega))
        by_cases hB : (4294967296 : Int) ≤ (r : Int) + (p : Int)
        · go_quiet (fail)
          clear e0 e1 e2 e3 e4 w2
          go_wp2_with fail
          rw [show (q : Int) - 1 = ((q - 1 : Nat) : Int) by omega]
          have hEq : Ext w (wr.drewN nq) := hE.drewN _
          have hq2 : (q - 1) ≤ Q + 1 := (LO.out (q - 1) (r + p) (by have := Hqr.out; rw [Nat.sub_mul, Nat.one_mul]; have h1 : 1 * p ≤ q * p := Nat.mul_le_mul_right _ (by omega); omega) (.inr ⟨by have := HqW.out; omega, by unfold W32; omega⟩))
          have hq3 : (q - 1) ≤ W32 := (by have := HqW.out; omega)
          refine (take_any B g cap j (M + 2) cu cv (q - 1) (some ⟨b2, o2, none⟩) zs0 ys _ (HO.out.ext hEq) (by rw [HN.out]; omega) (by rw [HN.out]; omega) HM.out (HS.out.ext hEq) HY.out hq3).mono ?_
          rintro e w3 ⟨⟨zs1, cw, rfl, hl1, hO1, hz1, hv1, hy1, hn1⟩, hU1⟩
          have hq1 : Q ≤ (q - 1) := by omega
          have hVlt : vf W32 (dig d32 ys) (M + 2) < W32 ^ (M + 2) := vf_lt fun i _ => d32_lt _
          have hV0 : 0 < vf W32 (dig d32 ys) (M + 2) := by
            rcases Nat.eq_zero_or_pos (vf W32 (dig d32 ys) (M + 2)) with h | h
            · have := HUV.out; rw [h] at this; omega
            · exact h
          have hUs : vf W32 (fun i => dig d32 zs0 (j + i)) (M + 3) = vf W32 (fun i => dig d32 zs0 (j + i)) (M + 2) + dig d32 zs0 (j + (M + 2)) * W32 ^ (M + 2) := rfl
          by_cases hcw : cw ≤ dig d32 zs0 (j + (M + 2))
          · have hdc : decide (dig d32 zs0 (j + (M + 2)) < cw) = false := decide_eq_false (by omega)
            obtain ⟨t1, t2, t3⟩ := take_yes hv1 hUs (Nat.le_of_lt hVlt) hV0 (by rw [← HQ.out]; exact hq1) hcw
            have ht4 := hy1 hcw
            rw [hdc]
            have Hfin : Hid (Digit w B g cap zs0 ys j (M + 2) (.returned (.int .u32 (n32 (w32 (((q - 1) : Nat) : Int))))) w3) := hide ⟨⟨zs1, by rw [← t1], hl1, hO1, hz1, by rw [show M + 2 + 1 = M + 3 from rfl, show vf W32 (fun i => dig d32 zs1 (j + i)) (M + 3) = vf W32 (fun i => dig d32 zs1 (j + i)) (M + 2) + dig d32 zs1 (j + (M + 2)) * W32 ^ (M + 2) from rfl, ht4, t3, t2, Nat.zero_mul, Nat.add_zero]⟩, (Upd.ofExt hEq).trans hU1⟩
            clear t1 t2 t3 ht4 hv1 hy1 hn1 hz1 hl1 hdc hUs hVlt hV0 hq1 hq2 hq3
            go_wp2
            go_ret
            exact Hfin.out
          · have hdc : decide (dig d32 zs0 (j + (M + 2)) < cw) = true := decide_eq_true (by omega)
            rw [hdc]
            obtain ⟨t1, t2, t3⟩ := take_no hv1 hUs (Nat.le_of_lt hVlt) hV0 (vf_lt fun i _ => d32_lt _) (by rw [← HQ.out]; exact hq2) (by omega)
            have ht4 := hn1 t2
            have Hl1 := hide (hl1.trans HN.out)
            have H3 := hide t3
            have H4 := hide ht4
            have H1 := hide (t1.trans (by rw [← HQ.out]))
            have Hz1 := hide hz1
            have hE3 : Upd (only g) w w3 := (Upd.ofExt hEq).trans hU1
            have hqI : (1 : Int) ≤ (((q - 1) : Nat) : Int) := by have := H1.out; omega
            clear t1 t2 t3 ht4 hv1 hy1 hn1 hz1 hl1 hdc hUs hVlt hV0 hq1 hq2 hq3 hU1 hcw
            try clear hA
            go_wp2_with fail
            go_loopw [85, 9] (fun iv cv' wx => ∃ (k c : Nat) (zs : List (BitVec 32)), k ≤ M + 2 ∧ iv = .int .i64 k ∧ cv' = .int .u64 c ∧ c ≤ 1 ∧ zs.length = N ∧ Own wx B 75 (some ⟨g, 0, none⟩) cap (zs.map by32) ∧ (∀ i, i < j ∨ j + k ≤ i → dig d32 zs i = dig d32 zs1 i) ∧ vf W32 (fun i => dig d32 zs (j + i)) k + c * W32 ^ k = vf W32 (fun i => dig d32 zs1 (j + i)) k + vf W32 (dig d32 ys) k ∧ Upd (only g) w wx) (fun iv _ _ => M + 2 - (intOf iv).toNat)
            case atStart => exact ⟨0, 0, zs1, Nat.zero_le _, rfl, rfl, Nat.zero_le _, Hl1.out, hO1, fun _ _ => rfl, by simp [vf], hE3⟩
            case round =>
              clear hO1 hE3 w1 p1 p1' p2 p3 p4 p5 p2' hqI lp1 hqi hri hpz la' lb' lc' lp' ls'
              obtain ⟨k, c', zs, hk, rfl, rfl, hc', hzl, hO, hz, hv, hU⟩ := hrel
              have Hzl := hide hzl
              have Hz := hide hz
              have Hv := hide hv
              clear hzl hz hv
              by_cases hlt : k < M + 2
              · obtain ⟨u1, u2⟩ := n32_bd (gat zs (j + k))
                obtain ⟨y1, y2⟩ := n32_bd (gat ys k)
                have hcell := (HS.out.upd hU (fun b o h => HY.out b (by rw [h]; simp [inA]))).cells k (by rw [HM.out]; omega)
                have hcz := hO.row.cell (i := j + k) (by rw [Hzl.out]; omega)
                have hlI : (k : Int) < (M : Int) + 2 := by omega
                have hlJ : (k : Int) < (M : Int) + 3 := by omega
                clear hlt
                go_wp2_with (refine wpList_store_own by32 one32 (w32 ((c' : Int) + (n32 (gat zs (j + k)) + n32 (gat ys k)))) rfl rfl Try.n_sz32 rfl rfl hO (by rw [Hzl.out]; omega) ?_; intro w4 hO4 hU4)
                have hbn := back_next Hzl.out (by omega : j + k < N) Hz.out Hv.out
                go_roundw
                case rel => exact ⟨k + 1, (c' + d32 (gat zs (j + k)) + d32 (gat ys k)) / W32, _, by omega, by go_num, by rw [back_cast]; rfl, by have := d32_lt (gat zs (j + k)); have := d32_lt (gat ys k); unfold W32 at *; omega, by rw [List.length_set]; exact Hzl.out, hO4, hbn.1, hbn.2, hU.trans hU4⟩
                case measure => simp [intOf]; omega
              · obtain rfl : k = M + 2 := by omega
                have hcz := hO.row.cell (i := j + (M + 2)) (by rw [Hzl.out]; omega)
                obtain ⟨u1, u2⟩ := n32_bd (gat zs (j + (M + 2)))
                obtain ⟨y1, y2⟩ := n32_bd (w32 (c' : Int))
                go_wp2_with (refine wpList_store_own by32 one32 (w32 (n32 (gat zs (j + (M + 2))) + n32 (w32 (c' : Int)))) rfl rfl Try.n_sz32 rfl rfl hO (by rw [Hzl.out]; omega) ?_; intro w4 hO4 hU4)
                go_ret
                refine ⟨⟨_, ?_, by rw [List.length_set, Hzl.out, HN.out], hO4, fun i hi => ?_, ?_⟩, hU.trans hU4⟩
                · have e : (((q - 1) : Nat) : Int) - 1 = ((Q : Nat) : Int) := by have := H1.out; omega
                  rw [e, HQ.out]
                  rfl
                · rw [dig_set (by rw [Hzl.out]; omega), if_neg (by omega), Hz.out i (by omega)]
                  exact Hz1.out i hi
                · have hbe := back_end Hv.out (vf_lt fun i _ => d32_lt _) hc' H3.out
                  have hun : d32 (gat zs (j + (M + 2))) = W32 - 1 := (Hz.out (j + (M + 2)) (.inr (Nat.le_refl _))).trans H4.out
                  have hv0 : d32 (w32 (n32 (gat zs (j + (M + 2))) + n32 (w32 (c' : Int)))) = 0 := by
                    rw [hbe.1, n32_d, hun]; rfl
                  show vf W32 (fun i => dig d32 (zs.set (j + (M + 2)) _) (j + i)) (M + 2) + dig d32 (zs.set (j + (M + 2)) _) (j + (M + 2)) * W32 ^ (M + 2) = _
                  rw [dig_set (by rw [Hzl.out]; omega), if_pos rfl, hv0, Nat.zero_mul, Nat.add_zero, ← hbe.2]
                  exact vf_congr fun i hi => by rw [dig_set (by rw [Hzl.out]; omega), if_neg (by omega)]
        · go_quiet (fail)
          clear e0 e1 e2 e3 e4 w2
          go_wp2_with fail
          go_roundw
          case rel => exact ⟨q - 1, r + p, by rw [show (q : Int) - 1 = ((q - 1 : Nat) : Int) by omega], by go_num, (by have := Hqr.out; rw [Nat.sub_mul, Nat.one_mul]; have h1 : 1 * p ≤ q * p := Nat.mul_le_mul_right _ (by omega); omega), by unfold W32; omega, by omega, by have := HqW.out; omega, hE.drewN _⟩
          case measure => simp [intOf]; have := HrW.out; unfold W32 at *; omega
      · have hC' : decide ((rc : Int) < (qs : Int)) = false := decide_eq_false hC
        have hCn : decide (rc < qs) = false := decide_eq_false (by omega)
        have gA' : decide ((4294967296 : Int) ≤ (q : Int)) = false := decide_eq_false (by omega)
        have HC := hide hC
        clear hC
        go_quiet (fail)
        clear e0 e1 e2 e3 e4 w2
        go_wp2_with fail
        clear hC' hCn gA'
        have hEq : Ext w (wr.drewN nq) := hE.drewN _
        have hq2 : q ≤ Q + 1 := (LO.out q r Hqr.out (.inl ⟨by unfold W32; omega, by have := HC.out; rw [← Hqs.out, ← Hrc.out]; omega⟩))
        have hq3 : q ≤ W32 := (by unfold W32; omega)
        refine (take_any B g cap j (M + 2) cu cv q (some ⟨b2, o2, none⟩) zs0 ys _ (HO.out.ext hEq) (by rw [HN.out]; omega) (by rw [HN.out]; omega) HM.out (HS.out.ext hEq) HY.out hq3).mono ?_
        rintro e w3 ⟨⟨zs1, cw, rfl, hl1, hO1, hz1, hv1, hy1, hn1⟩, hU1⟩
        have hq1 : Q ≤ q := by omega
        have hVlt : vf W32 (dig d32 ys) (M + 2) < W32 ^ (M + 2) := vf_lt fun i _ => d32_lt _
        have hV0 : 0 < vf W32 (dig d32 ys) (M + 2) := by
          rcases Nat.eq_zero_or_pos (vf W32 (dig d32 ys) (M + 2)) with h | h
          · have := HUV.out; rw [h] at this; omega
          · exact h
        have hUs : vf W32 (fun i => dig d32 zs0 (j + i)) (M + 3) = vf W32 (fun i => dig d32 zs0 (j + i)) (M + 2) + dig d32 zs0 (j + (M + 2)) * W32 ^ (M + 2) := rfl
        by_cases hcw : cw ≤ dig d32 zs0 (j + (M + 2))
        · have hdc : decide (dig d32 zs0 (j + (M + 2)) < cw) = false := decide_eq_false (by omega)
          obtain ⟨t1, t2, t3⟩ := take_yes hv1 hUs (Nat.le_of_lt hVlt) hV0 (by rw [← HQ.out]; exact hq1) hcw
          have ht4 := hy1 hcw
          rw [hdc]
          have Hfin : Hid (Digit w B g cap zs0 ys j (M + 2) (.returned (.int .u32 (n32 (w32 ((q : Nat) : Int))))) w3) := hide ⟨⟨zs1, by rw [← t1], hl1, hO1, hz1, by rw [show M + 2 + 1 = M + 3 from rfl, show vf W32 (fun i => dig d32 zs1 (j + i)) (M + 3) = vf W32 (fun i => dig d32 zs1 (j + i)) (M + 2) + dig d32 zs1 (j + (M + 2)) * W32 ^ (M + 2) from rfl, ht4, t3, t2, Nat.zero_mul, Nat.add_zero]⟩, (Upd.ofExt hEq).trans hU1⟩
          clear t1 t2 t3 ht4 hv1 hy1 hn1 hz1 hl1 hdc hUs hVlt hV0 hq1 hq2 hq3
          go_wp2
          go_ret
          exact Hfin.out
        · have hdc : decide (dig d32 zs0 (j + (M + 2)) < cw) = true := decide_eq_true (by omega)
          rw [hdc]
          obtain ⟨t1, t2, t3⟩ := take_no hv1 hUs (Nat.le_of_lt hVlt) hV0 (vf_lt fun i _ => d32_lt _) (by rw [← HQ.out]; exact hq2) (by omega)
          have ht4 := hn1 t2
          have Hl1 := hide (hl1.trans HN.out)
          have H3 := hide t3
          have H4 := hide ht4
          have H1 := hide (t1.trans (by rw [← HQ.out]))
          have Hz1 := hide hz1
          have hE3 : Upd (only g) w w3 := (Upd.ofExt hEq).trans hU1
          have hqI : (1 : Int) ≤ ((q : Nat) : Int) := by have := H1.out; omega
          clear t1 t2 t3 ht4 hv1 hy1 hn1 hz1 hl1 hdc hUs hVlt hV0 hq1 hq2 hq3 hU1 hcw
          try clear hA
          go_wp2_with fail
          go_loopw [85, 9] (fun iv cv' wx => ∃ (k c : Nat) (zs : List (BitVec 32)), k ≤ M + 2 ∧ iv = .int .i64 k ∧ cv' = .int .u64 c ∧ c ≤ 1 ∧ zs.length = N ∧ Own wx B 75 (some ⟨g, 0, none⟩) cap (zs.map by32) ∧ (∀ i, i < j ∨ j + k ≤ i → dig d32 zs i = dig d32 zs1 i) ∧ vf W32 (fun i => dig d32 zs (j + i)) k + c * W32 ^ k = vf W32 (fun i => dig d32 zs1 (j + i)) k + vf W32 (dig d32 ys) k ∧ Upd (only g) w wx) (fun iv _ _ => M + 2 - (intOf iv).toNat)
          case atStart => exact ⟨0, 0, zs1, Nat.zero_le _, rfl, rfl, Nat.zero_le _, Hl1.out, hO1, fun _ _ => rfl, by simp [vf], hE3⟩
          case round =>
            clear hO1 hE3 w1 p1 p1' p2 p3 p4 p5 p2' hqI lp1 hqi hri hpz la' lb' lc' lp' ls'
            obtain ⟨k, c', zs, hk, rfl, rfl, hc', hzl, hO, hz, hv, hU⟩ := hrel
            have Hzl := hide hzl
            have Hz := hide hz
            have Hv := hide hv
            clear hzl hz hv
            by_cases hlt : k < M + 2
            · obtain ⟨u1, u2⟩ := n32_bd (gat zs (j + k))
              obtain ⟨y1, y2⟩ := n32_bd (gat ys k)
              have hcell := (HS.out.upd hU (fun b o h => HY.out b (by rw [h]; simp [inA]))).cells k (by rw [HM.out]; omega)
              have hcz := hO.row.cell (i := j + k) (by rw [Hzl.out]; omega)
              have hlI : (k : Int) < (M : Int) + 2 := by omega
              have hlJ : (k : Int) < (M : Int) + 3 := by omega
              clear hlt
              go_wp2_with (refine wpList_store_own by32 one32 (w32 ((c' : Int) + (n32 (gat zs (j + k)) + n32 (gat ys k)))) rfl rfl Try.n_sz32 rfl rfl hO (by rw [Hzl.out]; omega) ?_; intro w4 hO4 hU4)
              have hbn := back_next Hzl.out (by omega : j + k < N) Hz.out Hv.out
              go_roundw
              case rel => exact ⟨k + 1, (c' + d32 (gat zs (j + k)) + d32 (gat ys k)) / W32, _, by omega, by go_num, by rw [back_cast]; rfl, by have := d32_lt (gat zs (j + k)); have := d32_lt (gat ys k); unfold W32 at *; omega, by rw [List.length_set]; exact Hzl.out, hO4, hbn.1, hbn.2, hU.trans hU4⟩
              case measure => simp [intOf]; omega
            · obtain rfl : k = M + 2 := by omega
              have hcz := hO.row.cell (i := j + (M + 2)) (by rw [Hzl.out]; omega)
              obtain ⟨u1, u2⟩ := n32_bd (gat zs (j + (M + 2)))
              obtain ⟨y1, y2⟩ := n32_bd (w32 (c' : Int))
              go_wp2_with (refine wpList_store_own by32 one32 (w32 (n32 (gat zs (j + (M + 2))) + n32 (w32 (c' : Int)))) rfl rfl Try.n_sz32 rfl rfl hO (by rw [Hzl.out]; omega) ?_; intro w4 hO4 hU4)
              go_ret
              refine ⟨⟨_, ?_, by rw [List.length_set, Hzl.out, HN.out], hO4, fun i hi => ?_, ?_⟩, hU.trans hU4⟩
              · have e : ((q : Nat) : Int) - 1 = ((Q : Nat) : Int) := by have := H1.out; omega
                rw [e, HQ.out]
                rfl
              · rw [dig_set (by rw [Hzl.out]; omega), if_neg (by omega), Hz.out i (by omega)]
                exact Hz1.out i hi
              · have hbe := back_end Hv.out (vf_lt fun i _ => d32_lt _) hc' H3.out
                have hun : d32 (gat zs (j + (M + 2))) = W32 - 1 := (Hz.out (j + (M + 2)) (.inr (Nat.le_refl _))).trans H4.out
                have hv0 : d32 (w32 (n32 (gat zs (j + (M + 2))) + n32 (w32 (c' : Int)))) = 0 := by
                  rw [hbe.1, n32_d, hun]; rfl
                show vf W32 (fun i => dig d32 (zs.set (j + (M + 2)) _) (j + i)) (M + 2) + dig d32 (zs.set (j + (M + 2)) _) (j + (M + 2)) * W32 ^ (M + 2) = _
                rw [dig_set (by rw [Hzl.out]; omega), if_pos rfl, hv0, Nat.zero_mul, Nat.add_zero, ← hbe.2]
                exact vf_congr fun i hi => by rw [dig_set (by rw [Hzl.out]; omega), if_neg (by omega)]
end Go.Proofs.Ytekpjdfgpggcnaa
