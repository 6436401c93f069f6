/- A slab, walked: Burn. -/
import Derived.Test.YtejjofjhcgdedaaSlbP
namespace Go.Proofs.Ytejjofjhcgdedaa
set_option linter.unusedSimpArgs false
set_option linter.unusedVariables false
open Go.RowKit
open Sha
attribute [local go_sem] steady steadyUpon Cls same_cell anyW
attribute [local irreducible] wpHead wpTree wpHeadR
section
variable {w : World} {B : Nat} {D : Nat → Prop} {g gl : Nat} {f : Nat → Value} {x : Slv}
theorem Slb.moreD (h : Slb w B D g gl f x) {D' : Nat → Prop} (hD : ∀ k, D k → D' k) (hd : ∀ k, D' k → B ≤ k ∧ k < w.heap.size ∧ k ≠ g ∧ k ≠ gl) : Slb w B D' g gl f x :=
  ⟨h.cells, h.rows, fun i hi => (h.burnt i hi).more hD, fun i hi => (h.ink i hi).more hD, hd, h.lg, h.lgl, h.ne, h.len⟩
theorem Slb.setB (h : Slb w B D g gl f x) {i : Nat} (hi : i < x.secs.length) {v : Value} {o : Option (List B8)} (hv : FaceOk w D v o) :
    Slb (w.setCell ⟨gl, 2 * i, none⟩ v) B D g gl (put1 f (2 * i) v) ⟨x.secs.set i (o, (gat x.secs i).2), x.endless, x.supply, x.strokes⟩ ∧ Upd (only gl) w (w.setCell ⟨gl, 2 * i, none⟩ v) := by
  have hU : Upd (only gl) w (w.setCell ⟨gl, 2 * i, none⟩ v) := (Upd.refl _ _).setCell (T := only gl) (p := ⟨gl, 2 * i, none⟩) (.inl rfl) _
  have nD : ∀ k, D k → ¬ only gl k := fun k hk e => (h.data k hk).2.2.2 e
  refine ⟨⟨?_, ?_, fun j hj => ?_, fun j hj => ?_, fun k hk => ⟨(h.data k hk).1, Nat.lt_of_lt_of_le (h.data k hk).2.1 hU.size, (h.data k hk).2.2⟩, h.lg, h.lgl, h.ne, by simpa using h.len⟩, hU⟩
  · have := h.cells.upd hU (fun e => h.ne e)
    simpa [slcs] using this
  · simpa using h.rows.set (2 * i) v
  · rw [List.length_set] at hj
    dsimp only
    rw [gat_setp _ _ _ _ hj]
    by_cases hij : i = j
    · subst hij
      rw [if_pos rfl]
      have e1 : put1 f (2 * i) v (2 * i) = v := by unfold put1; rw [if_pos rfl]
      rw [e1]
      exact hv.keep hU nD
    · have e1 : put1 f (2 * i) v (2 * j) = f (2 * j) := by unfold put1; rw [if_neg (by omega)]
      rw [if_neg hij, e1]
      exact (h.burnt j hj).keep hU nD
  · rw [List.length_set] at hj
    have e1 : put1 f (2 * i) v (2 * j + 1) = f (2 * j + 1) := by unfold put1; rw [if_neg (by omega)]
    have e2 : (gat (x.secs.set i (o, (gat x.secs i).2)) j).2 = (gat x.secs j).2 := by
      rw [gat_setp _ _ _ _ hj]
      split
      · rename_i h; rw [h]
      · rfl
    dsimp only
    rw [e1, e2]
    exact (h.ink j hj).keep hU nD
theorem Slb.setI (h : Slb w B D g gl f x) {i : Nat} (hi : i < x.secs.length) {v : Value} {o : Option (List B8)} (hv : FaceOk w D v o) :
    Slb (w.setCell ⟨gl, 2 * i + 1, none⟩ v) B D g gl (put1 f (2 * i + 1) v) ⟨x.secs.set i ((gat x.secs i).1, o), x.endless, x.supply, x.strokes⟩ ∧ Upd (only gl) w (w.setCell ⟨gl, 2 * i + 1, none⟩ v) := by
  have hU : Upd (only gl) w (w.setCell ⟨gl, 2 * i + 1, none⟩ v) := (Upd.refl _ _).setCell (T := only gl) (p := ⟨gl, 2 * i + 1, none⟩) (.inl rfl) _
  have nD : ∀ k, D k → ¬ only gl k := fun k hk e => (h.data k hk).2.2.2 e
  refine ⟨⟨?_, ?_, fun j hj => ?_, fun j hj => ?_, fun k hk => ⟨(h.data k hk).1, Nat.lt_of_lt_of_le (h.data k hk).2.1 hU.size, (h.data k hk).2.2⟩, h.lg, h.lgl, h.ne, by simpa using h.len⟩, hU⟩
  · have := h.cells.upd hU (fun e => h.ne e)
    simpa [slcs] using this
  · simpa using h.rows.set (2 * i + 1) v
  · rw [List.length_set] at hj
    have e1 : put1 f (2 * i + 1) v (2 * j) = f (2 * j) := by unfold put1; rw [if_neg (by omega)]
    have e2 : (gat (x.secs.set i ((gat x.secs i).1, o)) j).1 = (gat x.secs j).1 := by
      rw [gat_setp _ _ _ _ hj]
      split
      · rename_i h; rw [h]
      · rfl
    dsimp only
    rw [e1, e2]
    exact (h.burnt j hj).keep hU nD
  · rw [List.length_set] at hj
    dsimp only
    rw [gat_setp _ _ _ _ hj]
    by_cases hij : i = j
    · subst hij
      rw [if_pos rfl]
      have e1 : put1 f (2 * i + 1) v (2 * i + 1) = v := by unfold put1; rw [if_pos rfl]
      rw [e1]
      exact hv.keep hU nD
    · have e1 : put1 f (2 * i + 1) v (2 * j + 1) = f (2 * j + 1) := by unfold put1; rw [if_neg (by omega)]
      rw [if_neg hij, e1]
      exact (h.ink j hj).keep hU nD
theorem FaceOk.slice {w : World} {D : Nat → Prop} {v : Value} {o : Option (List B8)} (h : FaceOk w D v o) : ∃ A n c, v = .slice A n c := by
  cases o with
  | none => exact ⟨none, 0, 0, h⟩
  | some bs => obtain ⟨b, c, h, _⟩ := h; exact ⟨_, _, _, h⟩
/-- what is inked lasts: two cells are stored -/
theorem Slb.burn1 (h : Slb w B D g gl f x) {i : Nat} (hi : i < x.secs.length) {b : List B8} (hb : (gat x.secs i).2 = some b) {w' : World} (hw : w' = (w.setCell ⟨gl, 2 * i, none⟩ (f (2 * i + 1))).setCell ⟨gl, 2 * i + 1, none⟩ (.slice none 0 0)) :
    ∃ f', Slb w' B D g gl f' ⟨x.secs.set i (some b, none), x.endless, x.supply, x.strokes⟩ ∧ Upd (only gl) w w' := by
  subst hw
  have hk := h.ink i hi
  rw [hb] at hk
  obtain ⟨h1, u1⟩ := h.setB hi hk
  have hv : FaceOk (w.setCell ⟨gl, 2 * i, none⟩ (f (2 * i + 1))) D (.slice none 0 0) none := rfl
  have hi2 : i < (x.secs.set i (some b, (gat x.secs i).2)).length := by simpa using hi
  obtain ⟨h2, u2⟩ := Slb.setI (x := ⟨x.secs.set i (some b, (gat x.secs i).2), x.endless, x.supply, x.strokes⟩) h1 hi2 hv
  simp only [List.set_set] at h2
  rw [gat_setp _ _ _ _ hi, if_pos rfl] at h2
  exact ⟨_, h2, u1.trans u2⟩
end
def RetBurn (w : World) (B : Nat) (D : Nat → Prop) (g gl : Nat) (x : Slv) (e : Ending) (w' : World) : Prop :=
  e = .returned (.int .i64 x.burnE) ∧ ∃ f' : Nat → Value, Slb w' B D g gl f' x.burnt ∧ Upd (fun k => k = g ∨ k = gl) w w'
set_option maxRecDepth 100000 in
set_option maxHeartbeats 2000000 in
theorem sburn_any (B : Nat) (D : Nat → Prop) (g gl : Nat) (f : Nat → Value) (x : Slv) (w : World) (h : Slb w B D g gl f x) (hx : x.fit 900000) (hB : B ≤ w.heap.size) :
    Calls Try.prog 13 #[.pointer (some ⟨g, 0, none⟩)] w (RetBurn w B D g gl x) := by
  have H := hide h
  have Hx := hide hx
  clear h hx
  go_enter Try.func13, Try.ntmps13
  go_wp2_with fail
  refine (slook_any B D g gl f x 0 w H.out).mono ?_
  rintro e w1 ⟨rfl, rfl⟩
  obtain ⟨r, hr⟩ : ∃ r, r = x.look 0 := ⟨_, rfl⟩
  rw [← hr]
  have Hr := hide hr
  clear hr
  by_cases h0 : r = 0
  case neg =>
    have h0b : (r == 0) = false := beq_eq_false_iff_ne.2 h0
    have hE : Hid (x.burnE = r ∧ x.burnt = x) := hide (by unfold Slv.burnE Slv.burnt; rw [← Hr.out, if_neg h0, if_neg h0]; exact ⟨rfl, rfl⟩)
    go_wp2_with fail
    go_ret
    exact ⟨by rw [hE.out.1]; rfl, f, by rw [hE.out.2]; exact H.out, Upd.refl _ _⟩
  subst h0
  have hlk : x.look 0 = 0 := Hr.out.symm
  obtain ⟨N, hN⟩ : ∃ N, N = x.secs.length := ⟨_, rfl⟩
  have hE : Hid (x.burnE = (if (x.burnK N).2 then 0 else 12) ∧ x.burnt = (x.burnK N).1) := hide (by unfold Slv.burnE Slv.burnt; rw [hlk, if_pos rfl, if_pos rfl, hN]; exact ⟨rfl, rfl⟩)
  have hN4 : N ≤ 4096 := by have := H.out.len; omega
  have q0 : w1.cell? ⟨g, 0, none⟩ = some (.slice (some ⟨gl, 0, none⟩) N N) := by rw [hN]; exact H.out.cells.at 0 rfl
  have HN := hide hN
  clear hlk Hr hN
  go_wp2_with fail
  clear q0
  go_loopw [16] (fun i wr => ∃ (k : Nat) (y : Slv) (fy : Nat → Value), k ≤ N ∧ i = .int .i64 (k : Int) ∧ Hid (x.burnK k = (y, true)) ∧ Slb wr B D g gl fy y ∧ Upd (fun k => k = g ∨ k = gl) w1 wr) (fun i _ => N - (intOf i).toNat)
  case atStart => exact ⟨0, x, f, Nat.zero_le _, rfl, hide rfl, H.out, Upd.refl _ _⟩
  case round =>
    obtain ⟨k, y, fy, hk, rfl, Hy, hS, hU⟩ := hrel
    have HS := hide hS
    have HU := hide hU
    clear hS hU
    by_cases hlt : k < N
    case neg =>
      obtain rfl : k = N := by omega
      have hltI : ¬ ((k : Int) < (k : Int)) := by omega
      go_wp2_with fail
      go_ret
      have hyk := Hy.out
      refine ⟨by rw [hE.out.1, hyk]; rfl, fy, ?_, HU.out⟩
      rw [hE.out.2, hyk]
      exact HS.out
    have hltI : (k : Int) < (N : Int) := by omega
    have hyl : y.secs.length = N := by
      have := x.burnK_len k
      rw [Hy.out] at this
      rw [HN.out]; exact this
    have r0 : wr.cell? ⟨gl, k * 2, none⟩ = some (fy (2 * k)) := by rw [Nat.mul_comm k 2]; exact HS.out.rows.cell (by omega)
    have r1 : wr.cell? ⟨gl, k * 2 + 1, none⟩ = some (fy (2 * k + 1)) := by rw [Nat.mul_comm k 2]; exact HS.out.rows.cell (by omega)
    have K0 := hide (HS.out.burnt k (by omega))
    have K1 := hide (HS.out.ink k (by omega))
    obtain ⟨⟨bu, ik⟩, hs⟩ : ∃ s, s = gat y.secs k := ⟨_, rfl⟩
    have Hs := hide hs
    have Hyl := hide hyl
    clear hs hyl
    obtain ⟨A0, n0, c0, hb0⟩ := K0.out.slice
    rw [hb0] at r0
    have Hb0 := hide hb0
    clear hb0
    cases ik with
    | none =>
      have k1 : fy (2 * k + 1) = .slice none 0 0 := by have := K1.out; rw [← Hs.out] at this; exact this
      rw [k1] at r1
      have hn : Hid (x.burnK (k + 1) = (y, true)) := hide (by unfold Slv.burnK; rw [Hy.out]; dsimp only; rw [← Hs.out])
      clear k1
      have hnl := fun W : World => Lib.run_eql_slice_nil (P := Try.prog) W 26 5 none 0 0 0 0 Try.under_bs
      go_wp2_with fail
      go_roundw
      case rel => exact ⟨k + 1, y, fy, by omega, by go_num, hn, HS.out.keep (T := fun k => wr.heap.size ≤ k) (by repeat (first | (with_reducible exact Upd.refl _ _) | (with_reducible assumption) | (refine Upd.setCell ?_ (.inr (by first | exact Nat.le_refl _ | (dsimp only; omega) | (simp; done) | (simp; omega))) _) | (with_reducible refine Upd.alloc ?_ _) | (with_reducible refine Upd.drew ?_) | (with_reducible refine Upd.trans ?_ (by with_reducible assumption)))) (fun k h1 h2 h3 => by omega), HU.out.trans (by repeat (first | (with_reducible exact Upd.refl _ _) | (with_reducible assumption) | (refine Upd.setCell ?_ (.inr (by first | exact Nat.le_refl _ | (dsimp only; omega) | (simp; done) | (simp; omega))) _) | (with_reducible refine Upd.alloc ?_ _) | (with_reducible refine Upd.drew ?_) | (with_reducible refine Upd.trans ?_ (by with_reducible assumption))))⟩
      case measure => simp [intOf]; omega
    | some b =>
      obtain ⟨bb, bc, k1, hbl, hbc, hbm, hbD, hbS⟩ : ∃ bb c, fy (2 * k + 1) = .slice (some ⟨bb, 0, none⟩) 64 c ∧ b.length = 64 ∧ 64 ≤ c ∧ c ≤ maxLen ∧ D bb ∧ Sl by8 wr (some ⟨bb, 0, none⟩) b := by have := K1.out; rw [← Hs.out] at this; exact this
      rw [k1] at r1
      have Hk1 := hide k1
      have hfit : y.fit 1000000 := by
        have := Slv.burnK_fit Hx.out k
        rw [Hy.out] at this
        exact Slv.fit_up this (by omega)
      have Hfit := hide hfit
      clear hfit k1 hbl hbc hbm hbD hbS
      have hnl := fun W : World => Lib.run_eql_slice_nil (P := Try.prog) W 26 5 (some ⟨bb, 0, none⟩) 64 bc 0 0 Try.under_bs
      go_wp2_with fail
      have hg := HS.out.cells.lt
      have hE2 : Ext wr (wr.alloc (.cells #[.slice A0 n0 c0, .slice (some ⟨bb, 0, none⟩) 64 bc] 74)) := (by repeat (first | (with_reducible exact Upd.refl _ _) | (with_reducible assumption) | (refine Upd.setCell ?_ (.inr (by first | exact Nat.le_refl _ | (dsimp only; omega) | (simp; done) | (simp; omega))) _) | (with_reducible refine Upd.alloc ?_ _) | (with_reducible refine Upd.drew ?_) | (with_reducible refine Upd.trans ?_ (by with_reducible assumption))))
      have hbox : (wr.alloc (.cells #[.slice A0 n0 c0, .slice (some ⟨bb, 0, none⟩) 64 bc] 74)).cell? ⟨wr.heap.size, 1, none⟩ = some (.slice (some ⟨bb, 0, none⟩) 64 bc) := (Blk.new wr _ _).at 1 rfl

      refine (sstroke_any B D g gl fy y _ (HS.out.ext hE2) Hfit.out).mono ?_
      rintro e w2 ⟨rfl, hS2, hU2⟩
      have q5 : w2.cell? ⟨wr.heap.size, 1, none⟩ = some (.slice (some ⟨bb, 0, none⟩) 64 bc) := (hU2.cell (p := ⟨wr.heap.size, 1, none⟩) (by simp) (fun e => by have : wr.heap.size = g := e; omega)).trans hbox
      have hU3 : Upd (fun k => k = g ∨ k = gl) wr w2 := (hE2.mono (fun k _ h => h.elim)).trans' hU2 (fun k _ h => .inl h)
      clear hbox
      cases hout : y.out with
      | true =>
        have hys : y.stroke = y := by unfold Slv.stroke; rw [hout]; rfl
        have hn : (x.burnK N).1 = y ∧ (x.burnK N).2 = false := by
          have h1 : x.burnK (k + 1) = (y, false) := by
            unfold Slv.burnK
            rw [Hy.out]
            dsimp only
            rw [← Hs.out]
            dsimp only
            rw [hout, if_pos rfl]
          have h2 := Slv.burnK_stop (x := x) (i := k + 1) (by rw [h1]) (N - (k + 1))
          rw [show k + 1 + (N - (k + 1)) = N by omega, h1] at h2
          rw [h2]
          exact ⟨rfl, rfl⟩
        rw [hys] at hS2
        have Hn := hide hn
        have HS2 := hide hS2
        have HU3 := hide hU3
        clear hn hS2 hU3 hU2 hys hout hE2
        go_wp2_with fail
        go_ret
        refine ⟨by rw [hE.out.1, Hn.out.2]; rfl, fy, ?_, HU.out.trans HU3.out⟩
        rw [hE.out.2, Hn.out.1]
        exact HS2.out
      | false =>
        have hn : Hid (x.burnK (k + 1) = (⟨y.secs.set k (some b, none), y.stroke.endless, y.stroke.supply, y.stroke.strokes⟩, true)) := hide (by
          unfold Slv.burnK
          rw [Hy.out]
          dsimp only
          rw [← Hs.out]
          dsimp only
          rw [hout, if_neg (by decide)])
        have hsl : y.stroke.secs.length = N := by rw [Slv.stroke_secs]; exact Hyl.out
        have p0 : w2.cell? ⟨g, 0, none⟩ = some (.slice (some ⟨gl, 0, none⟩) N N) := by have h := hS2.cells.at 0 rfl; rw [hsl] at h; exact h
        have z0 : w2.cell? ⟨gl, k * 2, none⟩ = some (fy (2 * k)) := by rw [Nat.mul_comm k 2]; exact hS2.rows.cell (by omega)
        have z1 : w2.cell? ⟨gl, k * 2 + 1, none⟩ = some (fy (2 * k + 1)) := by rw [Nat.mul_comm k 2]; exact hS2.rows.cell (by omega)
        have z2 := hS2.rows.frozen (k * 2)
        have z3 := hS2.rows.frozen (k * 2 + 1)
        obtain ⟨f', hS4, hU4⟩ := (hS2.ext (Upd.refl _ _).drew).burn1 (i := k) (b := b) (by omega) (by rw [Slv.stroke_secs, ← Hs.out]) (w' := (w2.drew.setCell ⟨gl, k * 2, none⟩ (.slice (some ⟨bb, 0, none⟩) 64 bc)).setCell ⟨gl, k * 2 + 1, none⟩ (.slice none 0 0)) (by rw [Nat.mul_comm k 2, Hk1.out])
        rw [Slv.stroke_secs] at hS4
        have HS4 := hide hS4
        have HU4 := hide hU4
        have HU3 := hide hU3
        clear hS4 hU4 hU3 hU2 hout hE2 hS2 hsl
        go_wp2_with fail
        refine wp_region_plan (Same _) 9 [(false,0), (false,1), (false,2), (false,3), (false,4), (false,5), (false,6), (false,7), (false,8)] (by kernel_rfl) (by kernel_rfl) rfl (fun hne => ?_)
        repeat (refine head_q rfl (fun K hK => ?_); have hK2 := hide hK; clear hK; go_simp; refine hK2.out _ ?_; clear hK2 K)
        refine head_nil ?_
        try simp only [List.drop_succ_cons, List.drop_zero]
        go_wp2_with fail
        go_roundw
        case rel => exact ⟨k + 1, _, f', by omega, by go_num, hn, HS4.out, (HU.out.trans (HU3.out.trans (Upd.refl _ _).drew)).trans' HU4.out (fun k _ h => .inr h)⟩
        case measure => simp [intOf]; omega
end Go.Proofs.Ytejjofjhcgdedaa
