/- Division of numbers, all cases; the greatest number that divides two, walked: Gcd. -/
import Derived.Test.YtekpjdfgpggcnaaNatP
namespace Go.Proofs.Ytekpjdfgpggcnaa
set_option linter.unusedSimpArgs false
set_option linter.unusedVariables false
open Go.RowKit
open Nt
attribute [local go_sem] by32 wrap_w32 steady steadyUpon Cls same_cell

theorem div_any (va vb : Value) (a b k : Nat) (w : World) (hVa : NatV w va a) (hVb : NatV w vb b) (hFa : Fit k a) (hFb : Fit k b) (hk : k ≤ 1000000) (hb0 : 0 < b) :
    Calls Try.prog 28 #[va, vb] w (RetD w (a / b) (a % b) 0) := by
  by_cases hab : a < b
  · rw [Nat.div_eq_of_lt hab, Nat.mod_eq_of_lt hab]
    exact div_less va vb a b k w hVa hVb hFa hFb hk hab
  · by_cases hW : b < W32
    · exact div_one va vb a b k w hVa hVb hFa hFb hk hab hb0 hW
    · obtain ⟨B, lb, cb, ys, rfl, hly, hcb, hmb, hSb, hTb, hnb⟩ := hVb.open_
      have h2 : 2 ≤ lb := by
        rcases Nat.lt_or_ge lb 2 with h | h
        · have h1 := numOf_lt (xs := ys) d32_lt
          rw [hnb, hly] at h1
          have h3 : W32 ^ lb ≤ W32 ^ 1 := Nat.pow_le_pow_right (by decide) (by omega)
          rw [Nat.pow_one] at h3
          omega
        · exact h
      obtain ⟨M, rfl⟩ : ∃ M, lb = M + 2 := ⟨lb - 2, by omega⟩
      exact div_many va B cb M a b k ys w hVa hVb hFa hFb hk hab hly hcb hmb hSb hTb hnb

theorem NatV.uniq {w : World} {v : Value} {n m : Nat} (h : NatV w v n) (h' : NatV w v m) : n = m := by
  obtain ⟨A, l, c, xs, rfl, hl, _, _, hS, _, hn⟩ := h.open_
  obtain ⟨A', l', c', ys, e, hl', _, _, hS', _, hn'⟩ := h'.open_
  cases e
  rw [← hn, ← hn']
  unfold numOf
  rw [hl, hl']
  refine vf_congr fun i hi => ?_
  obtain ⟨b, o, rfl, h1⟩ := hS i (by omega)
  obtain ⟨b', o', e, h2⟩ := hS' i (by omega)
  cases e
  rw [h1] at h2
  unfold dig
  injection h2 with h2
  unfold by32 at h2
  injection h2 with _ h2
  unfold n32 at h2
  unfold d32
  omega
/-- the world behind a walk gets a name -/
theorem name_w {P : Program} {c : Code} {Q : Exit → Act → World → Prop} {a : Act} {W : World} (h : ∀ W', W' = W → c.wp P Q a W') : c.wp P Q a W := h W rfl
/-- the number in a block, if there is one -/
noncomputable def natAt (w : World) (g : Nat) : Nat := by
  classical
  exact if h : ∃ n s, w.cell? ⟨g, 0, none⟩ = some s ∧ NatV w (.agg #[s]) n then Classical.choose h else 0
theorem natAt_eq {w : World} {g n : Nat} {s : Value} (hc : w.cell? ⟨g, 0, none⟩ = some s) (h : NatV w (.agg #[s]) n) : natAt w g = n := by
  have hex : ∃ n s, w.cell? ⟨g, 0, none⟩ = some s ∧ NatV w (.agg #[s]) n := ⟨n, s, hc, h⟩
  unfold natAt
  rw [dif_pos hex]
  obtain ⟨s', h1, h2⟩ := Classical.choose_spec hex
  rw [hc] at h1
  injection h1 with h1
  subst h1
  exact h2.uniq h

set_option maxRecDepth 100000 in
set_option maxHeartbeats 4000000 in
theorem gcd_any (va vb : Value) (a b k : Nat) (w : World) (hVa : NatV w va a) (hVb : NatV w vb b) (hFa : Fit k a) (hFb : Fit k b) (hk : k ≤ 1000000) :
    Calls Try.prog 26 #[va, vb] w (RetN w (Nat.gcd a b)) := by
  obtain ⟨A, la, ca, xs, rfl, -⟩ := hVa.open_
  obtain ⟨B, lb, cb, ys, rfl, -⟩ := hVb.open_
  go_enter Try.func26, Try.ntmps26
  go_wp2_with fail
  go_loopw [] (fun wx => ∃ (x y : Nat) (X : Option Addr) (lx cx : Nat) (Y : Option Addr) (ly cy : Nat), Box wx w.heap.size 26 (.slice X lx cx) ∧ Box wx (w.heap.size + 1) 26 (.slice Y ly cy) ∧ Box wx (w.heap.size + 1 + 1) 26 (.slice none 0 0) ∧ NatV wx (.agg #[.slice X lx cx]) x ∧ NatV wx (.agg #[.slice Y ly cy]) y ∧ Fit k x ∧ Fit k y ∧ Nat.gcd x y = Nat.gcd a b ∧ Ext w wx) (fun wx => natAt wx (w.heap.size + 1))
  case atStart => exact ⟨a, b, A, la, ca, B, lb, cb, (by repeat (first | (with_reducible refine Box.new_at ?_; (simp; done)) | (with_reducible assumption) | (with_reducible refine Box.alloc ?_ _) | (with_reducible refine Box.drew ?_) | (with_reducible refine Box.ext ?_ (by with_reducible assumption)))), (by repeat (first | (with_reducible refine Box.new_at ?_; (simp; done)) | (with_reducible assumption) | (with_reducible refine Box.alloc ?_ _) | (with_reducible refine Box.drew ?_) | (with_reducible refine Box.ext ?_ (by with_reducible assumption)))), (by repeat (first | (with_reducible refine Box.new_at ?_; (simp; done)) | (with_reducible assumption) | (with_reducible refine Box.alloc ?_ _) | (with_reducible refine Box.drew ?_) | (with_reducible refine Box.ext ?_ (by with_reducible assumption)))), hVa.ext (by repeat (first | (with_reducible exact Upd.refl _ _) | (with_reducible assumption) | (refine Upd.setCell ?_ (.inr (by first | exact Nat.le_refl _ | (dsimp only; omega) | (simp; done) | (simp; omega))) _) | (with_reducible refine Upd.alloc ?_ _) | (with_reducible refine Upd.drew ?_) | (with_reducible refine Upd.trans ?_ (by with_reducible assumption)))), hVb.ext (by repeat (first | (with_reducible exact Upd.refl _ _) | (with_reducible assumption) | (refine Upd.setCell ?_ (.inr (by first | exact Nat.le_refl _ | (dsimp only; omega) | (simp; done) | (simp; omega))) _) | (with_reducible refine Upd.alloc ?_ _) | (with_reducible refine Upd.drew ?_) | (with_reducible refine Upd.trans ?_ (by with_reducible assumption)))), hFa, hFb, rfl, (by repeat (first | (with_reducible exact Upd.refl _ _) | (with_reducible assumption) | (refine Upd.setCell ?_ (.inr (by first | exact Nat.le_refl _ | (dsimp only; omega) | (simp; done) | (simp; omega))) _) | (with_reducible refine Upd.alloc ?_ _) | (with_reducible refine Upd.drew ?_) | (with_reducible refine Upd.trans ?_ (by with_reducible assumption))))⟩
  case round =>
    obtain ⟨x, y, X, lx, cx, Y, ly, cy, hB1, hB2, hB3, hVx, hVy, hFx, hFy, hg, hE⟩ := hrel
    have Hg := hide hg
    clear hg
    have c1 := hB1.cell
    have c2 := hB2.cell
    by_cases hy : y = 0
    · subst hy
      have c3 := hB3.cell
      have f3 := hB3.frozen
      go_wp2_with (go_at_call 23; go_must (refine (zero_any _ 0 _ hVy).mono ?_); rintro e w4 ⟨rfl, hU4⟩; have hB1' := hB1.ext hU4; have hB3' := hB3.ext hU4; have d1 := hB1'.cell; have d3 := hB3'.cell; have f3' := hB3'.frozen)
      have q4 := (hB3'.set (.slice X lx cx)).cell
      have hgx : x = Nat.gcd a b := by rw [← Hg.out, Nat.gcd_zero_right]
      exact bodyPost_ret (v := .agg #[.slice X lx cx]) (by simp [results, Try.results26, go_sem, q4]) rfl ⟨_, _, _, rfl, ((hVx.ext hU4).far d3).of_eq hgx, (hE.trans hU4).setCell (p := ⟨w.heap.size + 1 + 1, 0, none⟩) (.inr (by simp; omega)) _⟩
    · have Hy := hide hVy
      have k2 := hB2
      go_wp2_with (first
        | (go_at_call 23; go_must (refine (zero_any _ y _ hVy).mono ?_); rintro e w4 ⟨rfl, hU4⟩; have hB1' := hB1.ext hU4; have hB2' := hB2.ext hU4; have hB3' := hB3.ext hU4; have d1 := hB1'.cell; have d2 := hB2'.cell; clear c1 c2)
        | (go_at_call 28; go_must (refine (div_any _ _ x y k _ (hVx.ext hU4) (hVy.ext hU4) hFx hFy hk (by omega)).mono ?_); rintro e w5 ⟨A1, l1, c1, A2, l2, c2, rfl, hV1, hV2, hU5⟩; have hB1'' := hB1'.ext hU5; have hB2'' := hB2'.ext hU5; have hB3'' := hB3'.ext hU5; clear d1 d2 hB1' hB2' hB3'))
      refine name_w (fun W hW => ?_)
      have hz5 : w.heap.size + 1 + 1 < w5.heap.size := hB3''.lt
      have b1 : Box W w.heap.size 26 (.slice X lx cx) := by rw [hW]; exact (hB1''.alloc _).alloc _
      have b2 : Box W (w.heap.size + 1) 26 (.slice Y ly cy) := by rw [hW]; exact (hB2''.alloc _).alloc _
      have b3 : Box W (w.heap.size + 1 + 1) 26 (.slice none 0 0) := by rw [hW]; exact (hB3''.alloc _).alloc _
      have b6 : Box W (w5.heap.size + 1) 26 (.slice A2 l2 c2) := by rw [hW]; exact Box.new_at (by simp)
      have hEW : Ext w W := by rw [hW]; exact ((((hE.trans hU4).trans hU5).alloc _).alloc _)
      have hVy' : NatV W (.agg #[.slice Y ly cy]) y := by rw [hW]; exact hVy.ext (((hU4.trans hU5).alloc _).alloc _)
      have hV2' : NatV W (.agg #[.slice A2 l2 c2]) (x % y) := by rw [hW]; exact hV2.ext (((Upd.refl _ w5).alloc _).alloc _)
      clear hW hB1'' hB2'' hB3'' hU4 hU5 hB1 hB2 hB3 hE hVx
      have k2' := fun x : Wd (Upd (only w.heap.size) W.drew) => (x.ok.cell (p := ⟨w.heap.size + 1, 0, none⟩) b2.drew.lt (by unfold only; simp)).trans b2.drew.cell
      have k6 := fun x : Wd (Upd (only w.heap.size) W.drew) => (x.ok.cell (p := ⟨w5.heap.size + 1, 0, none⟩) b6.drew.lt (by unfold only; simp; omega)).trans b6.drew.cell
      refine wp_region_plan (Upd (only w.heap.size) _) 3 [(false,0), (false,1), (true,2)] (by kernel_rfl) (by kernel_rfl) (Upd.refl _ _) (fun hne => ?_)
      repeat (refine head_q rfl (fun K hK => ?_); have hK2 := hide hK; clear hK; go_simp; refine hK2.out _ ?_; clear hK2 K)
      clear k2' k6
      refine head_l rfl ?_
      have m1 := b1.drew.cell
      have m2 := b1.drew.frozen
      go_wp2_with fail
      refine ⟨Cls (Upd (only w.heap.size) W.drew), fun _ h => h, ⟨⟨_, (Upd.refl (only w.heap.size) W.drew).setCell (p := ⟨w.heap.size, 0, none⟩) (.inl rfl) _⟩, rfl⟩, ?_⟩
      refine head_nil ?_
      try simp only [List.drop_succ_cons, List.drop_zero]
      clear m1 m2
      have b2' := b2.far (p := ⟨w.heap.size, 0, none⟩) (by simp) (.slice Y ly cy)
      have m3 := b2'.cell
      have m4 := b2'.frozen
      have m5 := b2.cell
      have m6 := b2.frozen
      go_wp2_with fail
      go_roundw
      case rel => exact ⟨y, x % y, _, _, _, _, _, _, (b1.set _).far (by simp) _, b2'.set _, ((b3.far (by simp; omega) _).far (by simp) _), (hVy'.far (v := .slice Y ly cy) b1.cell).far b2'.cell, (hV2'.far (v := .slice Y ly cy) b1.cell).far b2'.cell, hFy, Nat.lt_of_le_of_lt (Nat.mod_le _ _) hFx, by rw [← Hg.out, Nat.gcd_comm x y, Nat.gcd_rec y x, Nat.gcd_comm], ((hEW.setCell (p := ⟨w.heap.size, 0, none⟩) (.inr (by simp)) _).setCell (p := ⟨w.heap.size + 1, 0, none⟩) (.inr (by simp)) _).drew⟩
      case measure =>
        have e1 := natAt_eq (b2'.set (.slice A2 l2 c2)).drew.cell (show NatV ((W.setCell ⟨w.heap.size, 0, none⟩ (.slice Y ly cy)).setCell ⟨w.heap.size + 1, 0, none⟩ (.slice A2 l2 c2)).drew _ _ from ((hV2'.far (v := .slice Y ly cy) b1.cell).far (v := .slice A2 l2 c2) b2'.cell))
        have e2 := natAt_eq k2.cell Hy.out
        rw [e1, e2]
        exact Nat.mod_lt _ (by omega)
end Go.Proofs.Ytekpjdfgpggcnaa
