/- Rings of numbers, walked: New, Modulus. -/
import Derived.Test.YtekpjdfgpggcnaaLawB
import Derived.Test.YtekpjdfgpggcnaaFreeS
namespace Go.Proofs.Ytekpjdfgpggcnaa
set_option linter.unusedSimpArgs false
set_option linter.unusedVariables false
open Go.RowKit
open Nt
attribute [local go_sem] steady steadyUpon Cls same_cell
attribute [local irreducible] wpHead wpTree

/-- Block g is two cells. -/
def Two (w : World) (g : Nat) (t : TypeId) (a b : Value) : Prop := w.heap[g]? = some (.cells #[a, b] t (0, 0))
section two
variable {w w' : World} {g : Nat} {t : TypeId} {a b u : Value} {T : Nat → Prop}
theorem Two.lt (h : Two w g t a b) : g < w.heap.size := (Array.getElem?_eq_some_iff.1 h).1
theorem Two.cell0 (h : Two w g t a b) : w.cell? ⟨g, 0, none⟩ = some a := by unfold Two at h; simp [World.cell?, h]
theorem Two.cell1 (h : Two w g t a b) : w.cell? ⟨g, 1, none⟩ = some b := by unfold Two at h; simp [World.cell?, h]
theorem Two.frozen (h : Two w g t a b) (o : Nat) : w.frozen? ⟨g, o, none⟩ = false := by unfold Two at h; simp [World.frozen?, h]
theorem Two.upd (h : Two w g t a b) (hu : Upd T w w') (hT : ¬ T g) : Two w' g t a b := (hu.block g h.lt hT).trans h
theorem Two.ext (h : Two w g t a b) (hu : Ext w w') : Two w' g t a b := h.upd hu (fun h => h)
theorem Two.new (w : World) (t : TypeId) (a b : Value) : Two (w.alloc (.cells #[a, b] t)) w.heap.size t a b := heap_alloc_new w _
theorem Two.drew (h : Two w g t a b) : Two w.drew g t a b := h
theorem Two.set1 (h : Two w g t a b) (u : Value) : Two (w.setCell ⟨g, 1, none⟩ u) g t a u := by
  unfold Two at *; simp [World.setCell, Array.getElem?_modify, h]
theorem Two.far (h : Two w g t a b) {p : Addr} (hp : g ≠ p.block) (u : Value) : Two (w.setCell p u) g t a b := (Below.heap_setCell w p u g hp).trans h
end two
theorem NatV.far64 {w : World} {s : Value} {n : Nat} {p : Addr} {m : Int} {v : Value} (h : NatV w s n) (hc : w.cell? p = some (.int .u64 m)) : NatV (w.setCell p v) s n := by
  obtain ⟨s, rfl, h⟩ := h
  exact ⟨s, rfl, h.far hc (fun x e => by unfold by32 at e; injection e with e; cases e)⟩
/-- what a ring keeps of a small modulus -/
def smallOf (n : Nat) : Int := if n < 4294967296 then (n : Int) else 0
/-- Block g is a ring of the modulus n. -/
def RingV (w : World) (g n : Nat) : Prop := ∃ A l c, Two w g 90 (.slice A l c) (.int .u64 (smallOf n)) ∧ NatV w (.agg #[.slice A l c]) n ∧ 2 ≤ n
theorem RingV.ext {w w' : World} {g n : Nat} (h : RingV w g n) (hu : Ext w w') : RingV w' g n := by
  obtain ⟨A, l, c, h1, h2, h3⟩ := h
  exact ⟨A, l, c, h1.ext hu, h2.ext hu, h3⟩
theorem RingV.two {w : World} {g n : Nat} (h : RingV w g n) : 2 ≤ n := by
  obtain ⟨A, l, c, h1, h2, h3⟩ := h
  exact h3
/-- A ring is handed back. -/
def RetRing (w : World) (n : Nat) (e : Ending) (w' : World) : Prop := ∃ g, e = .returned (.tuple #[.pointer (some ⟨g, 0, none⟩), .int .i64 0]) ∧ RingV w' g n ∧ w.heap.size ≤ g ∧ Ext w w'
set_option maxRecDepth 100000 in
set_option maxHeartbeats 1000000 in
theorem mnew_no (v : Value) (n k : Nat) (w : World) (hV : NatV w v n) (hF : Fit k n) (hk : k ≤ 1000000) (hn : n < 2) (hk1 : 1 ≤ k) :
    Calls Try.prog 43 #[v] w fun e w' => e = .returned (.tuple #[.pointer none, .int .i64 1]) ∧ Ext w w' := by
  obtain ⟨A, l, c, xs, rfl, -⟩ := hV.open_
  have hc : cmpI n 2 = -1 := cmpI_lt hn
  have hF2 : Fit k 2 := Fit.mono (by unfold Fit; decide) hk1
  go_enter Try.func43, Try.ntmps43
  go_wp2_with fail
  have b1 : Box (w.alloc (.cells #[.slice A l c] 26)) w.heap.size 26 (.slice A l c) := Box.new _ _ _
  have hE : Ext w (w.alloc (.cells #[.slice A l c] 26)) := (by repeat (first | (with_reducible exact Upd.refl _ _) | (with_reducible assumption) | (refine Upd.setCell ?_ (.inr (by first | exact Nat.le_refl _ | (dsimp only; omega) | (simp; done) | (simp; omega))) _) | (with_reducible refine Upd.alloc ?_ _) | (with_reducible refine Upd.drew ?_) | (with_reducible refine Upd.trans ?_ (by with_reducible assumption))))
  generalize (w.alloc (.cells #[.slice A l c] 26)) = W at b1 hE ⊢
  have hG : Ext W.drew W.drew := Upd.refl _ _
  have k1 := fun x : Wd (Ext W.drew) => (x.ok.cell (p := ⟨w.heap.size, 0, none⟩) b1.drew.lt (fun h => h)).trans b1.drew.cell
  refine wp_region_plan (Ext _) 3 [(false,0), (true,1), (true,2)] (by kernel_rfl) (by kernel_rfl) (Upd.refl _ _) (fun hne => ?_)
  repeat (refine head_q rfl (fun K hK => ?_); have hK2 := hide hK; clear hK; go_simp; refine hK2.out _ ?_; clear hK2 K)
  refine head_l rfl ?_
  go_wp2_with (go_at_call 29; go_must (refine (new_any 2 _ (by omega)).mono ?_); rintro e w2 ⟨A2, l2, c2, rfl, hV2, hU⟩; replace hG := hG.trans hU)
  refine ⟨Cls (Ext _), fun _ h => h, ⟨⟨_, hG⟩, rfl⟩, ?_⟩
  repeat (refine head_q rfl (fun K hK => ?_); have hK2 := hide hK; clear hK; go_simp; refine hK2.out _ ?_; clear hK2 K)
  refine head_l rfl ?_
  go_wp2_with (go_at_call 24; go_must (refine (cmp_any _ _ n 2 k _ (hV.ext (hE.trans hG.undrew)) hV2 hF hF2 hk).mono ?_); rintro e w3 ⟨rfl, hU⟩; rw [hc]; replace hG := hG.trans hU)
  refine ⟨Cls (Ext _), fun _ h => h, ⟨⟨_, hG⟩, rfl⟩, ?_⟩
  repeat (refine head_q rfl (fun K hK => ?_); have hK2 := hide hK; clear hK; go_simp; refine hK2.out _ ?_; clear hK2 K)
  refine head_nil ?_
  try simp only [List.drop_succ_cons, List.drop_zero]
  go_wp2_with fail
  go_ret2
  exact ⟨rfl, hE.trans hG.undrew⟩
set_option maxRecDepth 100000 in
set_option maxHeartbeats 1000000 in
theorem mnew_yes (v : Value) (n k : Nat) (w : World) (hV : NatV w v n) (hF : Fit k n) (hk : k ≤ 1000000) (hn : 2 ≤ n) :
    Calls Try.prog 43 #[v] w (RetRing w n) := by
  obtain ⟨A, l, c, xs, rfl, -⟩ := hV.open_
  have hc := hide (cmpI_ge hn)
  have hc2 : 0 ≤ cmpI n 2 := hc.out
  have hF2 : Fit k 2 := hF.le hn
  go_enter Try.func43, Try.ntmps43
  go_wp2_with fail
  have b1 : Box (w.alloc (.cells #[.slice A l c] 26)) w.heap.size 26 (.slice A l c) := Box.new _ _ _
  have hE : Ext w (w.alloc (.cells #[.slice A l c] 26)) := (by repeat (first | (with_reducible exact Upd.refl _ _) | (with_reducible assumption) | (refine Upd.setCell ?_ (.inr (by first | exact Nat.le_refl _ | (dsimp only; omega) | (simp; done) | (simp; omega))) _) | (with_reducible refine Upd.alloc ?_ _) | (with_reducible refine Upd.drew ?_) | (with_reducible refine Upd.trans ?_ (by with_reducible assumption))))
  generalize (w.alloc (.cells #[.slice A l c] 26)) = W at b1 hE ⊢
  have hG : Ext W.drew W.drew := Upd.refl _ _
  have k1 := fun x : Wd (Ext W.drew) => (x.ok.cell (p := ⟨w.heap.size, 0, none⟩) b1.drew.lt (fun h => h)).trans b1.drew.cell
  refine wp_region_plan (Ext _) 3 [(false,0), (true,1), (true,2)] (by kernel_rfl) (by kernel_rfl) (Upd.refl _ _) (fun hne => ?_)
  repeat (refine head_q rfl (fun K hK => ?_); have hK2 := hide hK; clear hK; go_simp; refine hK2.out _ ?_; clear hK2 K)
  refine head_l rfl ?_
  go_wp2_with (go_at_call 29; go_must (refine (new_any 2 _ (by omega)).mono ?_); rintro e w2 ⟨A2, l2, c2, rfl, hV2, hU⟩; replace hG := hG.trans hU)
  refine ⟨Cls (Ext _), fun _ h => h, ⟨⟨_, hG⟩, rfl⟩, ?_⟩
  repeat (refine head_q rfl (fun K hK => ?_); have hK2 := hide hK; clear hK; go_simp; refine hK2.out _ ?_; clear hK2 K)
  refine head_l rfl ?_
  go_wp2_with (go_at_call 24; go_must (refine (cmp_any _ _ n 2 k _ (hV.ext (hE.trans hG.undrew)) hV2 hF hF2 hk).mono ?_); rintro e w3 ⟨rfl, hU⟩; replace hG := hG.trans hU)
  refine ⟨Cls (Ext _), fun _ h => h, ⟨⟨_, hG⟩, rfl⟩, ?_⟩
  repeat (refine head_q rfl (fun K hK => ?_); have hK2 := hide hK; clear hK; go_simp; refine hK2.out _ ?_; clear hK2 K)
  refine head_nil ?_
  try simp only [List.drop_succ_cons, List.drop_zero]
  replace b1 := b1.ext hG.undrew
  replace hE := hE.trans hG.undrew
  clear hG k1 hU hV2
  have c1 := (b1.alloc (.cells #[.slice A l c, .int .u64 0] 90)).cell
  have c0 := b1.cell
  go_wp2_with fail
  have g1 : Two (w3.alloc (.cells #[.slice A l c, .int .u64 0] 90)) w3.heap.size 90 (.slice A l c) (.int .u64 0) := Two.new _ _ _ _
  have hE4 := hE.alloc (.cells #[.slice A l c, .int .u64 0] 90)
  have hz4 := hE.size
  generalize (w3.alloc (.cells #[.slice A l c, .int .u64 0] 90)) = X at g1 hE4 ⊢
  refine (uint_any _ n _ (hV.ext hE4)).mono ?_
  rintro e w5 ⟨rfl, hU⟩
  replace g1 := g1.ext hU
  replace hE4 := hE4.trans hU
  clear hU c1 c0
  have hVn := hV.ext hE4
  by_cases h32 : n < 4294967296
  · rw [if_pos (by omega), decide_eq_true (by omega)]
    have hbd : (n : Int) < 4294967296 := by omega
    have f1 := g1.frozen 1
    have k1 := g1.cell1
    go_wp2_with fail
    go_ret2
    refine ⟨_, rfl, ⟨A, l, c, ?_, hVn.far64 k1, hn⟩, hz4, hE4.setCell (p := ⟨w3.heap.size, 1, none⟩) (.inr hz4) _⟩
    have := g1.set1 (.int .u64 n)
    unfold smallOf
    rwa [if_pos h32]
  · have hs : smallOf n = 0 := by unfold smallOf; rw [if_neg h32]
    by_cases h64 : n < 18446744073709551616
    · rw [if_pos h64, decide_eq_true h64]
      have hbd : decide ((n : Int) < 4294967296) = false := by rw [decide_eq_false_iff_not]; omega
      clear h64 h32
      go_wp2_with fail
      go_ret2
      exact ⟨_, rfl, ⟨A, l, c, by rw [hs]; exact g1, hVn, hn⟩, hz4, hE4⟩
    · rw [if_neg h64, decide_eq_false h64]
      clear h64 h32
      go_wp2_with fail
      go_ret2
      exact ⟨_, rfl, ⟨A, l, c, by rw [hs]; exact g1, hVn, hn⟩, hz4, hE4⟩
/-- The nil ring has the modulus 0. -/
theorem mmod_nil (w : World) : Calls Try.prog 46 #[.pointer none] w (RetN w 0) := by
  go_enter Try.func46, Try.ntmps46
  go_wp2_with fail
  have b1 : Box (w.alloc (.cells #[.slice none 0 0] 26)) w.heap.size 26 (.slice none 0 0) := Box.new _ _ _
  have hE : Ext w (w.alloc (.cells #[.slice none 0 0] 26)) := (by repeat (first | (with_reducible exact Upd.refl _ _) | (with_reducible assumption) | (refine Upd.setCell ?_ (.inr (by first | exact Nat.le_refl _ | (dsimp only; omega) | (simp; done) | (simp; omega))) _) | (with_reducible refine Upd.alloc ?_ _) | (with_reducible refine Upd.drew ?_) | (with_reducible refine Upd.trans ?_ (by with_reducible assumption))))
  have q := (b1.set (.slice none 0 0)).cell
  exact bodyPost_ret (v := .agg #[.slice none 0 0]) (by simp [results, Try.results46, go_sem, q]) rfl ⟨_, _, _, rfl, NatV.nil _, (by repeat (first | (with_reducible exact Upd.refl _ _) | (with_reducible assumption) | (refine Upd.setCell ?_ (.inr (by first | exact Nat.le_refl _ | (dsimp only; omega) | (simp; done) | (simp; omega))) _) | (with_reducible refine Upd.alloc ?_ _) | (with_reducible refine Upd.drew ?_) | (with_reducible refine Upd.trans ?_ (by with_reducible assumption))))⟩
theorem mmod_any (g n : Nat) (w : World) (hR : RingV w g n) : Calls Try.prog 46 #[.pointer (some ⟨g, 0, none⟩)] w (RetN w n) := by
  obtain ⟨A, l, c, h2, hV, hn⟩ := hR
  go_enter Try.func46, Try.ntmps46
  have b1 : Box (w.alloc (.cells #[.slice none 0 0] 26)) w.heap.size 26 (.slice none 0 0) := Box.new _ _ _
  have hE : Ext w (w.alloc (.cells #[.slice none 0 0] 26)) := (by repeat (first | (with_reducible exact Upd.refl _ _) | (with_reducible assumption) | (refine Upd.setCell ?_ (.inr (by first | exact Nat.le_refl _ | (dsimp only; omega) | (simp; done) | (simp; omega))) _) | (with_reducible refine Upd.alloc ?_ _) | (with_reducible refine Upd.drew ?_) | (with_reducible refine Upd.trans ?_ (by with_reducible assumption))))
  have c0 := (h2.ext hE).cell0
  have c1 := b1.cell
  have c2 := b1.frozen
  go_wp2_with fail
  have q := (b1.set (.slice A l c)).cell
  exact bodyPost_ret (v := .agg #[.slice A l c]) (by simp [results, Try.results46, go_sem, q]) rfl ⟨_, _, _, rfl, hV.ext (by repeat (first | (with_reducible exact Upd.refl _ _) | (with_reducible assumption) | (refine Upd.setCell ?_ (.inr (by first | exact Nat.le_refl _ | (dsimp only; omega) | (simp; done) | (simp; omega))) _) | (with_reducible refine Upd.alloc ?_ _) | (with_reducible refine Upd.drew ?_) | (with_reducible refine Upd.trans ?_ (by with_reducible assumption)))), (by repeat (first | (with_reducible exact Upd.refl _ _) | (with_reducible assumption) | (refine Upd.setCell ?_ (.inr (by first | exact Nat.le_refl _ | (dsimp only; omega) | (simp; done) | (simp; omega))) _) | (with_reducible refine Upd.alloc ?_ _) | (with_reducible refine Upd.drew ?_) | (with_reducible refine Upd.trans ?_ (by with_reducible assumption))))⟩
end Go.Proofs.Ytekpjdfgpggcnaa
