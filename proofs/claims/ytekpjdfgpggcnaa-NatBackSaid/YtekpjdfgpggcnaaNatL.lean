/- Division of numbers by a number of one word, walked. -/
import Derived.Test.YtekpjdfgpggcnaaNatK
import Derived.Test.YtekpjdfgpggcnaaFreeU
namespace Go.Proofs.Ytekpjdfgpggcnaa
set_option linter.unusedSimpArgs false
set_option linter.unusedVariables false
open Go.RowKit
open Nt
attribute [local go_sem] by32 wrap_w32 steady steadyUpon Cls same_cell

/-- A block that is one slice. -/
def Zb (w : World) (b : Nat) : Prop := ∃ t A l c, Box w b t (.slice A l c)
theorem NatV.change {w w' : World} {v : Value} {n : Nat} {T : Nat → Prop} (h : NatV w v n) (hU : Upd T w w') (hT : ∀ b, T b → Zb w b) : NatV w' v n := by
  obtain ⟨s, h0, A, c, xs, h1, h2, h3, h4, h5⟩ := h
  refine ⟨s, h0, A, c, xs, h1, h2, h3, (fun i hi => ?_), h5⟩
  obtain ⟨b, o, e, hc⟩ := h4 i hi
  refine ⟨b, o, e, ?_⟩
  rw [← hc]
  refine hU.cell (p := ⟨b, o + i, none⟩) (World.block_lt_of_cell? w _ hc) (fun ht => ?_)
  obtain ⟨t, A', l, c', hb⟩ := hT _ ht
  unfold Box at hb
  simp only [World.cell?, hb] at hc
  rcases Nat.eq_zero_or_pos (o + i) with h0 | h0
  · rw [h0] at hc; simp [by32] at hc
  · rw [Array.getElem?_eq_none (by simp only [List.size_toArray, List.length_cons, List.length_nil]; omega)] at hc; cases hc
theorem one_word {ys : List (BitVec 32)} {lb b : Nat} (hl : ys.length = lb) (hT : Trd (dig d32 ys) lb) (hn : numOf W32 d32 ys = b) (h0 : 0 < b) (hb : b < W32) : lb = 1 ∧ n32 (gat ys 0) = (b : Int) := by
  subst hl
  have h1 : ys.length ≤ 1 := Fit.len hT hn (by unfold Fit; rw [Nat.pow_one]; exact hb)
  have h2 : ys.length ≠ 0 := fun e => by
    unfold numOf at hn
    rw [e] at hn
    simp [vf] at hn
    omega
  have h3 : ys.length = 1 := by omega
  refine ⟨h3, ?_⟩
  unfold numOf at hn
  rw [h3] at hn
  simp [vf] at hn
  rw [n32_d, ← hn]
  unfold dig
  rfl

def TwoN (v : Value) (w : World) (q r : Nat) : Prop := ∃ A1 l1 c1 A2 l2 c2, v = .tuple #[.agg #[.slice A1 l1 c1], .agg #[.slice A2 l2 c2]] ∧ NatV w (.agg #[.slice A1 l1 c1]) q ∧ NatV w (.agg #[.slice A2 l2 c2]) r
def OneN (v : Value) (w : World) (q : Nat) : Prop := ∃ A1 l1 c1, v = .agg #[.slice A1 l1 c1] ∧ NatV w (.agg #[.slice A1 l1 c1]) q
theorem TwoN.change {v : Value} {w w' : World} {q r : Nat} {T : Nat → Prop} (h : TwoN v w q r) (hU : Upd T w w') (hT : ∀ b, T b → Zb w b) : TwoN v w' q r := by
  obtain ⟨A1, l1, c1, A2, l2, c2, e, h1, h2⟩ := h
  exact ⟨A1, l1, c1, A2, l2, c2, e, h1.change hU hT, h2.change hU hT⟩
theorem OneN.change {v : Value} {w w' : World} {q : Nat} {T : Nat → Prop} (h : OneN v w q) (hU : Upd T w w') (hT : ∀ b, T b → Zb w b) : OneN v w' q := by
  obtain ⟨A1, l1, c1, e, h1⟩ := h
  exact ⟨A1, l1, c1, e, h1.change hU hT⟩
def NewB (t : TypeId) (v : Value) (w : World) (S : Nat → Prop) : Prop := ∃ g, v = .pointer (some ⟨g, 0, none⟩) ∧ Box w g t (.slice none 0 0) ∧ S g ∧ ∀ b, S b → b = g
def SetB (t : TypeId) (v : Value) (w : World) (S : Nat → Prop) (q : Nat) : Prop := ∃ g A1 l1 c1, v = .pointer (some ⟨g, 0, none⟩) ∧ Box w g t (.slice A1 l1 c1) ∧ S g ∧ NatV w (.agg #[.slice A1 l1 c1]) q
set_option maxRecDepth 100000 in
set_option maxHeartbeats 4000000 in
theorem div_one (va vb : Value) (a b k : Nat) (w : World) (hVa : NatV w va a) (hVb : NatV w vb b) (hFa : Fit k a) (hFb : Fit k b) (hk : k ≤ 1000000) (hab : ¬ a < b) (hb0 : 0 < b) (hbW : b < W32) :
    Calls Try.prog 28 #[va, vb] w (RetD w (a / b) (a % b) 0) := by
  obtain ⟨A, la, ca, xs, rfl, -⟩ := hVa.open_
  obtain ⟨B, lb, cb, ys, rfl, hly, hcb, hmb, hSb, hTb, hnb⟩ := hVb.open_
  obtain ⟨hl1, hyb⟩ := one_word hly hTb hnb hb0 hbW
  subst hl1
  obtain ⟨yb, yo, rfl, hyl, hyc⟩ := hSb.open_ (by omega)
  have hcell := hyc 0 (by omega)
  have hcn : 0 ≤ cmpI a b := by
    rcases Int.lt_or_le (cmpI a b) 0 with h | h
    · rw [cmpI_neg] at h; exact absurd h hab
    · exact h
  have hb0' : ¬ b = 0 := by omega
  have hcell' : w.cell? ⟨yb, yo, none⟩ = some (.int .u32 (b : Int)) := by
    rw [← hyb]; exact hcell
  have HbW := hide hbW
  clear hyc hcell hSb hTb hnb hly hyb hbW
  go_enter Try.func28, Try.ntmps28
  go_wp2_with (first
    | (go_at_call 23; go_must (refine (zero_any _ b _ (hVb.ext (by repeat (first | (with_reducible exact Upd.refl _ _) | (with_reducible assumption) | (refine Upd.setCell ?_ (.inr (by first | exact Nat.le_refl _ | (dsimp only; omega) | (simp; done) | (simp; omega))) _) | (with_reducible refine Upd.alloc ?_ _) | (with_reducible refine Upd.drew ?_) | (with_reducible refine Upd.trans ?_ (by with_reducible assumption)))))).mono ?_); rintro e w4 ⟨rfl, hU4⟩; have hB2 : Box w4 w.heap.size 26 (.slice A la ca) := (by repeat (first | (with_reducible refine Box.new_at ?_; (simp; done)) | (with_reducible assumption) | (with_reducible refine Box.alloc ?_ _) | (with_reducible refine Box.drew ?_) | (with_reducible refine Box.ext ?_ (by with_reducible assumption)))); have hB3 : Box w4 (w.heap.size + 1) 26 (.slice (some ⟨yb, yo, none⟩) 1 cb) := (by repeat (first | (with_reducible refine Box.new_at ?_; (simp; done)) | (with_reducible assumption) | (with_reducible refine Box.alloc ?_ _) | (with_reducible refine Box.drew ?_) | (with_reducible refine Box.ext ?_ (by with_reducible assumption)))); have hB4 : Box w4 (w.heap.size + 1 + 1) 26 (.slice none 0 0) := (by repeat (first | (with_reducible refine Box.new_at ?_; (simp; done)) | (with_reducible assumption) | (with_reducible refine Box.alloc ?_ _) | (with_reducible refine Box.drew ?_) | (with_reducible refine Box.ext ?_ (by with_reducible assumption)))); have hB5 : Box w4 (w.heap.size + 1 + 1 + 1) 26 (.slice none 0 0) := (by repeat (first | (with_reducible refine Box.new_at ?_; (simp; done)) | (with_reducible assumption) | (with_reducible refine Box.alloc ?_ _) | (with_reducible refine Box.drew ?_) | (with_reducible refine Box.ext ?_ (by with_reducible assumption)))); have hE4 : Ext w w4 := (by repeat (first | (with_reducible exact Upd.refl _ _) | (with_reducible assumption) | (refine Upd.setCell ?_ (.inr (by first | exact Nat.le_refl _ | (dsimp only; omega) | (simp; done) | (simp; omega))) _) | (with_reducible refine Upd.alloc ?_ _) | (with_reducible refine Upd.drew ?_) | (with_reducible refine Upd.trans ?_ (by with_reducible assumption)))); have c2 := hB2.cell; have c3 := hB3.cell; clear hU4)
    | (go_at_call 24; go_must (refine (cmp_any _ _ a b k _ (hVa.ext (by repeat (first | (with_reducible exact Upd.refl _ _) | (with_reducible assumption) | (refine Upd.setCell ?_ (.inr (by first | exact Nat.le_refl _ | (dsimp only; omega) | (simp; done) | (simp; omega))) _) | (with_reducible refine Upd.alloc ?_ _) | (with_reducible refine Upd.drew ?_) | (with_reducible refine Upd.trans ?_ (by with_reducible assumption))))) (hVb.ext (by repeat (first | (with_reducible exact Upd.refl _ _) | (with_reducible assumption) | (refine Upd.setCell ?_ (.inr (by first | exact Nat.le_refl _ | (dsimp only; omega) | (simp; done) | (simp; omega))) _) | (with_reducible refine Upd.alloc ?_ _) | (with_reducible refine Upd.drew ?_) | (with_reducible refine Upd.trans ?_ (by with_reducible assumption))))) hFa hFb hk).mono ?_); rintro e w5 ⟨rfl, hU5⟩; have hE5 := hE4.trans hU5; have hB2' := hB2.ext hU5; have hB3' := hB3.ext hU5; have hB4' := hB4.ext hU5; have hB5' := hB5.ext hU5; clear hB2 hB3 hB4 hB5 hU5 hE4 c2 c3; have c3 := hB3'.cell))
  clear c3
  obtain ⟨J, hJ⟩ : ∃ J : Nat → FactU, J = fun i => match i with
    | 0 => fun u _ _ => u 0 = .agg #[.slice A la ca]
    | 1 => fun u _ _ => u 1 = .pointer (some ⟨w.heap.size + 1, 0, none⟩)
    | 2 => fun u _ _ => u 2 = .slice (some ⟨yb, yo, none⟩) 1 cb
    | 3 => fun u _ _ => u 3 = .pointer (some ⟨yb, yo, none⟩)
    | 4 => fun u _ _ => u 4 = .int .u32 (b : Int)
    | 5 => fun u wx _ => TwoN (u 5) wx (a / b) (a % b)
    | 6 => fun u wx _ => TwoN (u 6) wx (a / b) (a % b)
    | 7 => fun u wx _ => OneN (u 7) wx (a / b)
    | 8 => fun u wx _ => OneN (u 8) wx (a % b)
    | 9 => fun u wx S => NewB 26 (u 9) wx S
    | 10 => fun u wx S => NewB 26 (u 10) wx S
    | _ => fun u wx S => SetB 26 (u 9) wx S (a / b) := ⟨_, rfl⟩
  refine wp_region_freeU Zb 12 J [(11, 9)] (by kernel_rfl) (by kernel_rfl) ?_ ?_ ?_ ?_ ?_ ?_
  · subst hJ
    intro i hi
    match i, hi with
    | 0, _ | 1, _ | 2, _ | 3, _ | 4, _ => exact fun u wx w' S h _ => h
    | 5, _ | 6, _ => exact fun u wx w' S h hU => TwoN.change h hU (fun b hb => hb.2.2)
    | 7, _ | 8, _ => exact fun u wx w' S h hU => OneN.change h hU (fun b hb => hb.2.2)
    | 9, _ | 10, _ => exact fun u wx w' S h hU => by obtain ⟨g, e, hb, hs, hall⟩ := h; exact ⟨g, e, hb.upd hU (fun h => h.2.1 hs), hs, hall⟩
    | 11, _ => exact fun u wx w' S h hU => by obtain ⟨g, A1, l1, c1, e, hb, hs, hv⟩ := h; exact ⟨g, A1, l1, c1, e, hb.upd hU (fun h => h.2.1 hs), hs, hv.change hU (fun b hb => hb.2.2)⟩
    | k + 12, h => exact absurd h (by omega)
  · subst hJ
    intro i hi
    match i, hi with
    | 0, _ | 1, _ | 2, _ | 3, _ | 4, _ => exact fun u u' wx S h hj => (h _ (.inl rfl)).symm.trans hj
    | 5, _ => exact fun u u' wx S h hj => show TwoN (u' 5) wx (a / b) (a % b) from (h 5 (.inl rfl)) ▸ (show TwoN (u 5) wx (a / b) (a % b) from hj)
    | 6, _ => exact fun u u' wx S h hj => show TwoN (u' 6) wx (a / b) (a % b) from (h 6 (.inl rfl)) ▸ (show TwoN (u 6) wx (a / b) (a % b) from hj)
    | 7, _ => exact fun u u' wx S h hj => show OneN (u' 7) wx (a / b) from (h 7 (.inl rfl)) ▸ (show OneN (u 7) wx (a / b) from hj)
    | 8, _ => exact fun u u' wx S h hj => show OneN (u' 8) wx (a % b) from (h 8 (.inl rfl)) ▸ (show OneN (u 8) wx (a % b) from hj)
    | 9, _ => exact fun u u' wx S h hj => show NewB _ (u' 9) wx S from (h 9 (.inl rfl)) ▸ (show NewB 26 (u 9) wx S from hj)
    | 10, _ => exact fun u u' wx S h hj => show NewB _ (u' 10) wx S from (h 10 (.inl rfl)) ▸ (show NewB 26 (u 10) wx S from hj)
    | 11, _ => exact fun u u' wx S h hj => show SetB _ (u' 9) wx S (a / b) from (h 9 (.inr ⟨by omega, by kernel_rfl⟩)) ▸ (show SetB 26 (u 9) wx S (a / b) from hj)
    | k + 12, h => exact absurd h (by omega)
  · intro p hp
    simp only [List.mem_singleton] at hp
    subst hp
    exact ⟨by decide, by kernel_rfl⟩
  · subst hJ
    intro p hp u wx S b hj hs
    simp only [List.mem_singleton] at hp
    subst hp
    obtain ⟨g, e, hb, hs', hall⟩ := hj
    rw [hall b hs]
    exact ⟨_, _, _, _, hb⟩
  · subst hJ
    intro i hi
    match i, hi with
    | 0, _ =>
      intro u wx S o ho hE hr hd hw
      injection (ho : some _ = some o) with ho
      subst ho
      have c2 := (hB2'.drew.ext hE).cell
      simp only [fr, dstOf]
      go_simp
      go_wp2
      exact ⟨Upd.refl _ _, rfl⟩
    | 1, _ =>
      intro u wx S o ho hE hr hd hw
      injection (ho : some _ = some o) with ho
      subst ho
      simp only [fr, dstOf]
      go_simp
      go_wp2
      exact ⟨Upd.refl _ _, rfl⟩
    | 2, _ =>
      intro u wx S o ho hE hr hd hw
      injection (ho : some _ = some o) with ho
      subst ho
      have f1 : u 1 = .pointer (some ⟨w.heap.size + 1, 0, none⟩) := hw 1 (by omega) (by kernel_rfl)
      have c3 := (hB3'.drew.ext hE).cell
      simp only [fr, dstOf]
      go_simp
      go_wp2
      exact ⟨Upd.refl _ _, rfl⟩
    | 3, _ =>
      intro u wx S o ho hE hr hd hw
      injection (ho : some _ = some o) with ho
      subst ho
      have f2 : u 2 = .slice (some ⟨yb, yo, none⟩) 1 cb := hw 2 (by omega) (by kernel_rfl)
      simp only [fr, dstOf]
      go_simp
      go_wp2
      exact ⟨Upd.refl _ _, rfl⟩
    | 4, _ =>
      intro u wx S o ho hE hr hd hw
      injection (ho : some _ = some o) with ho
      subst ho
      have f3 : u 3 = .pointer (some ⟨yb, yo, none⟩) := hw 3 (by omega) (by kernel_rfl)
      have cy : wx.cell? ⟨yb, yo, none⟩ = some (.int .u32 (b : Int)) := ((hE5.drew.trans hE).cell (p := ⟨yb, yo, none⟩) hyl (fun h => h)).trans hcell'
      simp only [fr, dstOf]
      go_simp
      go_wp2
      exact ⟨Upd.refl _ _, rfl⟩
    | 5, _ =>
      intro u wx S o ho hE hr hd hw
      injection (ho : some _ = some o) with ho
      subst ho
      have f0 : u 0 = .agg #[.slice A la ca] := hw 0 (by omega) (by kernel_rfl)
      have f4 : u 4 = .int .u32 (b : Int) := hw 4 (by omega) (by kernel_rfl)
      simp only [fr, dstOf]
      go_simp
      go_wp2_with fail
      refine (small_any _ a b k _ (hVa.ext (hE5.drew.trans hE)) hFa hk hb0 HbW.out).mono ?_
      rintro e wn ⟨A1, l1, c1, A2, l2, c2, rfl, hV1, hV2, hU⟩
      go_wp2_with fail
      exact ⟨_, rfl, hU.mono (fun _ _ h => h.elim), A1, l1, c1, A2, l2, c2, rfl, hV1, hV2⟩
    | 6, _ =>
      intro u wx S o ho hE hr hd hw
      injection (ho : some _ = some o) with ho
      subst ho
      have f5 : TwoN (u 5) wx (a / b) (a % b) := hw 5 (by omega) (by kernel_rfl)
      obtain ⟨A1, l1, c1, A2, l2, c2, f5, hV1, hV2⟩ := f5
      simp only [fr, dstOf]
      go_simp
      go_wp2
      exact ⟨Upd.refl _ _, A1, l1, c1, A2, l2, c2, rfl, hV1, hV2⟩
    | 7, _ =>
      intro u wx S o ho hE hr hd hw
      injection (ho : some _ = some o) with ho
      subst ho
      have f6 : TwoN (u 6) wx (a / b) (a % b) := hw 6 (by omega) (by kernel_rfl)
      obtain ⟨A1, l1, c1, A2, l2, c2, f6, hV1, hV2⟩ := f6
      simp only [fr, dstOf]
      go_simp
      go_wp2
      exact ⟨Upd.refl _ _, A1, l1, c1, rfl, hV1⟩
    | 8, _ =>
      intro u wx S o ho hE hr hd hw
      injection (ho : some _ = some o) with ho
      subst ho
      have f6 : TwoN (u 6) wx (a / b) (a % b) := hw 6 (by omega) (by kernel_rfl)
      obtain ⟨A1, l1, c1, A2, l2, c2, f6, hV1, hV2⟩ := f6
      simp only [fr, dstOf]
      go_simp
      go_wp2
      exact ⟨Upd.refl _ _, A2, l2, c2, rfl, hV2⟩
    | 9, _ | 10, _ =>
      intro u wx S o ho hE hr hd hw
      injection (ho : some _ = some o) with ho
      subst ho
      simp only [fr, dstOf]
      go_simp
      go_wp2
      exact ⟨(Upd.refl _ _).alloc _, wx.heap.size, rfl, Box.new _ _ _, ⟨Nat.le_refl _, Nat.lt_succ_self _⟩, fun b (hb : wx.heap.size ≤ b ∧ b < wx.heap.size + 1) => by omega⟩
    | 11, _ =>
      intro u wx S o ho hE hr hd hw
      injection (ho : some _ = some o) with ho
      subst ho
      have f7 : OneN (u 7) wx (a / b) := hw 7 (by omega) (by kernel_rfl)
      have f9 : NewB _ (u 9) wx (S 9) := hw 9 (by omega) (by kernel_rfl)
      obtain ⟨A1, l1, c1, f7, hV⟩ := f7
      obtain ⟨g, f9, hb, hs, hall⟩ := f9
      have cg := hb.cell
      have fg := hb.frozen
      simp only [fr, dstOf]
      go_simp
      go_wp2
      exact ⟨(Upd.refl _ _).setCell (p := ⟨g, 0, none⟩) (.inl hs) _, undef, g, A1, l1, c1, (updf_ne u _ (by decide)).trans f9, hb.set _, .inr hs, hV.far cg⟩
    | k + 12, h => exact absurd h (by omega)
  · intro u wx S hE hw hrg hdj
    subst hJ
    have f8 : OneN (u 8) wx (a % b) := hw 8 (by omega) (by simp)
    have f10 : NewB _ (u 10) wx (S 10) := hw 10 (by omega) (by simp)
    have f11 : SetB _ (u 9) wx (S 11) (a / b) := hw 11 (by omega) (by simp)
    obtain ⟨A2, l2, c2, f8, hV2⟩ := f8
    obtain ⟨g2, f10, hb2, hs2, hall⟩ := f10
    obtain ⟨g1, A1, l1, c1, f9, hb1, hs1, hV1⟩ := f11
    have hg : g1 ≠ g2 := fun e => by
      subst e
      have := hdj 10 11 g1 hs2 hs1
      omega
    have hr1 := (hrg 11 g1 hs1).1
    have hr2 := (hrg 10 g2 hs2).1
    have cg2 := hb2.cell
    have fg2 := hb2.frozen
    clear hw hrg hdj hall
    simp only [fr, dstOf]
    go_simp
    go_wp2_with fail
    have hb1' : Box (wx.setCell ⟨g2, 0, none⟩ (.slice A2 l2 c2)) g1 26 (.slice A1 l1 c1) := hb1.far (p := ⟨g2, 0, none⟩) hg _
    have hb2' : Box (wx.setCell ⟨g2, 0, none⟩ (.slice A2 l2 c2)) g2 26 (.slice A2 l2 c2) := hb2.set _
    have hz5 := hB5'.lt
    have hr1' : w5.heap.size ≤ g1 := hr1
    have hr2' : w5.heap.size ≤ g2 := hr2
    have hB4 : Box (wx.setCell ⟨g2, 0, none⟩ (.slice A2 l2 c2)) (w.heap.size + 1 + 1) 26 (.slice none 0 0) := (hB4'.drew.ext hE).far (p := ⟨g2, 0, none⟩) (by dsimp only; omega) _
    have hB5 : Box (wx.setCell ⟨g2, 0, none⟩ (.slice A2 l2 c2)) (w.heap.size + 1 + 1 + 1) 26 (.slice none 0 0) := (hB5'.drew.ext hE).far (p := ⟨g2, 0, none⟩) (by dsimp only; omega) _
    have hV1' := hV1.far (v := .slice A2 l2 c2) cg2
    have hV2' := hV2.far (v := .slice A2 l2 c2) cg2
    have hE8 : Ext w (wx.setCell ⟨g2, 0, none⟩ (.slice A2 l2 c2)) := (hE5.drew.trans hE).setCell (p := ⟨g2, 0, none⟩) (.inr (by dsimp only; omega)) _
    obtain ⟨w8, hw8⟩ : ∃ w8, w8 = wx.setCell ⟨g2, 0, none⟩ (.slice A2 l2 c2) := ⟨_, rfl⟩
    rw [← hw8] at hb1' hb2' hB4 hB5 hV1' hV2' hE8 ⊢
    clear hw8 hb1 hb2 hB4' hB5' hV1 hV2 hE cg2 fg2 hcell' hcn f8 f9 f10
    obtain ⟨T2, hT2⟩ : ∃ T2 : Nat → Prop, T2 = fun k => k = w.heap.size + 1 + 1 ∨ k = w.heap.size + 1 + 1 + 1 := ⟨_, rfl⟩
    have ht4 : T2 (w.heap.size + 1 + 1) := by rw [hT2]; exact .inl rfl
    have ht5 : T2 (w.heap.size + 1 + 1 + 1) := by rw [hT2]; exact .inr rfl
    have hn1 : ¬ T2 g1 := by rw [hT2]; omega
    have hn2 : ¬ T2 g2 := by rw [hT2]; omega
    clear hT2
    have c7 := fun x : Wd (Upd T2 w8.drew) => (x.ok.cell (p := ⟨g1, 0, none⟩) hb1'.lt hn1).trans hb1'.cell
    have c8 := fun x : Wd (Upd T2 w8.drew) => (x.ok.cell (p := ⟨g2, 0, none⟩) hb2'.lt hn2).trans hb2'.cell
    -- w8 world, hB4 hB5 boxes of the results, .slice A1 l1 c1 first value, .slice A2 l2 c2 second value, 7 region, clear c7 c8 clear
    refine wp_region_plan (Upd T2 _) 4 [(false,0), (false,1), (true,2), (true,3)] (by kernel_rfl) (by kernel_rfl) (Upd.refl _ _) (fun hne => ?_)
    repeat (refine head_q rfl (fun K hK => ?_); have hK2 := hide hK; clear hK; go_simp; refine hK2.out _ ?_; clear hK2 K)
    clear c7 c8
    refine head_l rfl ?_
    have cm4 := hB4.drew.cell
    have fm4 := hB4.drew.frozen
    go_wp2_with fail
    refine ⟨Cls (Upd T2 w8.drew), fun _ h => h, ⟨⟨_, (Upd.refl T2 _).setCell (p := ⟨w.heap.size + 1 + 1, 0, none⟩) (.inl ht4) _⟩, rfl⟩, ?_⟩
    refine head_l rfl ?_
    have cm5 := (hB5.far (p := ⟨w.heap.size + 1 + 1, 0, none⟩) (by simp) (.slice A1 l1 c1)).drew.cell
    have fm5 := (hB5.far (p := ⟨w.heap.size + 1 + 1, 0, none⟩) (by simp) (.slice A1 l1 c1)).drew.frozen
    go_wp2_with fail
    refine ⟨Cls (Upd T2 w8.drew), fun _ h => h, ⟨⟨_, ((Upd.refl T2 _).setCell (p := ⟨w.heap.size + 1 + 1, 0, none⟩) (.inl ht4) _).setCell (p := ⟨w.heap.size + 1 + 1 + 1, 0, none⟩) (.inl ht5) _⟩, rfl⟩, ?_⟩
    refine head_nil ?_
    try simp only [List.drop_succ_cons, List.drop_zero]
    go_wp2
    have q4 := ((hB4.set (.slice A1 l1 c1)).far (p := ⟨w.heap.size + 1 + 1 + 1, 0, none⟩) (by simp) (.slice A2 l2 c2)).drew.cell
    have q5 := ((hB5.far (p := ⟨w.heap.size + 1 + 1, 0, none⟩) (by simp) (.slice A1 l1 c1)).set (.slice A2 l2 c2)).drew.cell
    have hVx := (hV1'.far (v := .slice A1 l1 c1) hB4.cell).far (v := .slice A2 l2 c2) cm5
    have hVy := (hV2'.far (v := .slice A1 l1 c1) hB4.cell).far (v := .slice A2 l2 c2) cm5
    exact bodyPost_ret (v := .tuple #[.agg #[.slice A1 l1 c1], .agg #[.slice A2 l2 c2], .int .i64 0]) (by simp [results, Try.results28, go_sem, q4, q5]) rfl ⟨_, _, _, _, _, _, rfl, hVx, hVy, (hE8.drew.setCell (p := ⟨w.heap.size + 1 + 1, 0, none⟩) (.inr (by simp; omega)) _).setCell (p := ⟨w.heap.size + 1 + 1 + 1, 0, none⟩) (.inr (by simp; omega)) _⟩
end Go.Proofs.Ytekpjdfgpggcnaa
