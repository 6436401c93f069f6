/- Rings of numbers, walked: Of, Add, Sub, Mul. -/
import Derived.Test.YtekpjdfgpggcnaaModA
namespace Go.Proofs.Ytekpjdfgpggcnaa
set_option linter.unusedSimpArgs false
set_option linter.unusedVariables false
open Go.RowKit
open Nt
attribute [local go_sem] steady steadyUpon Cls same_cell
attribute [local irreducible] wpHead wpTree

theorem mof_nil (v : Value) (a : Nat) (w : World) (hV : NatV w v a) : Calls Try.prog 45 #[.pointer none, v] w (RetN w 0) := by
  obtain ⟨A, l, c, xs, rfl, -⟩ := hV.open_
  go_enter Try.func45, Try.ntmps45
  have b1 : Box ((w.alloc (.cells #[.slice A l c] 26)).alloc (.cells #[.slice none 0 0] 26)) (w.heap.size + 1) 26 (.slice none 0 0) := Box.new_at (by simp)
  have hE : Ext w ((w.alloc (.cells #[.slice A l c] 26)).alloc (.cells #[.slice none 0 0] 26)) := (by repeat (first | (with_reducible exact Upd.refl _ _) | (with_reducible assumption) | (refine Upd.setCell ?_ (.inr (by first | exact Nat.le_refl _ | (dsimp only; omega) | (simp; done) | (simp; omega))) _) | (with_reducible refine Upd.alloc ?_ _) | (with_reducible refine Upd.drew ?_) | (with_reducible refine Upd.trans ?_ (by with_reducible assumption))))
  go_wp2_with fail
  have q := (b1.set (.slice none 0 0)).cell
  exact bodyPost_ret (v := .agg #[.slice none 0 0]) (by simp [results, Try.results45, go_sem, q]) rfl ⟨_, _, _, rfl, NatV.nil _, (by repeat (first | (with_reducible exact Upd.refl _ _) | (with_reducible assumption) | (refine Upd.setCell ?_ (.inr (by first | exact Nat.le_refl _ | (dsimp only; omega) | (simp; done) | (simp; omega))) _) | (with_reducible refine Upd.alloc ?_ _) | (with_reducible refine Upd.drew ?_) | (with_reducible refine Upd.trans ?_ (by with_reducible assumption))))⟩
set_option maxRecDepth 100000 in
set_option maxHeartbeats 4000000 in
theorem mof_any (v : Value) (g a n k : Nat) (w : World) (hR : RingV w g n) (hV : NatV w v a) (hFa : Fit k a) (hFn : Fit k n) (hk : k ≤ 1000000) :
    Calls Try.prog 45 #[.pointer (some ⟨g, 0, none⟩), v] w (RetN w (a % n)) := by
  obtain ⟨A, l, c, xs, rfl, -⟩ := hV.open_
  obtain ⟨D, ld, cd, g2, hVn, hn⟩ := hR
  have hn0 : 0 < n := by omega
  clear hn
  go_enter Try.func45, Try.ntmps45
  go_wp2_with fail
  refine name_w (fun W hW => ?_)
  have b1 : Box W w.heap.size 26 (.slice A l c) := by rw [hW]; exact (Box.new _ _ _).alloc _
  have b2 : Box W (w.heap.size + 1) 26 (.slice none 0 0) := by rw [hW]; exact Box.new_at (by simp)
  have hEW : Ext w W := by rw [hW]; exact ((Upd.refl _ w).alloc _).alloc _
  clear hW
  replace g2 := g2.ext hEW
  replace hV := hV.ext hEW
  replace hVn := hVn.ext hEW
  refine wp_region_fs 14 [.val (.eq (.agg #[.slice A l c])), .val (.eq (.pointer (some ⟨g, 0, none⟩))), .val (.eq (.pointer (some ⟨g, 0, none⟩))), .val (.eq (.pointer (some ⟨g, 0, none⟩))), .val (.eq (.agg #[.slice D ld cd])), .tup3 (.nat (a / n)) (.nat (a % n)) (.eq (.int .i64 0)), .tup3 (.nat (a / n)) (.nat (a % n)) (.eq (.int .i64 0)), .val (.nat (a / n)), .val (.nat (a % n)), .val (.eq (.int .i64 0)), .new 26 (.slice none 0 0), .new 26 (.slice none 0 0), .set 10 26 (a / n), .set 11 26 (a % n)] [(12, 10), (13, 11)] (by kernel_rfl) rfl (by kernel_rfl) (by kernel_rfl) (by kernel_rfl) ?_ ?_
  · intro i hi
    match i, hi with
    | 0, _ =>
      intro u wx S o ho hE hr hd hw
      injection (ho : some _ = some o) with ho
      subst ho
      have hEx : Ext W wx := hE.undrew
      have cx := (b1.ext hEx).cell
      simp only [fr, dstOf]
      go_simp
      go_wp2
      first | exact ⟨Upd.refl _ _, rfl⟩ | exact ⟨_, rfl, Upd.refl _ _, rfl⟩
    | 1, _ =>
      intro u wx S o ho hE hr hd hw
      injection (ho : some _ = some o) with ho
      subst ho
      have hEx : Ext W wx := hE.undrew
      simp only [fr, dstOf]
      go_simp
      go_wp2
      first | exact ⟨Upd.refl _ _, rfl⟩ | exact ⟨_, rfl, Upd.refl _ _, rfl⟩
    | 2, _ =>
      intro u wx S o ho hE hr hd hw
      injection (ho : some _ = some o) with ho
      subst ho
      have hEx : Ext W wx := hE.undrew
      have f1 : u 1 = .pointer (some ⟨g, 0, none⟩) := hw 1 (by omega) (by kernel_rfl) (by simp)
      simp only [fr, dstOf]
      go_simp
      go_wp2
      first | exact ⟨Upd.refl _ _, rfl⟩ | exact ⟨_, rfl, Upd.refl _ _, rfl⟩
    | 3, _ =>
      intro u wx S o ho hE hr hd hw
      injection (ho : some _ = some o) with ho
      subst ho
      have hEx : Ext W wx := hE.undrew
      have f2 : u 2 = .pointer (some ⟨g, 0, none⟩) := hw 2 (by omega) (by kernel_rfl) (by simp)
      simp only [fr, dstOf]
      go_simp
      go_wp2
      first | exact ⟨Upd.refl _ _, rfl⟩ | exact ⟨_, rfl, Upd.refl _ _, rfl⟩
    | 4, _ =>
      intro u wx S o ho hE hr hd hw
      injection (ho : some _ = some o) with ho
      subst ho
      have hEx : Ext W wx := hE.undrew
      have f3 : u 3 = .pointer (some ⟨g, 0, none⟩) := hw 3 (by omega) (by kernel_rfl) (by simp)
      have cx := (g2.ext hEx).cell0
      simp only [fr, dstOf]
      go_simp
      go_wp2
      first | exact ⟨Upd.refl _ _, rfl⟩ | exact ⟨_, rfl, Upd.refl _ _, rfl⟩
    | 5, _ =>
      intro u wx S o ho hE hr hd hw
      injection (ho : some _ = some o) with ho
      subst ho
      have hEx : Ext W wx := hE.undrew
      have f0 : u 0 = .agg #[.slice A l c] := hw 0 (by omega) (by kernel_rfl) (by simp)
      have f4 : u 4 = .agg #[.slice D ld cd] := hw 4 (by omega) (by kernel_rfl) (by simp)
      simp only [fr, dstOf]
      go_simp
      go_wp2_with fail
      refine (div_any _ _ a n k _ (hV.ext hEx) (hVn.ext hEx) hFa hFn hk hn0).mono ?_
      rintro e wn ⟨A9, l9, c9, A10, l10, c10, rfl, hVm, hVr, hU⟩
      go_wp2_with fail
      exact ⟨_, rfl, hU.mono (fun _ _ h => h.elim), _, _, _, rfl, ⟨_, _, _, rfl, hVm⟩, ⟨_, _, _, rfl, hVr⟩, rfl⟩
    | 6, _ =>
      intro u wx S o ho hE hr hd hw
      injection (ho : some _ = some o) with ho
      subst ho
      have hEx : Ext W wx := hE.undrew
      obtain ⟨_, _, _, f5, ⟨aA5_0, aL5_0, aC5_0, rfl, hV5_0⟩, ⟨aA5_1, aL5_1, aC5_1, rfl, hV5_1⟩, rfl⟩ : Fsh.J 5 (.tup3 (.nat (a / n)) (.nat (a % n)) (.eq (.int .i64 0))) u wx (S 5) := hw 5 (by omega) (by kernel_rfl) (by simp)
      simp only [fr, dstOf]
      go_simp
      go_wp2
      first | exact ⟨Upd.refl _ _, _, _, _, rfl, ⟨_, _, _, rfl, hV5_0⟩, ⟨_, _, _, rfl, hV5_1⟩, rfl⟩ | exact ⟨_, rfl, Upd.refl _ _, _, _, _, rfl, ⟨_, _, _, rfl, hV5_0⟩, ⟨_, _, _, rfl, hV5_1⟩, rfl⟩
    | 7, _ =>
      intro u wx S o ho hE hr hd hw
      injection (ho : some _ = some o) with ho
      subst ho
      have hEx : Ext W wx := hE.undrew
      obtain ⟨_, _, _, f6, ⟨aA6_0, aL6_0, aC6_0, rfl, hV6_0⟩, ⟨aA6_1, aL6_1, aC6_1, rfl, hV6_1⟩, rfl⟩ : Fsh.J 6 (.tup3 (.nat (a / n)) (.nat (a % n)) (.eq (.int .i64 0))) u wx (S 6) := hw 6 (by omega) (by kernel_rfl) (by simp)
      simp only [fr, dstOf]
      go_simp
      go_wp2
      first | exact ⟨Upd.refl _ _, aA6_0, aL6_0, aC6_0, rfl, hV6_0⟩ | exact ⟨_, rfl, Upd.refl _ _, aA6_0, aL6_0, aC6_0, rfl, hV6_0⟩
    | 8, _ =>
      intro u wx S o ho hE hr hd hw
      injection (ho : some _ = some o) with ho
      subst ho
      have hEx : Ext W wx := hE.undrew
      obtain ⟨_, _, _, f6, ⟨aA6_0, aL6_0, aC6_0, rfl, hV6_0⟩, ⟨aA6_1, aL6_1, aC6_1, rfl, hV6_1⟩, rfl⟩ : Fsh.J 6 (.tup3 (.nat (a / n)) (.nat (a % n)) (.eq (.int .i64 0))) u wx (S 6) := hw 6 (by omega) (by kernel_rfl) (by simp)
      simp only [fr, dstOf]
      go_simp
      go_wp2
      first | exact ⟨Upd.refl _ _, aA6_1, aL6_1, aC6_1, rfl, hV6_1⟩ | exact ⟨_, rfl, Upd.refl _ _, aA6_1, aL6_1, aC6_1, rfl, hV6_1⟩
    | 9, _ =>
      intro u wx S o ho hE hr hd hw
      injection (ho : some _ = some o) with ho
      subst ho
      have hEx : Ext W wx := hE.undrew
      obtain ⟨_, _, _, f6, ⟨aA6_0, aL6_0, aC6_0, rfl, hV6_0⟩, ⟨aA6_1, aL6_1, aC6_1, rfl, hV6_1⟩, rfl⟩ : Fsh.J 6 (.tup3 (.nat (a / n)) (.nat (a % n)) (.eq (.int .i64 0))) u wx (S 6) := hw 6 (by omega) (by kernel_rfl) (by simp)
      simp only [fr, dstOf]
      go_simp
      go_wp2
      first | exact ⟨Upd.refl _ _, rfl⟩ | exact ⟨_, rfl, Upd.refl _ _, rfl⟩
    | 10, _ =>
      intro u wx S o ho hE hr hd hw
      injection (ho : some _ = some o) with ho
      subst ho
      have hEx : Ext W wx := hE.undrew
      simp only [fr, dstOf]
      go_simp
      go_wp2
      first | exact ⟨(Upd.refl _ _).alloc _, wx.heap.size, rfl, Box.new _ _ _, ⟨Nat.le_refl _, by first | exact Nat.lt_succ_self _ | simp⟩, fun b hb => by first | omega | (simp at hb; omega)⟩ | exact ⟨_, rfl, (Upd.refl _ _).alloc _, wx.heap.size, rfl, Box.new _ _ _, ⟨Nat.le_refl _, by first | exact Nat.lt_succ_self _ | simp⟩, fun b hb => by first | omega | (simp at hb; omega)⟩
    | 11, _ =>
      intro u wx S o ho hE hr hd hw
      injection (ho : some _ = some o) with ho
      subst ho
      have hEx : Ext W wx := hE.undrew
      simp only [fr, dstOf]
      go_simp
      go_wp2
      first | exact ⟨(Upd.refl _ _).alloc _, wx.heap.size, rfl, Box.new _ _ _, ⟨Nat.le_refl _, by first | exact Nat.lt_succ_self _ | simp⟩, fun b hb => by first | omega | (simp at hb; omega)⟩ | exact ⟨_, rfl, (Upd.refl _ _).alloc _, wx.heap.size, rfl, Box.new _ _ _, ⟨Nat.le_refl _, by first | exact Nat.lt_succ_self _ | simp⟩, fun b hb => by first | omega | (simp at hb; omega)⟩
    | 12, _ =>
      intro u wx S o ho hE hr hd hw
      injection (ho : some _ = some o) with ho
      subst ho
      have hEx : Ext W wx := hE.undrew
      obtain ⟨aA7, aL7, aC7, f7, hV7⟩ : Fsh.J 7 (.val (.nat (a / n))) u wx (S 7) := hw 7 (by omega) (by kernel_rfl) (by simp)
      obtain ⟨g10, f10, hb10, hs10, hall10⟩ : Fsh.J 10 (.new 26 (.slice none 0 0)) u wx (S 10) := hw 10 (by omega) (by kernel_rfl) (by simp)
      have cg10 := hb10.cell
      have fg10 := hb10.frozen
      simp only [fr, dstOf]
      go_simp
      go_wp2
      first | exact ⟨(Upd.refl _ _).setCell (p := ⟨g10, 0, none⟩) (.inl hs10) _, undef, g10, aA7, aL7, aC7, (updf_ne u _ (by decide)).trans f10, hb10.set _, .inr hs10, hV7.far cg10⟩ | exact ⟨undef, (Upd.refl _ _).setCell (p := ⟨g10, 0, none⟩) (.inl hs10) _, g10, aA7, aL7, aC7, (updf_ne u _ (by decide)).trans f10, hb10.set _, .inr hs10, hV7.far cg10⟩ | exact ⟨trivial, (Upd.refl _ _).setCell (p := ⟨g10, 0, none⟩) (.inl hs10) _, undef, g10, aA7, aL7, aC7, (updf_ne u _ (by decide)).trans f10, hb10.set _, .inr hs10, hV7.far cg10⟩
    | 13, _ =>
      intro u wx S o ho hE hr hd hw
      injection (ho : some _ = some o) with ho
      subst ho
      have hEx : Ext W wx := hE.undrew
      obtain ⟨aA8, aL8, aC8, f8, hV8⟩ : Fsh.J 8 (.val (.nat (a % n))) u wx (S 8) := hw 8 (by omega) (by kernel_rfl) (by simp)
      obtain ⟨g11, f11, hb11, hs11, hall11⟩ : Fsh.J 11 (.new 26 (.slice none 0 0)) u wx (S 11) := hw 11 (by omega) (by kernel_rfl) (by simp)
      have cg11 := hb11.cell
      have fg11 := hb11.frozen
      simp only [fr, dstOf]
      go_simp
      go_wp2
      first | exact ⟨(Upd.refl _ _).setCell (p := ⟨g11, 0, none⟩) (.inl hs11) _, undef, g11, aA8, aL8, aC8, (updf_ne u _ (by decide)).trans f11, hb11.set _, .inr hs11, hV8.far cg11⟩ | exact ⟨undef, (Upd.refl _ _).setCell (p := ⟨g11, 0, none⟩) (.inl hs11) _, g11, aA8, aL8, aC8, (updf_ne u _ (by decide)).trans f11, hb11.set _, .inr hs11, hV8.far cg11⟩ | exact ⟨trivial, (Upd.refl _ _).setCell (p := ⟨g11, 0, none⟩) (.inl hs11) _, undef, g11, aA8, aL8, aC8, (updf_ne u _ (by decide)).trans f11, hb11.set _, .inr hs11, hV8.far cg11⟩
    | k + 14, h => exact absurd h (by omega)
  · intro u wx S hE hw hrg hdj
    have hEx : Ext W wx := hE.undrew
    have f0 : u 0 = .agg #[.slice A l c] := hw 0 (by omega) (by simp)
    have f1 : u 1 = .pointer (some ⟨g, 0, none⟩) := hw 1 (by omega) (by simp)
    have f2 : u 2 = .pointer (some ⟨g, 0, none⟩) := hw 2 (by omega) (by simp)
    have f3 : u 3 = .pointer (some ⟨g, 0, none⟩) := hw 3 (by omega) (by simp)
    have f4 : u 4 = .agg #[.slice D ld cd] := hw 4 (by omega) (by simp)
    obtain ⟨_, _, _, f5, ⟨aA5_0, aL5_0, aC5_0, rfl, hV5_0⟩, ⟨aA5_1, aL5_1, aC5_1, rfl, hV5_1⟩, rfl⟩ : Fsh.J 5 (.tup3 (.nat (a / n)) (.nat (a % n)) (.eq (.int .i64 0))) u wx (S 5) := hw 5 (by omega) (by simp)
    obtain ⟨_, _, _, f6, ⟨aA6_0, aL6_0, aC6_0, rfl, hV6_0⟩, ⟨aA6_1, aL6_1, aC6_1, rfl, hV6_1⟩, rfl⟩ : Fsh.J 6 (.tup3 (.nat (a / n)) (.nat (a % n)) (.eq (.int .i64 0))) u wx (S 6) := hw 6 (by omega) (by simp)
    obtain ⟨aA7, aL7, aC7, f7, hV7⟩ : Fsh.J 7 (.val (.nat (a / n))) u wx (S 7) := hw 7 (by omega) (by simp)
    obtain ⟨aA8, aL8, aC8, f8, hV8⟩ : Fsh.J 8 (.val (.nat (a % n))) u wx (S 8) := hw 8 (by omega) (by simp)
    have f9 : u 9 = .int .i64 0 := hw 9 (by omega) (by simp)
    obtain ⟨g12, aA12, aL12, aC12, f10, hb12, hs12, hV12⟩ : Fsh.J 12 (.set 10 26 (a / n)) u wx (S 12) := hw 12 (by omega) (by simp)
    obtain ⟨g13, aA13, aL13, aC13, f11, hb13, hs13, hV13⟩ : Fsh.J 13 (.set 11 26 (a % n)) u wx (S 13) := hw 13 (by omega) (by simp)
    simp only [fr, dstOf]
    go_simp
    have b2' := b2.ext hEx
    have q1 := hb13.cell
    have q2 := b2'.cell
    have q3 := b2'.frozen
    clear hw hrg hdj f0 f1 f2 f3 f4 f5 f6 f7 f8 f9 hs12 hs13
    go_wp2_with fail
    have q := (b2'.set (.slice aA13 aL13 aC13)).cell
    exact bodyPost_ret (v := .agg #[.slice aA13 aL13 aC13]) (by simp [results, Try.results45, go_sem, q]) rfl ⟨_, _, _, rfl, hV13.far q2, (hEW.trans hEx).setCell (p := ⟨w.heap.size + 1, 0, none⟩) (.inr (by simp)) _⟩
set_option maxRecDepth 100000 in
set_option maxHeartbeats 4000000 in
theorem madd_any (va vb : Value) (g a b n k : Nat) (w : World) (hR : RingV w g n) (hVa : NatV w va a) (hVb : NatV w vb b) (hFa : Fit k a) (hFb : Fit k b) (hFn : Fit k n) (hk : k ≤ 100000) :
    Calls Try.prog 48 #[.pointer (some ⟨g, 0, none⟩), va, vb] w (RetN w ((a + b) % n)) := by
  obtain ⟨A, la, ca, xs, rfl, -⟩ := hVa.open_
  obtain ⟨B, lb, cb, ys, rfl, -⟩ := hVb.open_
  go_enter Try.func48, Try.ntmps48
  -- a call follows: two numbers in blocks, and the result's
  go_wp2_with fail
  refine name_c (fun W hW => ?_)
  have b4 : Box W w.heap.size 26 (.slice A la ca) := by rw [hW]; exact ((Box.new _ _ _).alloc _).alloc _
  have b5 : Box W (w.heap.size + 1) 26 (.slice B lb cb) := by rw [hW]; exact (Box.new_at (by simp)).alloc _
  have b6 : Box W (w.heap.size + 1 + 1) 26 (.slice none 0 0) := by rw [hW]; exact Box.new_at (by simp)
  have hE : Ext w W := by rw [hW]; exact (((Upd.refl _ w).alloc _).alloc _).alloc _
  clear hW
  replace hVa := hVa.ext hE
  replace hVb := hVb.ext hE
  replace hR := hR.ext hE
  have hG : Ext W W := Upd.refl _ _
  refine (add_any _ _ a b k _ hVa hVb hFa hFb (by omega)).mono ?_
  rintro e w1 ⟨A1, l1, c1, rfl, hV1, hU⟩
  replace hG := hG.trans hU
  go_wp2_with fail
  refine (mof_any _ g (a + b) n (k + 1) _ (hR.ext hG) hV1 (Fit.add hFa hFb) (hFn.mono (by omega)) (by omega)).mono ?_
  rintro e w2 ⟨A2, l2, c2, rfl, hV2, hU⟩
  replace hG := hG.trans hU
  have b6' := b6.ext hG
  have q2 := b6'.cell
  have q3 := b6'.frozen
  go_wp2_with fail
  have q := (b6'.set (.slice A2 l2 c2)).cell
  exact bodyPost_ret (v := .agg #[.slice A2 l2 c2]) (by simp [results, Try.results48, go_sem, q]) rfl ⟨_, _, _, rfl, hV2.far q2, (hE.trans hG).setCell (p := ⟨w.heap.size + 1 + 1, 0, none⟩) (.inr (by simp; omega)) _⟩
/-- the number is small: words are multiplied -/
theorem mul_words {a b n : Nat} (hn : 2 ≤ n) (h32 : n < 4294967296) : (a % n) * (b % n) < 18446744073709551616 := by
  have h1 := Nat.mod_lt a (show 0 < n by omega)
  have h2 := Nat.mod_lt b (show 0 < n by omega)
  have h3 : (a % n) * (b % n) ≤ 4294967295 * 4294967295 := Nat.mul_le_mul (by omega) (by omega)
  omega
set_option maxRecDepth 100000 in
set_option maxHeartbeats 4000000 in
theorem mmul_many (va vb : Value) (g a b n k : Nat) (w : World) (hR : RingV w g n) (hVa : NatV w va a) (hVb : NatV w vb b) (hFa : Fit k a) (hFb : Fit k b) (hFn : Fit k n) (hk : k ≤ 100000) (h32 : ¬ n < 4294967296) :
    Calls Try.prog 52 #[.pointer (some ⟨g, 0, none⟩), va, vb] w (RetN w (a * b % n)) := by
  obtain ⟨A, la, ca, xs, rfl, -⟩ := hVa.open_
  obtain ⟨B, lb, cb, ys, rfl, -⟩ := hVb.open_
  have hR' := hR
  obtain ⟨D, ld, cd, g2, hVn, hn⟩ := hR
  have hs : smallOf n = 0 := by unfold smallOf; rw [if_neg h32]
  rw [hs] at g2
  clear h32 hs hVn
  have hE : Ext w (((w.alloc (.cells #[.slice A la ca] 26)).alloc (.cells #[.slice B lb cb] 26)).alloc (.cells #[.slice none 0 0] 26)) := (by repeat (first | (with_reducible exact Upd.refl _ _) | (with_reducible assumption) | (refine Upd.setCell ?_ (.inr (by first | exact Nat.le_refl _ | (dsimp only; omega) | (simp; done) | (simp; omega))) _) | (with_reducible refine Upd.alloc ?_ _) | (with_reducible refine Upd.drew ?_) | (with_reducible refine Upd.trans ?_ (by with_reducible assumption))))
  have c1 := (g2.ext hE).cell1
  clear g2 hE
  go_enter Try.func52, Try.ntmps52
  go_wp2_with fail
  clear c1
  refine name_c (fun W hW => ?_)
  have b6 : Box W (w.heap.size + 1 + 1) 26 (.slice none 0 0) := by rw [hW]; exact Box.new_at (by simp)
  have hE : Ext w W := by rw [hW]; exact (((Upd.refl _ w).alloc _).alloc _).alloc _
  clear hW
  replace hVa := hVa.ext hE
  replace hVb := hVb.ext hE
  replace hR' := hR'.ext hE
  have hG : Ext W W := Upd.refl _ _
  refine (mul_any _ _ a b k _ hVa hVb hFa hFb (by omega)).mono ?_
  rintro e w1 ⟨A1, l1, c1, rfl, hV1, hU⟩
  replace hG := hG.trans hU
  go_wp2_with fail
  refine (mof_any _ g (a * b) n (k + k) _ (hR'.ext hG) hV1 (Fit.mul hFa hFb) (hFn.mono (by omega)) (by omega)).mono ?_
  rintro e w2 ⟨A2, l2, c2, rfl, hV2, hU⟩
  replace hG := hG.trans hU
  have b6' := b6.ext hG
  have q2 := b6'.cell
  have q3 := b6'.frozen
  go_wp2_with fail
  have q := (b6'.set (.slice A2 l2 c2)).cell
  exact bodyPost_ret (v := .agg #[.slice A2 l2 c2]) (by simp [results, Try.results52, go_sem, q]) rfl ⟨_, _, _, rfl, hV2.far q2, (hE.trans hG).setCell (p := ⟨w.heap.size + 1 + 1, 0, none⟩) (.inr (by simp; omega)) _⟩
set_option maxRecDepth 100000 in
set_option maxHeartbeats 4000000 in
theorem mmul_widea (va vb : Value) (g a b n k : Nat) (w : World) (hR : RingV w g n) (hVa : NatV w va a) (hVb : NatV w vb b) (hFa : Fit k a) (hFb : Fit k b) (hFn : Fit k n) (hk : k ≤ 100000) (h32 : n < 4294967296)
    (hbig : ¬ a < 18446744073709551616) :
    Calls Try.prog 52 #[.pointer (some ⟨g, 0, none⟩), va, vb] w (RetN w (a * b % n)) := by
  obtain ⟨A, la, ca, xs, rfl, -⟩ := hVa.open_
  obtain ⟨B, lb, cb, ys, rfl, -⟩ := hVb.open_
  have hR' := hR
  obtain ⟨D, ld, cd, g2, hVn, hn⟩ := hR
  have hs : smallOf n = (n : Int) := by unfold smallOf; rw [if_pos h32]
  rw [hs] at g2
  have hpos : decide (0 < n) = true := by rw [decide_eq_true_eq]; omega
  have hnz : ¬ n = 0 := by omega
  have H32 := hide h32
  have Hn := hide hn
  clear h32 hs hVn hn
  have hE : Ext w (((w.alloc (.cells #[.slice A la ca] 26)).alloc (.cells #[.slice B lb cb] 26)).alloc (.cells #[.slice none 0 0] 26)) := (by repeat (first | (with_reducible exact Upd.refl _ _) | (with_reducible assumption) | (refine Upd.setCell ?_ (.inr (by first | exact Nat.le_refl _ | (dsimp only; omega) | (simp; done) | (simp; omega))) _) | (with_reducible refine Upd.alloc ?_ _) | (with_reducible refine Upd.drew ?_) | (with_reducible refine Upd.trans ?_ (by with_reducible assumption))))
  have c1 := (g2.ext hE).cell1
  clear hE
  go_enter Try.func52, Try.ntmps52
  go_wp2_with fail
  clear c1
  refine name_c (fun W hW => ?_)
  have b5 : Box W (w.heap.size + 1) 26 (.slice B lb cb) := by rw [hW]; exact (Box.new_at (by simp)).alloc _
  have b4 : Box W w.heap.size 26 (.slice A la ca) := by rw [hW]; exact ((Box.new _ _ _).alloc _).alloc _
  have b6 : Box W (w.heap.size + 1 + 1) 26 (.slice none 0 0) := by rw [hW]; exact Box.new_at (by simp)
  have hE : Ext w W := by rw [hW]; exact (((Upd.refl _ w).alloc _).alloc _).alloc _
  clear hW
  replace hVa := hVa.ext hE
  replace hVb := hVb.ext hE
  replace hR' := hR'.ext hE
  replace g2 := g2.ext hE
  have hG : Ext W W := Upd.refl _ _
  refine (uint_any _ a _ hVa).mono ?_
  rintro e w1 ⟨rfl, hU⟩
  rw [if_neg hbig, decide_eq_false hbig]
  replace hG := hG.trans hU
  have k5 := (b5.ext hG).cell
  go_wp2_with fail
  refine (uint_any _ b _ (hVb.ext hG)).mono ?_
  rintro e w2 ⟨rfl, hU⟩
  replace hG := hG.trans hU
  generalize (if b < 18446744073709551616 then (b : Int) else 0) = bi; generalize decide (b < 18446744073709551616) = bt
  have k4 := (b4.ext hG).cell
  replace k5 := (b5.ext hG).cell
  go_wp2_with fail
  refine (mul_any _ _ a b k _ (hVa.ext hG) (hVb.ext hG) hFa hFb (by omega)).mono ?_
  rintro e w3 ⟨A1, l1, c1, rfl, hV1, hU⟩
  replace hG := hG.trans hU
  go_wp2_with fail
  refine (mof_any _ g (a * b) n (k + k) _ (hR'.ext hG) hV1 (Fit.mul hFa hFb) (hFn.mono (by omega)) (by omega)).mono ?_
  rintro e w4 ⟨A2, l2, c2, rfl, hV2, hU⟩
  replace hG := hG.trans hU
  have b6' := b6.ext hG
  have q2 := b6'.cell
  have q3 := b6'.frozen
  go_wp2_with fail
  have q := (b6'.set (.slice A2 l2 c2)).cell
  exact bodyPost_ret (v := .agg #[.slice A2 l2 c2]) (by simp [results, Try.results52, go_sem, q]) rfl ⟨_, _, _, rfl, hV2.far q2, (hE.trans hG).setCell (p := ⟨w.heap.size + 1 + 1, 0, none⟩) (.inr (by simp; omega)) _⟩
set_option maxRecDepth 100000 in
set_option maxHeartbeats 4000000 in
theorem mmul_wideb (va vb : Value) (g a b n k : Nat) (w : World) (hR : RingV w g n) (hVa : NatV w va a) (hVb : NatV w vb b) (hFa : Fit k a) (hFb : Fit k b) (hFn : Fit k n) (hk : k ≤ 100000) (h32 : n < 4294967296)
    (ha : a < 18446744073709551616) (hbig : ¬ b < 18446744073709551616) :
    Calls Try.prog 52 #[.pointer (some ⟨g, 0, none⟩), va, vb] w (RetN w (a * b % n)) := by
  obtain ⟨A, la, ca, xs, rfl, -⟩ := hVa.open_
  obtain ⟨B, lb, cb, ys, rfl, -⟩ := hVb.open_
  have hR' := hR
  obtain ⟨D, ld, cd, g2, hVn, hn⟩ := hR
  have hs : smallOf n = (n : Int) := by unfold smallOf; rw [if_pos h32]
  rw [hs] at g2
  have hpos : decide (0 < n) = true := by rw [decide_eq_true_eq]; omega
  have hnz : ¬ n = 0 := by omega
  have H32 := hide h32
  have Hn := hide hn
  clear h32 hs hVn hn
  have hE : Ext w (((w.alloc (.cells #[.slice A la ca] 26)).alloc (.cells #[.slice B lb cb] 26)).alloc (.cells #[.slice none 0 0] 26)) := (by repeat (first | (with_reducible exact Upd.refl _ _) | (with_reducible assumption) | (refine Upd.setCell ?_ (.inr (by first | exact Nat.le_refl _ | (dsimp only; omega) | (simp; done) | (simp; omega))) _) | (with_reducible refine Upd.alloc ?_ _) | (with_reducible refine Upd.drew ?_) | (with_reducible refine Upd.trans ?_ (by with_reducible assumption))))
  have c1 := (g2.ext hE).cell1
  clear hE
  go_enter Try.func52, Try.ntmps52
  go_wp2_with fail
  clear c1
  refine name_c (fun W hW => ?_)
  have b5 : Box W (w.heap.size + 1) 26 (.slice B lb cb) := by rw [hW]; exact (Box.new_at (by simp)).alloc _
  have b4 : Box W w.heap.size 26 (.slice A la ca) := by rw [hW]; exact ((Box.new _ _ _).alloc _).alloc _
  have b6 : Box W (w.heap.size + 1 + 1) 26 (.slice none 0 0) := by rw [hW]; exact Box.new_at (by simp)
  have hE : Ext w W := by rw [hW]; exact (((Upd.refl _ w).alloc _).alloc _).alloc _
  clear hW
  replace hVa := hVa.ext hE
  replace hVb := hVb.ext hE
  replace hR' := hR'.ext hE
  replace g2 := g2.ext hE
  have hG : Ext W W := Upd.refl _ _
  refine (uint_any _ a _ hVa).mono ?_
  rintro e w1 ⟨rfl, hU⟩
  rw [if_pos ha, decide_eq_true ha]
  replace hG := hG.trans hU
  have k5 := (b5.ext hG).cell
  go_wp2_with fail
  refine (uint_any _ b _ (hVb.ext hG)).mono ?_
  rintro e w2 ⟨rfl, hU⟩
  replace hG := hG.trans hU
  rw [if_neg hbig, decide_eq_false hbig]
  have k4 := (b4.ext hG).cell
  replace k5 := (b5.ext hG).cell
  go_wp2_with fail
  refine (mul_any _ _ a b k _ (hVa.ext hG) (hVb.ext hG) hFa hFb (by omega)).mono ?_
  rintro e w3 ⟨A1, l1, c1, rfl, hV1, hU⟩
  replace hG := hG.trans hU
  go_wp2_with fail
  refine (mof_any _ g (a * b) n (k + k) _ (hR'.ext hG) hV1 (Fit.mul hFa hFb) (hFn.mono (by omega)) (by omega)).mono ?_
  rintro e w4 ⟨A2, l2, c2, rfl, hV2, hU⟩
  replace hG := hG.trans hU
  have b6' := b6.ext hG
  have q2 := b6'.cell
  have q3 := b6'.frozen
  go_wp2_with fail
  have q := (b6'.set (.slice A2 l2 c2)).cell
  exact bodyPost_ret (v := .agg #[.slice A2 l2 c2]) (by simp [results, Try.results52, go_sem, q]) rfl ⟨_, _, _, rfl, hV2.far q2, (hE.trans hG).setCell (p := ⟨w.heap.size + 1 + 1, 0, none⟩) (.inr (by simp; omega)) _⟩
set_option maxRecDepth 100000 in
set_option maxHeartbeats 4000000 in
theorem mmul_words (va vb : Value) (g a b n k : Nat) (w : World) (hR : RingV w g n) (hVa : NatV w va a) (hVb : NatV w vb b) (h32 : n < 4294967296)
    (ha : a < 18446744073709551616) (hb : b < 18446744073709551616) :
    Calls Try.prog 52 #[.pointer (some ⟨g, 0, none⟩), va, vb] w (RetN w (a * b % n)) := by
  obtain ⟨A, la, ca, xs, rfl, -⟩ := hVa.open_
  obtain ⟨B, lb, cb, ys, rfl, -⟩ := hVb.open_
  have hR' := hR
  obtain ⟨D, ld, cd, g2, hVn, hn⟩ := hR
  have hs : smallOf n = (n : Int) := by unfold smallOf; rw [if_pos h32]
  rw [hs] at g2
  have hpos : decide (0 < n) = true := by rw [decide_eq_true_eq]; omega
  have hnz : ¬ n = 0 := by omega
  have H32 := hide h32
  have Hn := hide hn
  clear h32 hs hVn hn
  have hE : Ext w (((w.alloc (.cells #[.slice A la ca] 26)).alloc (.cells #[.slice B lb cb] 26)).alloc (.cells #[.slice none 0 0] 26)) := (by repeat (first | (with_reducible exact Upd.refl _ _) | (with_reducible assumption) | (refine Upd.setCell ?_ (.inr (by first | exact Nat.le_refl _ | (dsimp only; omega) | (simp; done) | (simp; omega))) _) | (with_reducible refine Upd.alloc ?_ _) | (with_reducible refine Upd.drew ?_) | (with_reducible refine Upd.trans ?_ (by with_reducible assumption))))
  have c1 := (g2.ext hE).cell1
  clear hE
  go_enter Try.func52, Try.ntmps52
  go_wp2_with fail
  clear c1
  refine name_c (fun W hW => ?_)
  have b5 : Box W (w.heap.size + 1) 26 (.slice B lb cb) := by rw [hW]; exact (Box.new_at (by simp)).alloc _
  have b4 : Box W w.heap.size 26 (.slice A la ca) := by rw [hW]; exact ((Box.new _ _ _).alloc _).alloc _
  have b6 : Box W (w.heap.size + 1 + 1) 26 (.slice none 0 0) := by rw [hW]; exact Box.new_at (by simp)
  have hE : Ext w W := by rw [hW]; exact (((Upd.refl _ w).alloc _).alloc _).alloc _
  clear hW
  replace hVa := hVa.ext hE
  replace hVb := hVb.ext hE
  replace hR' := hR'.ext hE
  replace g2 := g2.ext hE
  have hG : Ext W W := Upd.refl _ _
  refine (uint_any _ a _ hVa).mono ?_
  rintro e w1 ⟨rfl, hU⟩
  rw [if_pos ha, decide_eq_true ha]
  replace hG := hG.trans hU
  have k5 := (b5.ext hG).cell
  go_wp2_with fail
  refine (uint_any _ b _ (hVb.ext hG)).mono ?_
  rintro e w2 ⟨rfl, hU⟩
  replace hG := hG.trans hU
  rw [if_pos hb, decide_eq_true hb]
  have k4 := (b4.ext hG).cell
  replace k5 := (b5.ext hG).cell
  have hw := mul_words (a := a) (b := b) Hn.out H32.out
  obtain ⟨x, hx⟩ : ∃ x : Nat, x = a % n := ⟨_, rfl⟩
  obtain ⟨y, hy⟩ : ∃ y : Nat, y = b % n := ⟨_, rfl⟩
  obtain ⟨p, hp⟩ : ∃ p : Nat, p = x * y := ⟨_, rfl⟩
  obtain ⟨z, hz⟩ : ∃ z : Nat, z = p % n := ⟨_, rfl⟩
  have hz2 : z = a * b % n := by rw [hz, hp, hx, hy, ← Nat.mul_mod]
  rw [← hx, ← hy, ← hp] at hw
  have e1 : (a : Int) % (n : Int) = (x : Int) := by omega
  have e1' : (a : Int).tmod (n : Int) = (x : Int) := by rw [Int.tmod_eq_emod_of_nonneg (by omega)]; exact e1
  have e2 : (b : Int) % (n : Int) = (y : Int) := by omega
  have e2' : (b : Int).tmod (n : Int) = (y : Int) := by rw [Int.tmod_eq_emod_of_nonneg (by omega)]; exact e2
  have e5 : (x : Int) * (y : Int) = (p : Int) := by rw [hp, Int.natCast_mul]
  have e3 : IntKind.u64.wrap (p : Int) = (p : Int) := by rw [IntKind.wrap_u64]; omega
  have e4 : (p : Int) % (n : Int) = (z : Int) := by omega
  have e4' : (p : Int).tmod (n : Int) = (z : Int) := by rw [Int.tmod_eq_emod_of_nonneg (by omega)]; exact e4
  have hz3 : z < 18446744073709551616 := by have := Nat.mod_lt p (show 0 < n by have := Hn.out; omega); have := H32.out; omega
  have Hz := hide hz3
  have Hz2 := hide hz2
  clear hx hy hz hz2 hz3 hw hp
  go_wp2_with fail
  have g2' := g2.ext hG
  have kc := fun x : Wd (Ext w2.drew) => (x.ok.cell (p := ⟨g, 1, none⟩) g2'.drew.lt (fun h => h)).trans g2'.drew.cell1
  clear k4 k5
  refine wp_region_plan (Ext _) 19 [(false,0), (false,1), (false,2), (false,3), (false,4), (false,5), (false,6), (false,7), (false,8), (false,9), (false,10), (false,11), (false,12), (false,13), (false,14), (false,15), (false,16), (false,17), (true,18)] (by kernel_rfl) (by kernel_rfl) (Upd.refl _ _) (fun hne => ?_)
  repeat (refine head_q rfl (fun K hK => ?_); have hK2 := hide hK; clear hK; go_simp; refine hK2.out _ ?_; clear hK2 K)
  refine head_l rfl ?_
  go_wp2_with (go_at_call 29; go_must (refine (new_any z _ Hz.out).mono ?_); rintro e w5 ⟨A2, l2, c2, rfl, hV2, hU5⟩)
  refine ⟨Cls (Ext _), cls_narrow hU5, ⟨⟨_, Upd.refl _ _⟩, rfl⟩, ?_⟩
  refine head_nil ?_
  try simp only [List.drop_succ_cons, List.drop_zero]
  have b6' := b6.ext (hG.trans hU5.undrew)
  have q2 := b6'.cell
  have q3 := b6'.frozen
  go_wp2_with fail
  have q := (b6'.set (.slice A2 l2 c2)).cell
  exact bodyPost_ret (v := .agg #[.slice A2 l2 c2]) (by simp [results, Try.results52, go_sem, q]) rfl ⟨_, _, _, rfl, (hV2.of_eq Hz2.out).far q2, (hE.trans (hG.trans hU5.undrew)).setCell (p := ⟨w.heap.size + 1 + 1, 0, none⟩) (.inr (by simp; omega)) _⟩
theorem mmul_any (va vb : Value) (g a b n k : Nat) (w : World) (hR : RingV w g n) (hVa : NatV w va a) (hVb : NatV w vb b) (hFa : Fit k a) (hFb : Fit k b) (hFn : Fit k n) (hk : k ≤ 100000) :
    Calls Try.prog 52 #[.pointer (some ⟨g, 0, none⟩), va, vb] w (RetN w (a * b % n)) := by
  by_cases h32 : n < 4294967296
  · by_cases ha : a < 18446744073709551616
    · by_cases hb : b < 18446744073709551616
      · exact mmul_words va vb g a b n k w hR hVa hVb h32 ha hb
      · exact mmul_wideb va vb g a b n k w hR hVa hVb hFa hFb hFn hk h32 ha hb
    · exact mmul_widea va vb g a b n k w hR hVa hVb hFa hFb hFn hk h32 ha
  · exact mmul_many va vb g a b n k w hR hVa hVb hFa hFb hFn hk h32
set_option maxRecDepth 100000 in
set_option maxHeartbeats 4000000 in
theorem msub_yes (va vb : Value) (g a b n k : Nat) (w : World) (hR : RingV w g n) (hVa : NatV w va a) (hVb : NatV w vb b) (hFa : Fit k a) (hFb : Fit k b) (hFn : Fit k n) (hk : k ≤ 100000) (hab : Hid (b % n ≤ a % n)) :
    Calls Try.prog 50 #[.pointer (some ⟨g, 0, none⟩), va, vb] w (RetN w (a % n - b % n)) := by
  have hgw : g < w.heap.size := by
    obtain ⟨D, ld, cd, g2, -⟩ := hR
    exact g2.lt
  obtain ⟨A, la, ca, xs, rfl, -⟩ := hVa.open_
  obtain ⟨B, lb, cb, ys, rfl, -⟩ := hVb.open_
  have hn := hR.two
  have hFx : Fit k (a % n) := hFn.le (Nat.le_of_lt (Nat.mod_lt _ (by omega)))
  have hFy : Fit k (b % n) := hFn.le (Nat.le_of_lt (Nat.mod_lt _ (by omega)))
  go_enter Try.func50, Try.ntmps50
  go_wp2_with fail
  refine name_w (fun W hW => ?_)
  have b4 : Box W w.heap.size 26 (.slice A la ca) := by rw [hW]; exact ((Box.new _ _ _).alloc _).alloc _
  have b5 : Box W (w.heap.size + 1) 26 (.slice B lb cb) := by rw [hW]; exact (Box.new_at (by simp)).alloc _
  have b6 : Box W (w.heap.size + 1 + 1) 26 (.slice none 0 0) := by rw [hW]; exact Box.new_at (by simp)
  have hEW : Ext w W := by rw [hW]; exact (((Upd.refl _ w).alloc _).alloc _).alloc _
  clear hW
  replace hVa := hVa.ext hEW
  replace hVb := hVb.ext hEW
  replace hR := hR.ext hEW
  have hG : Ext W.drew W.drew := Upd.refl _ _
  have k4 := fun x : Wd (Ext W.drew) => (x.ok.cell (p := ⟨w.heap.size, 0, none⟩) b4.drew.lt (fun h => h)).trans b4.drew.cell
  have k5 := fun x : Wd (Ext W.drew) => (x.ok.cell (p := ⟨w.heap.size + 1, 0, none⟩) b5.drew.lt (fun h => h)).trans b5.drew.cell
  refine wp_region_plan (Ext _) 5 [(false,0), (false,1), (false,3), (false,4), (true,2)] (by kernel_rfl) (by kernel_rfl) (Upd.refl _ _) (fun hne => ?_)
  repeat (refine head_q rfl (fun K hK => ?_); have hK2 := hide hK; clear hK; go_simp; refine hK2.out _ ?_; clear hK2 K)
  refine head_l rfl ?_
  go_wp2_with (go_at_call 45; go_must (refine (mof_any _ g a n k _ (hR.ext hG.undrew) (hVa.ext hG.undrew) hFa hFn (by omega)).mono ?_); rintro e w1 ⟨A1, l1, c1, rfl, hV1, hU⟩; replace hG := hG.trans hU)
  refine ⟨Cls (Ext _), fun _ h => h, ⟨⟨_, hG⟩, rfl⟩, ?_⟩
  repeat (refine head_q rfl (fun K hK => ?_); have hK2 := hide hK; clear hK; go_simp; refine hK2.out _ ?_; clear hK2 K)
  refine head_nil ?_
  try simp only [List.drop_succ_cons, List.drop_zero]
  go_wp2_with fail
  refine (mof_any _ g b n k _ (hR.ext hG.undrew) (hVb.ext hG.undrew) hFb hFn (by omega)).mono ?_
  rintro e w2 ⟨A2, l2, c2, rfl, hV2, hU⟩
  replace hG := hG.trans hU
  replace hV1 := hV1.ext hU
  have b4' := b4.ext hG.undrew
  have b5' := b5.ext hG.undrew
  have b6' := b6.ext hG.undrew
  have hR' := hR.ext hG.undrew
  have hE' := hEW.trans hG.undrew
  have m4 := b4'.cell
  have n4 := b4'.frozen
  have b5s := b5'.far (p := ⟨w.heap.size, 0, none⟩) (by simp) (.slice A1 l1 c1)
  have m5 := b5s.cell
  have n5 := b5s.frozen
  go_wp2_with fail
  refine name_c (fun X hX => ?_)
  have d4 : Box X w.heap.size 26 (.slice A1 l1 c1) := by rw [hX]; exact (b4'.set _).far (by simp) _
  have d5 : Box X (w.heap.size + 1) 26 (.slice A2 l2 c2) := by rw [hX]; exact b5s.set _
  have d6 : Box X (w.heap.size + 1 + 1) 26 (.slice none 0 0) := by rw [hX]; exact (b6'.far (by simp; omega) _).far (by simp) _
  have x1 : NatV X (.agg #[.slice A1 l1 c1]) (a % n) := by rw [hX]; exact (hV1.far m4).far m5
  have x2 : NatV X (.agg #[.slice A2 l2 c2]) (b % n) := by rw [hX]; exact (hV2.far m4).far m5
  have hEX : Ext w X := by rw [hX]; exact (hE'.setCell (p := ⟨w.heap.size, 0, none⟩) (.inr (Nat.le_refl _)) _).setCell (p := ⟨w.heap.size + 1, 0, none⟩) (.inr (by simp)) _
  have hRX : RingV X g n := by
    obtain ⟨D, ld, cd, g2, hVn, hn2⟩ := hR'
    exact ⟨D, ld, cd, by rw [hX]; exact (g2.far (p := ⟨w.heap.size, 0, none⟩) (fun e => by simp at e; omega) _).far (p := ⟨w.heap.size + 1, 0, none⟩) (fun e => by simp at e; omega) _, by rw [hX]; exact (hVn.far m4).far m5, hn2⟩
  clear hX hV1 hV2 m4 n4 m5 n5 b4 b5 b6 b4' b5' b6' b5s hR hR' hE' hG hU hEW hVa hVb
  have hG : Ext X X := Upd.refl _ _
  refine (sub_yes _ _ (a % n) (b % n) k _ x1 x2 hFx hFy (by omega) hab.out).mono ?_
  rintro e w3 ⟨A3, l3, c3, rfl, hV3, hU⟩
  replace hG := hG.trans hU
  have d6' := (d6.ext hG).alloc (.cells #[.slice A3 l3 c3] 26)
  have q2 := d6'.cell
  have q3 := d6'.frozen
  go_wp2_with fail
  have q := (d6'.set (.slice A3 l3 c3)).cell
  exact bodyPost_ret (v := .agg #[.slice A3 l3 c3]) (by simp [results, Try.results50, go_sem, q]) rfl ⟨_, _, _, rfl, (hV3.ext ((Upd.refl _ _).alloc _)).far q2, ((hEX.trans hG).alloc _).setCell (p := ⟨w.heap.size + 1 + 1, 0, none⟩) (.inr (by simp; omega)) _⟩
set_option maxRecDepth 100000 in
set_option maxHeartbeats 4000000 in
theorem msub_no (va vb : Value) (g a b n k : Nat) (w : World) (hR : RingV w g n) (hVa : NatV w va a) (hVb : NatV w vb b) (hFa : Fit k a) (hFb : Fit k b) (hFn : Fit k n) (hk : k ≤ 100000) (hab : Hid (a % n < b % n)) :
    Calls Try.prog 50 #[.pointer (some ⟨g, 0, none⟩), va, vb] w (RetN w (a % n + n - b % n)) := by
  have hgw : g < w.heap.size := by
    obtain ⟨D, ld, cd, g2, -⟩ := hR
    exact g2.lt
  have hle : b % n ≤ a % n + n := by have := Nat.mod_lt b (show 0 < n by have := hR.two; omega); omega
  have Hle := hide hle
  clear hle
  obtain ⟨A, la, ca, xs, rfl, -⟩ := hVa.open_
  obtain ⟨B, lb, cb, ys, rfl, -⟩ := hVb.open_
  have hn := hR.two
  have hFx : Fit k (a % n) := hFn.le (Nat.le_of_lt (Nat.mod_lt _ (by omega)))
  have hFy : Fit k (b % n) := hFn.le (Nat.le_of_lt (Nat.mod_lt _ (by omega)))
  go_enter Try.func50, Try.ntmps50
  go_wp2_with fail
  refine name_w (fun W hW => ?_)
  have b4 : Box W w.heap.size 26 (.slice A la ca) := by rw [hW]; exact ((Box.new _ _ _).alloc _).alloc _
  have b5 : Box W (w.heap.size + 1) 26 (.slice B lb cb) := by rw [hW]; exact (Box.new_at (by simp)).alloc _
  have b6 : Box W (w.heap.size + 1 + 1) 26 (.slice none 0 0) := by rw [hW]; exact Box.new_at (by simp)
  have hEW : Ext w W := by rw [hW]; exact (((Upd.refl _ w).alloc _).alloc _).alloc _
  clear hW
  replace hVa := hVa.ext hEW
  replace hVb := hVb.ext hEW
  replace hR := hR.ext hEW
  have hG : Ext W.drew W.drew := Upd.refl _ _
  have k4 := fun x : Wd (Ext W.drew) => (x.ok.cell (p := ⟨w.heap.size, 0, none⟩) b4.drew.lt (fun h => h)).trans b4.drew.cell
  have k5 := fun x : Wd (Ext W.drew) => (x.ok.cell (p := ⟨w.heap.size + 1, 0, none⟩) b5.drew.lt (fun h => h)).trans b5.drew.cell
  refine wp_region_plan (Ext _) 5 [(false,0), (false,1), (false,3), (false,4), (true,2)] (by kernel_rfl) (by kernel_rfl) (Upd.refl _ _) (fun hne => ?_)
  repeat (refine head_q rfl (fun K hK => ?_); have hK2 := hide hK; clear hK; go_simp; refine hK2.out _ ?_; clear hK2 K)
  refine head_l rfl ?_
  go_wp2_with (go_at_call 45; go_must (refine (mof_any _ g a n k _ (hR.ext hG.undrew) (hVa.ext hG.undrew) hFa hFn (by omega)).mono ?_); rintro e w1 ⟨A1, l1, c1, rfl, hV1, hU⟩; replace hG := hG.trans hU)
  refine ⟨Cls (Ext _), fun _ h => h, ⟨⟨_, hG⟩, rfl⟩, ?_⟩
  repeat (refine head_q rfl (fun K hK => ?_); have hK2 := hide hK; clear hK; go_simp; refine hK2.out _ ?_; clear hK2 K)
  refine head_nil ?_
  try simp only [List.drop_succ_cons, List.drop_zero]
  go_wp2_with fail
  refine (mof_any _ g b n k _ (hR.ext hG.undrew) (hVb.ext hG.undrew) hFb hFn (by omega)).mono ?_
  rintro e w2 ⟨A2, l2, c2, rfl, hV2, hU⟩
  replace hG := hG.trans hU
  replace hV1 := hV1.ext hU
  have b4' := b4.ext hG.undrew
  have b5' := b5.ext hG.undrew
  have b6' := b6.ext hG.undrew
  have hR' := hR.ext hG.undrew
  have hE' := hEW.trans hG.undrew
  have m4 := b4'.cell
  have n4 := b4'.frozen
  have b5s := b5'.far (p := ⟨w.heap.size, 0, none⟩) (by simp) (.slice A1 l1 c1)
  have m5 := b5s.cell
  have n5 := b5s.frozen
  go_wp2_with fail
  refine name_c (fun X hX => ?_)
  have d4 : Box X w.heap.size 26 (.slice A1 l1 c1) := by rw [hX]; exact (b4'.set _).far (by simp) _
  have d5 : Box X (w.heap.size + 1) 26 (.slice A2 l2 c2) := by rw [hX]; exact b5s.set _
  have d6 : Box X (w.heap.size + 1 + 1) 26 (.slice none 0 0) := by rw [hX]; exact (b6'.far (by simp; omega) _).far (by simp) _
  have x1 : NatV X (.agg #[.slice A1 l1 c1]) (a % n) := by rw [hX]; exact (hV1.far m4).far m5
  have x2 : NatV X (.agg #[.slice A2 l2 c2]) (b % n) := by rw [hX]; exact (hV2.far m4).far m5
  have hEX : Ext w X := by rw [hX]; exact (hE'.setCell (p := ⟨w.heap.size, 0, none⟩) (.inr (Nat.le_refl _)) _).setCell (p := ⟨w.heap.size + 1, 0, none⟩) (.inr (by simp)) _
  have hRX : RingV X g n := by
    obtain ⟨D, ld, cd, g2, hVn, hn2⟩ := hR'
    exact ⟨D, ld, cd, by rw [hX]; exact (g2.far (p := ⟨w.heap.size, 0, none⟩) (fun e => by simp at e; omega) _).far (p := ⟨w.heap.size + 1, 0, none⟩) (fun e => by simp at e; omega) _, by rw [hX]; exact (hVn.far m4).far m5, hn2⟩
  clear hX hV1 hV2 m4 n4 m5 n5 b4 b5 b6 b4' b5' b6' b5s hR hR' hE' hG hU hEW hVa hVb
  have hG : Ext X X := Upd.refl _ _
  refine (sub_no _ _ (a % n) (b % n) k _ x1 x2 hFx hFy (by omega) hab.out).mono ?_
  rintro e w3 ⟨A3, l3, c3, rfl, hV3, hU⟩
  replace hG := hG.trans hU
  go_wp2_with fail
  refine name_w (fun Y hY => ?_)
  have hXY : Ext X Y := by rw [hY]; exact hG.alloc _
  clear hY hU hG hV3
  replace d4 := d4.ext hXY
  replace d5 := d5.ext hXY
  replace d6 := d6.ext hXY
  replace x1 := x1.ext hXY
  replace x2 := x2.ext hXY
  replace hEX := hEX.trans hXY
  obtain ⟨D, ld, cd, g2, hVn, hn2⟩ := hRX.ext hXY
  have hFs : Fit (k + 1) (a % n + n) := Fit.add hFx hFn
  have hFy' : Fit (k + 1) (b % n) := hFy.mono (by omega)
  clear hRX hXY
  refine wp_region_fs 13 [.val (.eq (.agg #[.slice A1 l1 c1])), .val (.eq (.pointer (some ⟨g, 0, none⟩))), .val (.eq (.pointer (some ⟨g, 0, none⟩))), .val (.eq (.pointer (some ⟨g, 0, none⟩))), .val (.eq (.agg #[.slice D ld cd])), .val (.nat (a % n + n)), .val (.eq (.agg #[.slice A2 l2 c2])), .tup2 (.nat (a % n + n - b % n)) (.eq (.bool true)), .tup2 (.nat (a % n + n - b % n)) (.eq (.bool true)), .val (.nat (a % n + n - b % n)), .val (.eq (.bool true)), .new 26 (.slice none 0 0), .set 11 26 (a % n + n - b % n)] [(12, 11)] (by kernel_rfl) rfl (by kernel_rfl) (by kernel_rfl) (by kernel_rfl) ?_ ?_
  · intro i hi
    match i, hi with
    | 0, _ =>
      intro u wx S o ho hE hr hd hw
      injection (ho : some _ = some o) with ho
      subst ho
      have hEx : Ext Y wx := hE.undrew
      have cx := (d4.ext hEx).cell
      simp only [fr, dstOf]
      go_simp
      go_wp2
      first | exact ⟨Upd.refl _ _, rfl⟩ | exact ⟨_, rfl, Upd.refl _ _, rfl⟩
    | 1, _ =>
      intro u wx S o ho hE hr hd hw
      injection (ho : some _ = some o) with ho
      subst ho
      have hEx : Ext Y wx := hE.undrew
      simp only [fr, dstOf]
      go_simp
      go_wp2
      first | exact ⟨Upd.refl _ _, rfl⟩ | exact ⟨_, rfl, Upd.refl _ _, rfl⟩
    | 2, _ =>
      intro u wx S o ho hE hr hd hw
      injection (ho : some _ = some o) with ho
      subst ho
      have hEx : Ext Y wx := hE.undrew
      have f1 : u 1 = .pointer (some ⟨g, 0, none⟩) := hw 1 (by omega) (by kernel_rfl) (by simp)
      simp only [fr, dstOf]
      go_simp
      go_wp2
      first | exact ⟨Upd.refl _ _, rfl⟩ | exact ⟨_, rfl, Upd.refl _ _, rfl⟩
    | 3, _ =>
      intro u wx S o ho hE hr hd hw
      injection (ho : some _ = some o) with ho
      subst ho
      have hEx : Ext Y wx := hE.undrew
      have f2 : u 2 = .pointer (some ⟨g, 0, none⟩) := hw 2 (by omega) (by kernel_rfl) (by simp)
      simp only [fr, dstOf]
      go_simp
      go_wp2
      first | exact ⟨Upd.refl _ _, rfl⟩ | exact ⟨_, rfl, Upd.refl _ _, rfl⟩
    | 4, _ =>
      intro u wx S o ho hE hr hd hw
      injection (ho : some _ = some o) with ho
      subst ho
      have hEx : Ext Y wx := hE.undrew
      have f3 : u 3 = .pointer (some ⟨g, 0, none⟩) := hw 3 (by omega) (by kernel_rfl) (by simp)
      have cx := (g2.ext hEx).cell0
      simp only [fr, dstOf]
      go_simp
      go_wp2
      first | exact ⟨Upd.refl _ _, rfl⟩ | exact ⟨_, rfl, Upd.refl _ _, rfl⟩
    | 5, _ =>
      intro u wx S o ho hE hr hd hw
      injection (ho : some _ = some o) with ho
      subst ho
      have hEx : Ext Y wx := hE.undrew
      have f0 : u 0 = .agg #[.slice A1 l1 c1] := hw 0 (by omega) (by kernel_rfl) (by simp)
      have f4 : u 4 = .agg #[.slice D ld cd] := hw 4 (by omega) (by kernel_rfl) (by simp)
      simp only [fr, dstOf]
      go_simp
      go_wp2_with fail
      refine (add_any _ _ (a % n) n k _ (x1.ext hEx) (hVn.ext hEx) hFx hFn (by omega)).mono ?_
      rintro e wn ⟨A9, l9, c9, rfl, hVm, hU⟩
      go_wp2_with fail
      exact ⟨_, rfl, hU.mono (fun _ _ h => h.elim), _, _, _, rfl, hVm⟩
    | 6, _ =>
      intro u wx S o ho hE hr hd hw
      injection (ho : some _ = some o) with ho
      subst ho
      have hEx : Ext Y wx := hE.undrew
      have cx := (d5.ext hEx).cell
      simp only [fr, dstOf]
      go_simp
      go_wp2
      first | exact ⟨Upd.refl _ _, rfl⟩ | exact ⟨_, rfl, Upd.refl _ _, rfl⟩
    | 7, _ =>
      intro u wx S o ho hE hr hd hw
      injection (ho : some _ = some o) with ho
      subst ho
      have hEx : Ext Y wx := hE.undrew
      obtain ⟨aA5, aL5, aC5, f5, hV5⟩ : Fsh.J 5 (.val (.nat (a % n + n))) u wx (S 5) := hw 5 (by omega) (by kernel_rfl) (by simp)
      have f6 : u 6 = .agg #[.slice A2 l2 c2] := hw 6 (by omega) (by kernel_rfl) (by simp)
      simp only [fr, dstOf]
      go_simp
      go_wp2_with fail
      refine (sub_yes _ _ (a % n + n) (b % n) (k + 1) _ hV5 (x2.ext hEx) hFs hFy' (by omega) Hle.out).mono ?_
      rintro e wn ⟨A9, l9, c9, rfl, hVm, hU⟩
      go_wp2_with fail
      exact ⟨_, rfl, hU.mono (fun _ _ h => h.elim), _, _, rfl, ⟨_, _, _, rfl, hVm⟩, rfl⟩
    | 8, _ =>
      intro u wx S o ho hE hr hd hw
      injection (ho : some _ = some o) with ho
      subst ho
      have hEx : Ext Y wx := hE.undrew
      obtain ⟨_, _, f7, ⟨aA7_0, aL7_0, aC7_0, rfl, hV7_0⟩, rfl⟩ : Fsh.J 7 (.tup2 (.nat (a % n + n - b % n)) (.eq (.bool true))) u wx (S 7) := hw 7 (by omega) (by kernel_rfl) (by simp)
      simp only [fr, dstOf]
      go_simp
      go_wp2
      first | exact ⟨Upd.refl _ _, _, _, rfl, ⟨_, _, _, rfl, hV7_0⟩, rfl⟩ | exact ⟨_, rfl, Upd.refl _ _, _, _, rfl, ⟨_, _, _, rfl, hV7_0⟩, rfl⟩
    | 9, _ =>
      intro u wx S o ho hE hr hd hw
      injection (ho : some _ = some o) with ho
      subst ho
      have hEx : Ext Y wx := hE.undrew
      obtain ⟨_, _, f8, ⟨aA8_0, aL8_0, aC8_0, rfl, hV8_0⟩, rfl⟩ : Fsh.J 8 (.tup2 (.nat (a % n + n - b % n)) (.eq (.bool true))) u wx (S 8) := hw 8 (by omega) (by kernel_rfl) (by simp)
      simp only [fr, dstOf]
      go_simp
      go_wp2
      first | exact ⟨Upd.refl _ _, aA8_0, aL8_0, aC8_0, rfl, hV8_0⟩ | exact ⟨_, rfl, Upd.refl _ _, aA8_0, aL8_0, aC8_0, rfl, hV8_0⟩
    | 10, _ =>
      intro u wx S o ho hE hr hd hw
      injection (ho : some _ = some o) with ho
      subst ho
      have hEx : Ext Y wx := hE.undrew
      obtain ⟨_, _, f8, ⟨aA8_0, aL8_0, aC8_0, rfl, hV8_0⟩, rfl⟩ : Fsh.J 8 (.tup2 (.nat (a % n + n - b % n)) (.eq (.bool true))) u wx (S 8) := hw 8 (by omega) (by kernel_rfl) (by simp)
      simp only [fr, dstOf]
      go_simp
      go_wp2
      first | exact ⟨Upd.refl _ _, rfl⟩ | exact ⟨_, rfl, Upd.refl _ _, rfl⟩
    | 11, _ =>
      intro u wx S o ho hE hr hd hw
      injection (ho : some _ = some o) with ho
      subst ho
      have hEx : Ext Y wx := hE.undrew
      simp only [fr, dstOf]
      go_simp
      go_wp2
      first | exact ⟨(Upd.refl _ _).alloc _, wx.heap.size, rfl, Box.new _ _ _, ⟨Nat.le_refl _, by first | exact Nat.lt_succ_self _ | simp⟩, fun b hb => by first | omega | (simp at hb; omega)⟩ | exact ⟨_, rfl, (Upd.refl _ _).alloc _, wx.heap.size, rfl, Box.new _ _ _, ⟨Nat.le_refl _, by first | exact Nat.lt_succ_self _ | simp⟩, fun b hb => by first | omega | (simp at hb; omega)⟩
    | 12, _ =>
      intro u wx S o ho hE hr hd hw
      injection (ho : some _ = some o) with ho
      subst ho
      have hEx : Ext Y wx := hE.undrew
      obtain ⟨aA9, aL9, aC9, f9, hV9⟩ : Fsh.J 9 (.val (.nat (a % n + n - b % n))) u wx (S 9) := hw 9 (by omega) (by kernel_rfl) (by simp)
      obtain ⟨g11, f11, hb11, hs11, hall11⟩ : Fsh.J 11 (.new 26 (.slice none 0 0)) u wx (S 11) := hw 11 (by omega) (by kernel_rfl) (by simp)
      have cg11 := hb11.cell
      have fg11 := hb11.frozen
      simp only [fr, dstOf]
      go_simp
      go_wp2
      first | exact ⟨(Upd.refl _ _).setCell (p := ⟨g11, 0, none⟩) (.inl hs11) _, undef, g11, aA9, aL9, aC9, (updf_ne u _ (by decide)).trans f11, hb11.set _, .inr hs11, hV9.far cg11⟩ | exact ⟨undef, (Upd.refl _ _).setCell (p := ⟨g11, 0, none⟩) (.inl hs11) _, g11, aA9, aL9, aC9, (updf_ne u _ (by decide)).trans f11, hb11.set _, .inr hs11, hV9.far cg11⟩ | exact ⟨trivial, (Upd.refl _ _).setCell (p := ⟨g11, 0, none⟩) (.inl hs11) _, undef, g11, aA9, aL9, aC9, (updf_ne u _ (by decide)).trans f11, hb11.set _, .inr hs11, hV9.far cg11⟩
    | k + 13, h => exact absurd h (by omega)
  · intro u wx S hE hw hrg hdj
    have hEx : Ext Y wx := hE.undrew
    have f0 : u 0 = .agg #[.slice A1 l1 c1] := hw 0 (by omega) (by simp)
    have f1 : u 1 = .pointer (some ⟨g, 0, none⟩) := hw 1 (by omega) (by simp)
    have f2 : u 2 = .pointer (some ⟨g, 0, none⟩) := hw 2 (by omega) (by simp)
    have f3 : u 3 = .pointer (some ⟨g, 0, none⟩) := hw 3 (by omega) (by simp)
    have f4 : u 4 = .agg #[.slice D ld cd] := hw 4 (by omega) (by simp)
    obtain ⟨aA5, aL5, aC5, f5, hV5⟩ : Fsh.J 5 (.val (.nat (a % n + n))) u wx (S 5) := hw 5 (by omega) (by simp)
    have f6 : u 6 = .agg #[.slice A2 l2 c2] := hw 6 (by omega) (by simp)
    obtain ⟨_, _, f7, ⟨aA7_0, aL7_0, aC7_0, rfl, hV7_0⟩, rfl⟩ : Fsh.J 7 (.tup2 (.nat (a % n + n - b % n)) (.eq (.bool true))) u wx (S 7) := hw 7 (by omega) (by simp)
    obtain ⟨_, _, f8, ⟨aA8_0, aL8_0, aC8_0, rfl, hV8_0⟩, rfl⟩ : Fsh.J 8 (.tup2 (.nat (a % n + n - b % n)) (.eq (.bool true))) u wx (S 8) := hw 8 (by omega) (by simp)
    obtain ⟨aA9, aL9, aC9, f9, hV9⟩ : Fsh.J 9 (.val (.nat (a % n + n - b % n))) u wx (S 9) := hw 9 (by omega) (by simp)
    have f10 : u 10 = .bool true := hw 10 (by omega) (by simp)
    obtain ⟨g12, aA12, aL12, aC12, f11, hb12, hs12, hV12⟩ : Fsh.J 12 (.set 11 26 (a % n + n - b % n)) u wx (S 12) := hw 12 (by omega) (by simp)
    simp only [fr, dstOf]
    go_simp
    have d6' := d6.ext hEx
    have q1 := hb12.cell
    have q2 := d6'.cell
    have q3 := d6'.frozen
    clear hw hrg hdj f0 f1 f2 f3 f4 f5 f6 f7 f8 f9 f10 hs12
    go_wp2_with fail
    have q := (d6'.set (.slice aA12 aL12 aC12)).cell
    exact bodyPost_ret (v := .agg #[.slice aA12 aL12 aC12]) (by simp [results, Try.results50, go_sem, q]) rfl ⟨_, _, _, rfl, hV12.far q2, (hEX.trans hEx).setCell (p := ⟨w.heap.size + 1 + 1, 0, none⟩) (.inr (by simp; omega)) _⟩
/-- a difference in the ring -/
def subm (a b n : Nat) : Nat := (a % n + n - b % n) % n
theorem msub_any (va vb : Value) (g a b n k : Nat) (w : World) (hR : RingV w g n) (hVa : NatV w va a) (hVb : NatV w vb b) (hFa : Fit k a) (hFb : Fit k b) (hFn : Fit k n) (hk : k ≤ 100000) :
    Calls Try.prog 50 #[.pointer (some ⟨g, 0, none⟩), va, vb] w (RetN w (subm a b n)) := by
  have hn := hR.two
  have h1 := Nat.mod_lt a (show 0 < n by omega)
  have h2 := Nat.mod_lt b (show 0 < n by omega)
  by_cases hab : b % n ≤ a % n
  · have := msub_yes va vb g a b n k w hR hVa hVb hFa hFb hFn hk (hide hab)
    have e : subm a b n = a % n - b % n := by
      unfold subm
      rw [show a % n + n - b % n = a % n - b % n + n by omega, Nat.add_mod_right, Nat.mod_eq_of_lt (by omega)]
    rwa [e]
  · have := msub_no va vb g a b n k w hR hVa hVb hFa hFb hFn hk (hide (by omega))
    have e : subm a b n = a % n + n - b % n := by
      unfold subm
      rw [Nat.mod_eq_of_lt (by omega)]
    rwa [e]
end Go.Proofs.Ytekpjdfgpggcnaa
