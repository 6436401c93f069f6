/- Bytes in parts, however they are cut: the law, walked. -/
import Derived.Test.YtjdodhooojjldaaShaI
import Derived.Test.YtjdodhooojjldaaShaS
import Derived.Test.YtjdodhooojjldaaIn
import Derived.Test.YtjdodhooojjldaaMonoL
import Derived.Deep.DeepCutAuto
namespace Go.Proofs.Ytjdodhooojjldaa
set_option linter.unusedSimpArgs false
set_option linter.unusedVariables false
open Go.RowKit
open Sha
attribute [local go_sem] steady steadyUpon Cls same_cell by8 by32 by64 str_eq
attribute [local irreducible] wpHead wpTree wpHeadR sum str
theorem xor_255 (x : BitVec 8) : bits .xor .u8 (n8 x) 255 = n8 (x ^^^ 255#8) := xor_u8 x 255#8
attribute [local go_sem] xor_255
theorem sumnil_x (w : World) : Calls Try.prog 18 #[.pointer none] w fun e w' => e = .returned (.slice none 0 0) ∧ Ext w w' :=
  (sum_nil w).mono fun _ _ ⟨h1, h2⟩ => ⟨h1, h2 ▸ Upd.refl _ _⟩
theorem copynil_x (w : World) : Calls Try.prog 20 #[.pointer none] w fun e w' => e = .returned (.pointer none) ∧ Ext w w' :=
  (copy_nil w).mono fun _ _ ⟨h1, h2⟩ => ⟨h1, h2 ▸ Upd.refl _ _⟩
theorem name_wf {P : Program} {c : Code} {Q : Exit → Act → World → Prop} {a : Act} {W : World} (h : ∀ W', W' = W → c.wp P Q a W') : c.wp P Q a W := h W rfl
set_option maxRecDepth 100000 in
set_option maxHeartbeats 4000000 in
theorem sparts_any (D : Option Addr) (n f : Nat) (Q : Option Addr) (nb cb : Nat) (ps : List Pt) (qs : List Bool) (w : World) (hP : Pts w D ps) (hn : ps.length = n) (hnf : n ≤ maxLen) (hQ : Sl Value.bool w Q qs) (hq : qs.length = nb) (hqm : nb ≤ maxLen) :
    Calls Try.prog 3 #[.slice D n f, .slice Q nb cb] w fun e w' => e = .returned (.bool true) ∧ Ext w w' := by
  have HP := hide hP
  have Hn := hide hn
  have HQ := hide hQ
  have Hq := hide hq
  have hnf' := hnf
  have hqm' := hqm
  unfold maxLen at hnf' hqm'
  clear hP hn hQ hq hnf hqm
  go_enter Try.func3, Try.ntmps3
  go_wp2_with fail
  refine (lives_any _).mono ?_
  rintro e w1 ⟨rfl, hU1⟩
  by_cases h100 : 100 < n
  · have hI : (100 : Int) < (n : Int) := by omega
    go_wp2_with fail
    refine (lives_any _).mono ?_
    rintro e w2 ⟨rfl, hU2⟩
    go_wp2_with fail
    go_ret
    exact ⟨rfl, hU1.trans hU2⟩
  have hI : ¬ (100 : Int) < (n : Int) := by omega
  go_wp2_with fail
  refine (new_any w1).mono ?_
  rintro e w2 ⟨g, T0, rfl, hH0, hU2⟩
  have hH0' := hide (hH0.low hU1.size)
  have hE0 := hU1.trans hU2
  clear hH0 hU1 hU2 h100 hI
  go_wp2_with fail
  go_loopw [5, 23] (fun v i wr => ∃ (k l : Nat) (A : Option Addr) (c : Nat) (T : Nat → Prop), k ≤ n ∧ i = .int .i64 (k : Int) ∧ v = .slice A l c ∧ (flat (ps.take k)).length = l ∧ l ≤ 8000 ∧ Own wr w.heap.size 5 A c ((flat (ps.take k)).map by8) ∧ Hsh wr w.heap.size T g (flat (ps.take k)) ∧ (∀ j, T j → ¬ inA A j) ∧ Ext w wr) (fun _ i _ => n - (intOf i).toNat)
  case atStart => exact ⟨0, 0, none, 0, T0, Nat.zero_le _, rfl, rfl, rfl, Nat.zero_le _, Own.nil, hH0'.out, fun j _ h => by simp [inA] at h, hE0⟩
  case round =>
    clear hE0 hH0'
    obtain ⟨k, l, A, c, T, hk, rfl, rfl, hl, hl8, hO, hH, hT, hE⟩ := hrel
    have HO := hide hO
    have HH := hide hH
    have Hl := hide hl
    have HT := hide hT
    have HE := hide hE
    clear hO hH hl hT hE
    by_cases hlt : k < n
    · have hltI : (k : Int) < (n : Int) := by omega
      obtain ⟨b, o, eD, _, hc⟩ := (HP.out.ext HE.out).1.open_ (by rw [Hn.out]; omega)
      have hck := hc k (by rw [Hn.out]; exact hlt)
      unfold Pt.val at hck
      have Hok := hide ((HP.out.ext HE.out).2 k (by rw [Hn.out]; exact hlt))
      have hft := flat_take (ps := ps) (k := k) (by rw [Hn.out]; exact hlt)
      obtain ⟨p, hp⟩ : ∃ p, p = gat ps k := ⟨_, rfl⟩
      rw [← hp] at hck Hok hft
      obtain ⟨P, m, d, bs⟩ := p
      have Hp := hide hp
      have Hft := hide hft
      have hpc : m ≤ d ∧ d ≤ 9223372036854775807 := ⟨Hok.out.2.2.1, Hok.out.2.2.2⟩
      clear hp hc hft
      subst eD
      by_cases hm4 : 4000 < m
      · have hI4 : (4000 : Int) < (m : Int) := by omega
        go_wp2_with fail
        go_ret
        exact ⟨rfl, HE.out⟩
      have hI4 : ¬ (4000 : Int) < (m : Int) := by omega
      by_cases hl4 : 4000 < l
      · have hI5 : (4000 : Int) < (l : Int) := by omega
        go_wp2_with fail
        go_ret
        exact ⟨rfl, HE.out⟩
      have hI5 : ¬ (4000 : Int) < (l : Int) := by omega
      obtain ⟨all, hall⟩ : ∃ all, all = flat (ps.take (k + 1)) := ⟨_, rfl⟩
      have hcat : flat (ps.take k) ++ bs = all := by rw [hall]; exact Hft.out
      have hlen : all.length = l + m := by rw [← hcat, List.length_append, Hl.out, Hok.out.2.1]
      have Hcat := hide hcat
      have Hlen := hide hlen
      have Hall := hide hall
      have hsz := HE.out.size
      clear hcat hlen hall
      go_wp2_with (first
        | (at_builtin; refine wpList_apd by8 one8 Try.el8 (flat (ps.take k)) bs all (l + m) Hcat.out Hlen.out (by omega) (by unfold maxLen; omega) rfl rfl rfl Hl.out HO.out rfl Hok.out.2.1 Hok.out.1 hsz ?_; go_must (intro A2 c2 w2 hO2 hU2 hin2; have HO2 := hide hO2; have HH2 := hide (HH.out.upd hU2 (fun j hj => HT.out j hj)); have HE2 := hide (upd_new hU2 HE.out (fun j hj => (HO.out.in_ hj).1)); have HT2 := hide (show ∀ j, T j → ¬ inA A2 j from fun j hj h => (hin2 j h).elim (HT.out j hj) (fun e => by have := (HH.out.in_ hj).2; omega)); have Hok2 := hide ((HP.out.ext HE2.out).2 k (by rw [Hn.out]; exact hlt)); rw [← Hp.out] at Hok2; have hs2 : w.heap.size ≤ w2.heap.size := HE2.out.size; clear hO2 hU2 hin2))
        | (at_builtin; go_must (refine wpList_apd by8 one8 Try.el8 [] bs bs m rfl Hok2.out.2.1 (by omega) (by unfold maxLen; omega) rfl rfl rfl rfl (rep_nil w2 (Nat.le_refl _)) rfl Hok2.out.2.1 (Hok2.out.1.ext ((Upd.refl _ _).alloc _)) (by simp) ?_); intro A3 c3 w3 hO3 hU3 hin3; have hE3 := upd_new (w0 := w2) hU3 ((Upd.refl _ _).alloc _) (fun i hi => by simp [inA] at hi; omega); have HO3 := hide hO3; have HE3 := hide hE3; clear hO3 hU3 hin3 hE3))
      have hs3 : w2.heap.size ≤ w3.heap.size := HE3.out.size
      refine (add_any w.heap.size g T (flat (ps.take k)) bs all A3 m c3 w3 (HH2.out.ext HE3.out) (by omega) HO3.out.sl Hok2.out.2.1 Hcat.out (by rw [Hlen.out]; omega)).mono ?_
      rintro e w4 ⟨T4, rfl, hH4, hU4, hin4⟩
      have HO4 := hide (HO3.out.upd hU4 (fun j hj ht => by have := (HH2.out.in_ ht).2; have := (HO3.out.in_ hj).1; omega))
      have HA4 := hide ((HO2.out.ext HE3.out).upd hU4 (fun j hj ht => HT2.out j ht hj))
      have HT4 : Hid (∀ j, T4 j → ¬ inA A2 j) := hide (fun j hj h => (hin4 j hj).elim (fun ht => HT2.out j ht h) (fun hs => by have := (HO2.out.in_ h).2; omega))
      have HT4' : Hid (∀ j, T4 j → ¬ inA A3 j) := hide (fun j hj h => by
        have h1 := HO3.out.in_ h
        rcases hin4 j hj with ht | hs
        · have := (HH2.out.in_ ht).2; omega
        · omega)
      have HE4 := hide (upd_new hU4 (HE2.out.trans HE3.out) (fun j hj => (HH2.out.in_ hj).1))
      have HH4 := hide hH4
      clear hH4 hU4 hin4
      go_wp2_with fail
      go_loopw [47] (fun i wx => ∃ (j : Nat) (ys : List (BitVec 8)), j ≤ m ∧ i = .int .i64 (j : Int) ∧ ys.length = m ∧ Own wx w2.heap.size 5 A3 c3 (ys.map by8) ∧ Upd (inA A3) w4 wx) (fun i _ => m - (intOf i).toNat)
      case atStart => exact ⟨0, bs, Nat.zero_le _, rfl, Hok2.out.2.1, HO4.out, Upd.refl _ _⟩
      case round =>
        obtain ⟨j, ys, hj, rfl, hyl, hOj, hUj⟩ := hrel
        have Hyl := hide hyl
        clear hyl
        by_cases hjm : j < m
        · have hjI : (j : Int) < (m : Int) := by omega
          obtain ⟨g3, rfl, -, -⟩ := hOj.open_ (by rw [List.length_map, Hyl.out]; omega)
          have cj := hOj.row.cell (i := j) (by rw [Hyl.out]; exact hjm)
          have fj := hOj.row.frozen j
          have hO6 := hOj.set (i := j) (by rw [Hyl.out]; exact hjm) (gat ys j ^^^ 255#8) rfl
          have hU6 := hUj.setCell (p := ⟨g3, j, none⟩) (.inl (by simp [inA])) (by8 (gat ys j ^^^ 255#8))
          have HO6 := hide hO6
          have HU6 := hide hU6
          clear hO6 hU6 hOj hUj
          go_wp2_with fail
          go_roundw
          case rel => exact ⟨j + 1, ys.set j (gat ys j ^^^ 255#8), hjm, by go_num, by rw [List.length_set]; exact Hyl.out, HO6.out, HU6.out⟩
          case measure => simp [intOf]; omega
        · obtain rfl : j = m := by omega
          have hjI : ¬ (j : Int) < (j : Int) := by omega
          have HA5 := hide (HA4.out.upd hUj (fun i hi h => by have := (HO2.out.in_ hi).2; have := (HO3.out.in_ h).1; omega))
          have HH5 := hide (HH4.out.upd hUj (fun i hi h => HT4'.out i hi h))
          have HE5 := hide (upd_new hUj HE4.out (fun i hi => by have := (HO3.out.in_ hi).1; omega))
          clear hOj hUj hjm
          have hcap := HA5.out.cap
          rw [List.length_map, Hlen.out] at hcap
          go_upto_region 18 with fail
          by_cases hkq : k < nb
          · have hkI : (k : Int) < (nb : Int) := by omega
            obtain ⟨qb, qo, eQ, -, hcq⟩ := (HQ.out.ext HE5.out).open_ (by rw [Hq.out]; omega)
            have cq := hcq k (by rw [Hq.out]; exact hkq)
            subst eQ
            clear hcq
            cases hqv : gat qs k with
            | false =>
              rw [hqv] at cq
              refine wp_region_mono 19 (fun i => ([MF.eq (.int .i64 (k : Int)), MF.eq (.slice (some ⟨qb, qo, none⟩) nb cb), MF.eq (.int .i64 (nb : Int)), MF.eq (.bool true), MF.eq (.bool true), MF.eq (.slice (some ⟨qb, qo, none⟩) nb cb), MF.eq (.int .i64 (k : Int)), MF.eq (.pointer (some ⟨qb, qo + k, none⟩)), MF.eq (.bool false), MF.eq (.bool false), MF.eq (.bool false), MF.eq (undef), MF.eq (undef), MF.eq (undef), MF.eq (undef), MF.eq (undef), MF.eq (undef), MF.eq (undef), MF.eq (undef)] : List MF).getD i (MF.eq undef)) (by kernel_rfl) (by kernel_rfl) ?_ ?_
              · intro i hi
                match i, hi with
                | 0, _ =>
                  intro u wx o ho hE hw
                  injection (ho : some _ = some o) with ho
                  subst ho
                  have hEx : Ext wr wx := hE.undrew
                  simp only [fr, dstOf]
                  go_simp
                  go_wp2
                  first | exact Upd.refl _ _ | exact ⟨_, rfl, Upd.refl _ _, rfl⟩ | exact ⟨Upd.refl _ _, rfl⟩
                | 1, _ =>
                  intro u wx o ho hE hw
                  injection (ho : some _ = some o) with ho
                  subst ho
                  have hEx : Ext wr wx := hE.undrew
                  simp only [fr, dstOf]
                  go_simp
                  go_wp2
                  first | exact Upd.refl _ _ | exact ⟨_, rfl, Upd.refl _ _, rfl⟩ | exact ⟨Upd.refl _ _, rfl⟩
                | 2, _ =>
                  intro u wx o ho hE hw
                  injection (ho : some _ = some o) with ho
                  subst ho
                  have hEx : Ext wr wx := hE.undrew
                  have f1 : u 1 = .slice (some ⟨qb, qo, none⟩) nb cb := hw 1 (by omega) (by kernel_rfl)
                  simp only [fr, dstOf]
                  go_simp
                  go_wp2
                  first | exact Upd.refl _ _ | exact ⟨_, rfl, Upd.refl _ _, rfl⟩ | exact ⟨Upd.refl _ _, rfl⟩
                | 3, _ =>
                  intro u wx o ho hE hw
                  injection (ho : some _ = some o) with ho
                  subst ho
                  have hEx : Ext wr wx := hE.undrew
                  have f0 : u 0 = .int .i64 (k : Int) := hw 0 (by omega) (by kernel_rfl)
                  have f2 : u 2 = .int .i64 (nb : Int) := hw 2 (by omega) (by kernel_rfl)
                  simp only [fr, dstOf]
                  go_simp
                  go_wp2
                  first | exact Upd.refl _ _ | exact ⟨_, rfl, Upd.refl _ _, rfl⟩ | exact ⟨Upd.refl _ _, rfl⟩
                | 4, _ =>
                  intro u wx o ho hE hw
                  injection (ho : some _ = some o) with ho
                  subst ho
                  have hEx : Ext wr wx := hE.undrew
                  have f3 : u 3 = .bool true := hw 3 (by omega) (by kernel_rfl)
                  simp only [fr, dstOf]
                  go_simp
                  go_wp2
                  first | exact Upd.refl _ _ | exact ⟨_, rfl, Upd.refl _ _, rfl⟩ | exact ⟨Upd.refl _ _, rfl⟩
                | 5, _ =>
                  intro u wx o ho hE hw
                  injection (ho : some _ = some o) with ho
                  subst ho
                  have hEx : Ext wr wx := hE.undrew
                  have f4 : u 4 = .bool true := hw 4 (by omega) (by kernel_rfl)
                  simp only [fr, dstOf]
                  go_simp
                  go_wp2
                  first | exact Upd.refl _ _ | exact ⟨_, rfl, Upd.refl _ _, rfl⟩ | exact ⟨Upd.refl _ _, rfl⟩
                | 6, _ =>
                  intro u wx o ho hE hw
                  injection (ho : some _ = some o) with ho
                  subst ho
                  have hEx : Ext wr wx := hE.undrew
                  have f4 : u 4 = .bool true := hw 4 (by omega) (by kernel_rfl)
                  simp only [fr, dstOf]
                  go_simp
                  go_wp2
                  first | exact Upd.refl _ _ | exact ⟨_, rfl, Upd.refl _ _, rfl⟩ | exact ⟨Upd.refl _ _, rfl⟩
                | 7, _ =>
                  intro u wx o ho hE hw
                  injection (ho : some _ = some o) with ho
                  subst ho
                  have hEx : Ext wr wx := hE.undrew
                  have f4 : u 4 = .bool true := hw 4 (by omega) (by kernel_rfl)
                  have f5 : u 5 = .slice (some ⟨qb, qo, none⟩) nb cb := hw 5 (by omega) (by kernel_rfl)
                  have f6 : u 6 = .int .i64 (k : Int) := hw 6 (by omega) (by kernel_rfl)
                  simp only [fr, dstOf]
                  go_simp
                  go_wp2
                  first | exact Upd.refl _ _ | exact ⟨_, rfl, Upd.refl _ _, rfl⟩ | exact ⟨Upd.refl _ _, rfl⟩
                | 8, _ =>
                  intro u wx o ho hE hw
                  injection (ho : some _ = some o) with ho
                  subst ho
                  have hEx : Ext wr wx := hE.undrew
                  have f4 : u 4 = .bool true := hw 4 (by omega) (by kernel_rfl)
                  have f7 : u 7 = .pointer (some ⟨qb, qo + k, none⟩) := hw 7 (by omega) (by kernel_rfl)
                  simp only [fr, dstOf]
                  go_simp
                  have cx := hEx.cellv cq
                  go_wp2
                  first | exact Upd.refl _ _ | exact ⟨trivial, Upd.refl _ _⟩ | exact ⟨_, rfl, Upd.refl _ _, rfl⟩ | exact ⟨Upd.refl _ _, rfl⟩
                | 9, _ =>
                  intro u wx o ho hE hw
                  injection (ho : some _ = some o) with ho
                  subst ho
                  have hEx : Ext wr wx := hE.undrew
                  have f4 : u 4 = .bool true := hw 4 (by omega) (by kernel_rfl)
                  have f8 : u 8 = .bool false := hw 8 (by omega) (by kernel_rfl)
                  simp only [fr, dstOf]
                  go_simp
                  go_wp2
                  first | exact Upd.refl _ _ | exact ⟨_, rfl, Upd.refl _ _, rfl⟩ | exact ⟨Upd.refl _ _, rfl⟩
                | 10, _ =>
                  intro u wx o ho hE hw
                  injection (ho : some _ = some o) with ho
                  subst ho
                  have hEx : Ext wr wx := hE.undrew
                  have f9 : u 9 = .bool false := hw 9 (by omega) (by kernel_rfl)
                  simp only [fr, dstOf]
                  go_simp
                  go_wp2
                  first | exact Upd.refl _ _ | exact ⟨_, rfl, Upd.refl _ _, rfl⟩ | exact ⟨Upd.refl _ _, rfl⟩
                | 11, _ =>
                  intro u wx o ho hE hw
                  injection (ho : some _ = some o) with ho
                  subst ho
                  have hEx : Ext wr wx := hE.undrew
                  have f10 : u 10 = .bool false := hw 10 (by omega) (by kernel_rfl)
                  simp only [fr, dstOf]
                  go_simp
                  go_wp2
                  first | exact Upd.refl _ _ | exact ⟨_, rfl, Upd.refl _ _, rfl⟩ | exact ⟨Upd.refl _ _, rfl⟩
                | 12, _ =>
                  intro u wx o ho hE hw
                  injection (ho : some _ = some o) with ho
                  subst ho
                  have hEx : Ext wr wx := hE.undrew
                  have f10 : u 10 = .bool false := hw 10 (by omega) (by kernel_rfl)
                  have f11 : u 11 = undef := hw 11 (by omega) (by kernel_rfl)
                  simp only [fr, dstOf]
                  go_simp
                  go_wp2
                  first | exact Upd.refl _ _ | exact ⟨_, rfl, Upd.refl _ _, rfl⟩ | exact ⟨Upd.refl _ _, rfl⟩
                | 13, _ =>
                  intro u wx o ho hE hw
                  injection (ho : some _ = some o) with ho
                  subst ho
                  have hEx : Ext wr wx := hE.undrew
                  have f10 : u 10 = .bool false := hw 10 (by omega) (by kernel_rfl)
                  have f12 : u 12 = undef := hw 12 (by omega) (by kernel_rfl)
                  simp only [fr, dstOf]
                  go_simp
                  go_wp2
                  first | exact Upd.refl _ _ | exact ⟨_, rfl, Upd.refl _ _, rfl⟩ | exact ⟨Upd.refl _ _, rfl⟩
                | 14, _ =>
                  intro u wx o ho hE hw
                  injection (ho : some _ = some o) with ho
                  subst ho
                  have hEx : Ext wr wx := hE.undrew
                  have f10 : u 10 = .bool false := hw 10 (by omega) (by kernel_rfl)
                  simp only [fr, dstOf]
                  go_simp
                  go_wp2
                  first | exact Upd.refl _ _ | exact ⟨_, rfl, Upd.refl _ _, rfl⟩ | exact ⟨Upd.refl _ _, rfl⟩
                | 15, _ =>
                  intro u wx o ho hE hw
                  injection (ho : some _ = some o) with ho
                  subst ho
                  have hEx : Ext wr wx := hE.undrew
                  have f10 : u 10 = .bool false := hw 10 (by omega) (by kernel_rfl)
                  have f14 : u 14 = undef := hw 14 (by omega) (by kernel_rfl)
                  simp only [fr, dstOf]
                  go_simp
                  go_wp2
                  first | exact Upd.refl _ _ | exact ⟨_, rfl, Upd.refl _ _, rfl⟩ | exact ⟨Upd.refl _ _, rfl⟩
                | 16, _ =>
                  intro u wx o ho hE hw
                  injection (ho : some _ = some o) with ho
                  subst ho
                  have hEx : Ext wr wx := hE.undrew
                  have f10 : u 10 = .bool false := hw 10 (by omega) (by kernel_rfl)
                  have f15 : u 15 = undef := hw 15 (by omega) (by kernel_rfl)
                  simp only [fr, dstOf]
                  go_simp
                  go_wp2
                  first | exact Upd.refl _ _ | exact ⟨_, rfl, Upd.refl _ _, rfl⟩ | exact ⟨Upd.refl _ _, rfl⟩
                | 17, _ =>
                  intro u wx o ho hE hw
                  injection (ho : some _ = some o) with ho
                  subst ho
                  have hEx : Ext wr wx := hE.undrew
                  have f10 : u 10 = .bool false := hw 10 (by omega) (by kernel_rfl)
                  have f16 : u 16 = undef := hw 16 (by omega) (by kernel_rfl)
                  simp only [fr, dstOf]
                  go_simp
                  go_wp2
                  first | exact Upd.refl _ _ | exact ⟨_, rfl, Upd.refl _ _, rfl⟩ | exact ⟨Upd.refl _ _, rfl⟩
                | 18, _ =>
                  intro u wx o ho hE hw
                  injection (ho : some _ = some o) with ho
                  subst ho
                  have hEx : Ext wr wx := hE.undrew
                  have f10 : u 10 = .bool false := hw 10 (by omega) (by kernel_rfl)
                  have f13 : u 13 = undef := hw 13 (by omega) (by kernel_rfl)
                  have f17 : u 17 = undef := hw 17 (by omega) (by kernel_rfl)
                  simp only [fr, dstOf]
                  go_simp
                  go_wp2
                  first | exact Upd.refl _ _ | exact ⟨_, rfl, Upd.refl _ _, rfl⟩ | exact ⟨Upd.refl _ _, rfl⟩
                | k + 19, h => exact absurd h (by omega)
              · intro u wx hE hJ
                have hEx : Ext wr wx := hE.undrew
                have f0 : u 0 = .int .i64 (k : Int) := hJ 0 (by omega)
                have f1 : u 1 = .slice (some ⟨qb, qo, none⟩) nb cb := hJ 1 (by omega)
                have f2 : u 2 = .int .i64 (nb : Int) := hJ 2 (by omega)
                have f3 : u 3 = .bool true := hJ 3 (by omega)
                have f4 : u 4 = .bool true := hJ 4 (by omega)
                have f5 : u 5 = .slice (some ⟨qb, qo, none⟩) nb cb := hJ 5 (by omega)
                have f6 : u 6 = .int .i64 (k : Int) := hJ 6 (by omega)
                have f7 : u 7 = .pointer (some ⟨qb, qo + k, none⟩) := hJ 7 (by omega)
                have f8 : u 8 = .bool false := hJ 8 (by omega)
                have f9 : u 9 = .bool false := hJ 9 (by omega)
                have f10 : u 10 = .bool false := hJ 10 (by omega)
                have f11 : u 11 = undef := hJ 11 (by omega)
                have f12 : u 12 = undef := hJ 12 (by omega)
                have f13 : u 13 = undef := hJ 13 (by omega)
                have f14 : u 14 = undef := hJ 14 (by omega)
                have f15 : u 15 = undef := hJ 15 (by omega)
                have f16 : u 16 = undef := hJ 16 (by omega)
                have f17 : u 17 = undef := hJ 17 (by omega)
                have f18 : u 18 = undef := hJ 18 (by omega)
                clear hJ
                simp only [fr, dstOf]
                go_simp
                try simp only [List.drop_succ_cons, List.drop_zero]
                go_wp2_with fail
                go_roundw
                case rel => exact ⟨k + 1, l + j, A2, c2, T4, hlt, by go_num, rfl, by rw [← Hall.out]; exact Hlen.out, by omega, by rw [← Hall.out]; exact HA5.out.ext hEx, by rw [← Hall.out]; exact HH5.out.ext hEx, HT4.out, HE5.out.trans hEx⟩
                case measure => simp [intOf]; omega
            | true =>
              rw [hqv] at cq
              refine wp_region_mono 19 (fun i => ([MF.eq (.int .i64 (k : Int)), MF.eq (.slice (some ⟨qb, qo, none⟩) nb cb), MF.eq (.int .i64 (nb : Int)), MF.eq (.bool true), MF.eq (.bool true), MF.eq (.slice (some ⟨qb, qo, none⟩) nb cb), MF.eq (.int .i64 (k : Int)), MF.eq (.pointer (some ⟨qb, qo + k, none⟩)), MF.eq (.bool true), MF.eq (.bool true), MF.eq (.bool true), MF.eq (.pointer (some ⟨g, 0, none⟩)), bytesM (32) (sum all), MF.eq (.string (str (sum all))), MF.eq (.slice A2 (l + j) c2), partsM (1) (all), bytesM (32) (sum all), MF.eq (.string (str (sum all))), MF.eq (.bool false)] : List MF).getD i (MF.eq undef)) (by kernel_rfl) (by kernel_rfl) ?_ ?_
              · intro i hi
                match i, hi with
                | 0, _ =>
                  intro u wx o ho hE hw
                  injection (ho : some _ = some o) with ho
                  subst ho
                  have hEx : Ext wr wx := hE.undrew
                  simp only [fr, dstOf]
                  go_simp
                  go_wp2
                  first | exact Upd.refl _ _ | exact ⟨_, rfl, Upd.refl _ _, rfl⟩ | exact ⟨Upd.refl _ _, rfl⟩
                | 1, _ =>
                  intro u wx o ho hE hw
                  injection (ho : some _ = some o) with ho
                  subst ho
                  have hEx : Ext wr wx := hE.undrew
                  simp only [fr, dstOf]
                  go_simp
                  go_wp2
                  first | exact Upd.refl _ _ | exact ⟨_, rfl, Upd.refl _ _, rfl⟩ | exact ⟨Upd.refl _ _, rfl⟩
                | 2, _ =>
                  intro u wx o ho hE hw
                  injection (ho : some _ = some o) with ho
                  subst ho
                  have hEx : Ext wr wx := hE.undrew
                  have f1 : u 1 = .slice (some ⟨qb, qo, none⟩) nb cb := hw 1 (by omega) (by kernel_rfl)
                  simp only [fr, dstOf]
                  go_simp
                  go_wp2
                  first | exact Upd.refl _ _ | exact ⟨_, rfl, Upd.refl _ _, rfl⟩ | exact ⟨Upd.refl _ _, rfl⟩
                | 3, _ =>
                  intro u wx o ho hE hw
                  injection (ho : some _ = some o) with ho
                  subst ho
                  have hEx : Ext wr wx := hE.undrew
                  have f0 : u 0 = .int .i64 (k : Int) := hw 0 (by omega) (by kernel_rfl)
                  have f2 : u 2 = .int .i64 (nb : Int) := hw 2 (by omega) (by kernel_rfl)
                  simp only [fr, dstOf]
                  go_simp
                  go_wp2
                  first | exact Upd.refl _ _ | exact ⟨_, rfl, Upd.refl _ _, rfl⟩ | exact ⟨Upd.refl _ _, rfl⟩
                | 4, _ =>
                  intro u wx o ho hE hw
                  injection (ho : some _ = some o) with ho
                  subst ho
                  have hEx : Ext wr wx := hE.undrew
                  have f3 : u 3 = .bool true := hw 3 (by omega) (by kernel_rfl)
                  simp only [fr, dstOf]
                  go_simp
                  go_wp2
                  first | exact Upd.refl _ _ | exact ⟨_, rfl, Upd.refl _ _, rfl⟩ | exact ⟨Upd.refl _ _, rfl⟩
                | 5, _ =>
                  intro u wx o ho hE hw
                  injection (ho : some _ = some o) with ho
                  subst ho
                  have hEx : Ext wr wx := hE.undrew
                  have f4 : u 4 = .bool true := hw 4 (by omega) (by kernel_rfl)
                  simp only [fr, dstOf]
                  go_simp
                  go_wp2
                  first | exact Upd.refl _ _ | exact ⟨_, rfl, Upd.refl _ _, rfl⟩ | exact ⟨Upd.refl _ _, rfl⟩
                | 6, _ =>
                  intro u wx o ho hE hw
                  injection (ho : some _ = some o) with ho
                  subst ho
                  have hEx : Ext wr wx := hE.undrew
                  have f4 : u 4 = .bool true := hw 4 (by omega) (by kernel_rfl)
                  simp only [fr, dstOf]
                  go_simp
                  go_wp2
                  first | exact Upd.refl _ _ | exact ⟨_, rfl, Upd.refl _ _, rfl⟩ | exact ⟨Upd.refl _ _, rfl⟩
                | 7, _ =>
                  intro u wx o ho hE hw
                  injection (ho : some _ = some o) with ho
                  subst ho
                  have hEx : Ext wr wx := hE.undrew
                  have f4 : u 4 = .bool true := hw 4 (by omega) (by kernel_rfl)
                  have f5 : u 5 = .slice (some ⟨qb, qo, none⟩) nb cb := hw 5 (by omega) (by kernel_rfl)
                  have f6 : u 6 = .int .i64 (k : Int) := hw 6 (by omega) (by kernel_rfl)
                  simp only [fr, dstOf]
                  go_simp
                  go_wp2
                  first | exact Upd.refl _ _ | exact ⟨_, rfl, Upd.refl _ _, rfl⟩ | exact ⟨Upd.refl _ _, rfl⟩
                | 8, _ =>
                  intro u wx o ho hE hw
                  injection (ho : some _ = some o) with ho
                  subst ho
                  have hEx : Ext wr wx := hE.undrew
                  have f4 : u 4 = .bool true := hw 4 (by omega) (by kernel_rfl)
                  have f7 : u 7 = .pointer (some ⟨qb, qo + k, none⟩) := hw 7 (by omega) (by kernel_rfl)
                  simp only [fr, dstOf]
                  go_simp
                  have cx := hEx.cellv cq
                  go_wp2
                  first | exact Upd.refl _ _ | exact ⟨trivial, Upd.refl _ _⟩ | exact ⟨_, rfl, Upd.refl _ _, rfl⟩ | exact ⟨Upd.refl _ _, rfl⟩
                | 9, _ =>
                  intro u wx o ho hE hw
                  injection (ho : some _ = some o) with ho
                  subst ho
                  have hEx : Ext wr wx := hE.undrew
                  have f4 : u 4 = .bool true := hw 4 (by omega) (by kernel_rfl)
                  have f8 : u 8 = .bool true := hw 8 (by omega) (by kernel_rfl)
                  simp only [fr, dstOf]
                  go_simp
                  go_wp2
                  first | exact Upd.refl _ _ | exact ⟨_, rfl, Upd.refl _ _, rfl⟩ | exact ⟨Upd.refl _ _, rfl⟩
                | 10, _ =>
                  intro u wx o ho hE hw
                  injection (ho : some _ = some o) with ho
                  subst ho
                  have hEx : Ext wr wx := hE.undrew
                  have f9 : u 9 = .bool true := hw 9 (by omega) (by kernel_rfl)
                  simp only [fr, dstOf]
                  go_simp
                  go_wp2
                  first | exact Upd.refl _ _ | exact ⟨_, rfl, Upd.refl _ _, rfl⟩ | exact ⟨Upd.refl _ _, rfl⟩
                | 11, _ =>
                  intro u wx o ho hE hw
                  injection (ho : some _ = some o) with ho
                  subst ho
                  have hEx : Ext wr wx := hE.undrew
                  have f10 : u 10 = .bool true := hw 10 (by omega) (by kernel_rfl)
                  simp only [fr, dstOf]
                  go_simp
                  go_wp2
                  first | exact Upd.refl _ _ | exact ⟨_, rfl, Upd.refl _ _, rfl⟩ | exact ⟨Upd.refl _ _, rfl⟩
                | 12, _ =>
                  intro u wx o ho hE hw
                  injection (ho : some _ = some o) with ho
                  subst ho
                  have hEx : Ext wr wx := hE.undrew
                  have f10 : u 10 = .bool true := hw 10 (by omega) (by kernel_rfl)
                  have f11 : u 11 = .pointer (some ⟨g, 0, none⟩) := hw 11 (by omega) (by kernel_rfl)
                  simp only [fr, dstOf]
                  go_simp
                  go_wp2_with fail
                  refine (hsum_any w.heap.size g T4 all _ (HH5.out.ext hEx) (by rw [Hlen.out]; omega)).mono ?_
                  rintro e wn ⟨A5, c5, rfl, hO, hU⟩
                  go_wp2_with fail
                  first | exact ⟨_, rfl, hU, bytesM_mk ⟨A5, c5, rfl, Own.pt hO (sum_length _)⟩⟩ | exact ⟨hU, bytesM_mk ⟨A5, c5, rfl, Own.pt hO (sum_length _)⟩⟩
                | 13, _ =>
                  intro u wx o ho hE hw
                  injection (ho : some _ = some o) with ho
                  subst ho
                  have hEx : Ext wr wx := hE.undrew
                  have f10 : u 10 = .bool true := hw 10 (by omega) (by kernel_rfl)
                  have hQ12 := bytesM_out (hw 12 (by omega) (by kernel_rfl))
                  cases hQ12; rename_i aA12 hQ12
                  cases hQ12; rename_i aC12 hQ12
                  have f12 := hQ12.1
                  have aN12 := hQ12.2.1
                  have aX12 := hQ12.2.2.1
                  have aM12 := hQ12.2.2.2.1
                  have hV12 := hQ12.2.2.2.2
                  clear hQ12
                  simp only [fr, dstOf]
                  go_simp
                  have hst := run_str (P := Try.prog) (S := 9) Try.under_bs Try.under8 Try.underS (c := aC12) hV12 aN12
                  go_wp2
                  first | exact Upd.refl _ _ | exact ⟨trivial, Upd.refl _ _⟩ | exact ⟨_, rfl, Upd.refl _ _, rfl⟩ | exact ⟨Upd.refl _ _, rfl⟩
                | 14, _ =>
                  intro u wx o ho hE hw
                  injection (ho : some _ = some o) with ho
                  subst ho
                  have hEx : Ext wr wx := hE.undrew
                  have f10 : u 10 = .bool true := hw 10 (by omega) (by kernel_rfl)
                  simp only [fr, dstOf]
                  go_simp
                  go_wp2
                  first | exact Upd.refl _ _ | exact ⟨_, rfl, Upd.refl _ _, rfl⟩ | exact ⟨Upd.refl _ _, rfl⟩
                | 15, _ =>
                  intro u wx o ho hE hw
                  injection (ho : some _ = some o) with ho
                  subst ho
                  have hEx : Ext wr wx := hE.undrew
                  have f10 : u 10 = .bool true := hw 10 (by omega) (by kernel_rfl)
                  have f14 : u 14 = .slice A2 (l + j) c2 := hw 14 (by omega) (by kernel_rfl)
                  simp only [fr, dstOf]
                  go_simp
                  go_wp2
                  first | exact ⟨_, rfl, (Upd.refl _ _).alloc _, partsM_mk ⟨_, _, [⟨A2, l + j, c2, all⟩], rfl, rfl, flat_one _, one_part wx A2 (l + j) c2 all (HA5.out.sl.ext hEx) Hlen.out hcap.1 hcap.2⟩⟩ | exact ⟨(Upd.refl _ _).alloc _, partsM_mk ⟨_, _, [⟨A2, l + j, c2, all⟩], rfl, rfl, flat_one _, one_part wx A2 (l + j) c2 all (HA5.out.sl.ext hEx) Hlen.out hcap.1 hcap.2⟩⟩
                | 16, _ =>
                  intro u wx o ho hE hw
                  injection (ho : some _ = some o) with ho
                  subst ho
                  have hEx : Ext wr wx := hE.undrew
                  have f10 : u 10 = .bool true := hw 10 (by omega) (by kernel_rfl)
                  have hQ15 := partsM_out (hw 15 (by omega) (by kernel_rfl))
                  cases hQ15; rename_i aA15 hQ15
                  cases hQ15; rename_i aC15 hQ15
                  cases hQ15; rename_i aP15 hQ15
                  have f15 := hQ15.1
                  have aN15 := hQ15.2.1
                  have aF15 := hQ15.2.2.1
                  have hV15 := hQ15.2.2.2
                  clear hQ15
                  simp only [fr, dstOf]
                  go_simp
                  go_wp2_with fail
                  refine (psum_any aA15 1 aC15 aP15 _ hV15 aN15 (by rw [aF15, Hlen.out]; omega) (by unfold maxLen; decide)).mono ?_
                  rintro e wn ⟨A5, c5, rfl, hO, hU⟩
                  go_wp2_with fail
                  first | exact ⟨_, rfl, hU, bytesM_mk ⟨A5, c5, rfl, (by rw [aF15] at hO; exact Own.pt hO (sum_length _))⟩⟩ | exact ⟨hU, bytesM_mk ⟨A5, c5, rfl, (by rw [aF15] at hO; exact Own.pt hO (sum_length _))⟩⟩
                | 17, _ =>
                  intro u wx o ho hE hw
                  injection (ho : some _ = some o) with ho
                  subst ho
                  have hEx : Ext wr wx := hE.undrew
                  have f10 : u 10 = .bool true := hw 10 (by omega) (by kernel_rfl)
                  have hQ16 := bytesM_out (hw 16 (by omega) (by kernel_rfl))
                  cases hQ16; rename_i aA16 hQ16
                  cases hQ16; rename_i aC16 hQ16
                  have f16 := hQ16.1
                  have aN16 := hQ16.2.1
                  have aX16 := hQ16.2.2.1
                  have aM16 := hQ16.2.2.2.1
                  have hV16 := hQ16.2.2.2.2
                  clear hQ16
                  simp only [fr, dstOf]
                  go_simp
                  have hst := run_str (P := Try.prog) (S := 9) Try.under_bs Try.under8 Try.underS (c := aC16) hV16 aN16
                  go_wp2
                  first | exact Upd.refl _ _ | exact ⟨trivial, Upd.refl _ _⟩ | exact ⟨_, rfl, Upd.refl _ _, rfl⟩ | exact ⟨Upd.refl _ _, rfl⟩
                | 18, _ =>
                  intro u wx o ho hE hw
                  injection (ho : some _ = some o) with ho
                  subst ho
                  have hEx : Ext wr wx := hE.undrew
                  have f10 : u 10 = .bool true := hw 10 (by omega) (by kernel_rfl)
                  have f13 : u 13 = .string (str (sum all)) := hw 13 (by omega) (by kernel_rfl)
                  have f17 : u 17 = .string (str (sum all)) := hw 17 (by omega) (by kernel_rfl)
                  simp only [fr, dstOf]
                  go_simp
                  go_wp2
                  first | exact Upd.refl _ _ | exact ⟨_, rfl, Upd.refl _ _, rfl⟩ | exact ⟨Upd.refl _ _, rfl⟩
                | k + 19, h => exact absurd h (by omega)
              · intro u wx hE hJ
                have hEx : Ext wr wx := hE.undrew
                have f0 : u 0 = .int .i64 (k : Int) := hJ 0 (by omega)
                have f1 : u 1 = .slice (some ⟨qb, qo, none⟩) nb cb := hJ 1 (by omega)
                have f2 : u 2 = .int .i64 (nb : Int) := hJ 2 (by omega)
                have f3 : u 3 = .bool true := hJ 3 (by omega)
                have f4 : u 4 = .bool true := hJ 4 (by omega)
                have f5 : u 5 = .slice (some ⟨qb, qo, none⟩) nb cb := hJ 5 (by omega)
                have f6 : u 6 = .int .i64 (k : Int) := hJ 6 (by omega)
                have f7 : u 7 = .pointer (some ⟨qb, qo + k, none⟩) := hJ 7 (by omega)
                have f8 : u 8 = .bool true := hJ 8 (by omega)
                have f9 : u 9 = .bool true := hJ 9 (by omega)
                have f10 : u 10 = .bool true := hJ 10 (by omega)
                have f11 : u 11 = .pointer (some ⟨g, 0, none⟩) := hJ 11 (by omega)
                have hQ12 := bytesM_out (hJ 12 (by omega))
                cases hQ12; rename_i aA12 hQ12
                cases hQ12; rename_i aC12 hQ12
                have f12 := hQ12.1
                have aN12 := hQ12.2.1
                have aX12 := hQ12.2.2.1
                have aM12 := hQ12.2.2.2.1
                have hV12 := hQ12.2.2.2.2
                clear hQ12
                have f13 : u 13 = .string (str (sum all)) := hJ 13 (by omega)
                have f14 : u 14 = .slice A2 (l + j) c2 := hJ 14 (by omega)
                have hQ15 := partsM_out (hJ 15 (by omega))
                cases hQ15; rename_i aA15 hQ15
                cases hQ15; rename_i aC15 hQ15
                cases hQ15; rename_i aP15 hQ15
                have f15 := hQ15.1
                have aN15 := hQ15.2.1
                have aF15 := hQ15.2.2.1
                have hV15 := hQ15.2.2.2
                clear hQ15
                have hQ16 := bytesM_out (hJ 16 (by omega))
                cases hQ16; rename_i aA16 hQ16
                cases hQ16; rename_i aC16 hQ16
                have f16 := hQ16.1
                have aN16 := hQ16.2.1
                have aX16 := hQ16.2.2.1
                have aM16 := hQ16.2.2.2.1
                have hV16 := hQ16.2.2.2.2
                clear hQ16
                have f17 : u 17 = .string (str (sum all)) := hJ 17 (by omega)
                have f18 : u 18 = .bool false := hJ 18 (by omega)
                clear hJ
                simp only [fr, dstOf]
                go_simp
                try simp only [List.drop_succ_cons, List.drop_zero]
                go_wp2_with fail
                go_roundw
                case rel => exact ⟨k + 1, l + j, A2, c2, T4, hlt, by go_num, rfl, by rw [← Hall.out]; exact Hlen.out, by omega, by rw [← Hall.out]; exact HA5.out.ext hEx, by rw [← Hall.out]; exact HH5.out.ext hEx, HT4.out, HE5.out.trans hEx⟩
                case measure => simp [intOf]; omega
          · have hkI : ¬ (k : Int) < (nb : Int) := by omega
            refine wp_region_mono 19 (fun i => ([MF.eq (.int .i64 (k : Int)), MF.eq (.slice Q nb cb), MF.eq (.int .i64 (nb : Int)), MF.eq (.bool false), MF.eq (.bool false), MF.eq (undef), MF.eq (undef), MF.eq (undef), MF.eq (undef), MF.eq (.bool false), MF.eq (.bool false), MF.eq (undef), MF.eq (undef), MF.eq (undef), MF.eq (undef), MF.eq (undef), MF.eq (undef), MF.eq (undef), MF.eq (undef)] : List MF).getD i (MF.eq undef)) (by kernel_rfl) (by kernel_rfl) ?_ ?_
            · intro i hi
              match i, hi with
              | 0, _ =>
                intro u wx o ho hE hw
                injection (ho : some _ = some o) with ho
                subst ho
                have hEx : Ext wr wx := hE.undrew
                simp only [fr, dstOf]
                go_simp
                go_wp2
                first | exact Upd.refl _ _ | exact ⟨_, rfl, Upd.refl _ _, rfl⟩ | exact ⟨Upd.refl _ _, rfl⟩
              | 1, _ =>
                intro u wx o ho hE hw
                injection (ho : some _ = some o) with ho
                subst ho
                have hEx : Ext wr wx := hE.undrew
                simp only [fr, dstOf]
                go_simp
                go_wp2
                first | exact Upd.refl _ _ | exact ⟨_, rfl, Upd.refl _ _, rfl⟩ | exact ⟨Upd.refl _ _, rfl⟩
              | 2, _ =>
                intro u wx o ho hE hw
                injection (ho : some _ = some o) with ho
                subst ho
                have hEx : Ext wr wx := hE.undrew
                have f1 : u 1 = .slice Q nb cb := hw 1 (by omega) (by kernel_rfl)
                simp only [fr, dstOf]
                go_simp
                go_wp2
                first | exact Upd.refl _ _ | exact ⟨_, rfl, Upd.refl _ _, rfl⟩ | exact ⟨Upd.refl _ _, rfl⟩
              | 3, _ =>
                intro u wx o ho hE hw
                injection (ho : some _ = some o) with ho
                subst ho
                have hEx : Ext wr wx := hE.undrew
                have f0 : u 0 = .int .i64 (k : Int) := hw 0 (by omega) (by kernel_rfl)
                have f2 : u 2 = .int .i64 (nb : Int) := hw 2 (by omega) (by kernel_rfl)
                simp only [fr, dstOf]
                go_simp
                go_wp2
                first | exact Upd.refl _ _ | exact ⟨_, rfl, Upd.refl _ _, rfl⟩ | exact ⟨Upd.refl _ _, rfl⟩
              | 4, _ =>
                intro u wx o ho hE hw
                injection (ho : some _ = some o) with ho
                subst ho
                have hEx : Ext wr wx := hE.undrew
                have f3 : u 3 = .bool false := hw 3 (by omega) (by kernel_rfl)
                simp only [fr, dstOf]
                go_simp
                go_wp2
                first | exact Upd.refl _ _ | exact ⟨_, rfl, Upd.refl _ _, rfl⟩ | exact ⟨Upd.refl _ _, rfl⟩
              | 5, _ =>
                intro u wx o ho hE hw
                injection (ho : some _ = some o) with ho
                subst ho
                have hEx : Ext wr wx := hE.undrew
                have f4 : u 4 = .bool false := hw 4 (by omega) (by kernel_rfl)
                simp only [fr, dstOf]
                go_simp
                go_wp2
                first | exact Upd.refl _ _ | exact ⟨_, rfl, Upd.refl _ _, rfl⟩ | exact ⟨Upd.refl _ _, rfl⟩
              | 6, _ =>
                intro u wx o ho hE hw
                injection (ho : some _ = some o) with ho
                subst ho
                have hEx : Ext wr wx := hE.undrew
                have f4 : u 4 = .bool false := hw 4 (by omega) (by kernel_rfl)
                simp only [fr, dstOf]
                go_simp
                go_wp2
                first | exact Upd.refl _ _ | exact ⟨_, rfl, Upd.refl _ _, rfl⟩ | exact ⟨Upd.refl _ _, rfl⟩
              | 7, _ =>
                intro u wx o ho hE hw
                injection (ho : some _ = some o) with ho
                subst ho
                have hEx : Ext wr wx := hE.undrew
                have f4 : u 4 = .bool false := hw 4 (by omega) (by kernel_rfl)
                have f5 : u 5 = undef := hw 5 (by omega) (by kernel_rfl)
                have f6 : u 6 = undef := hw 6 (by omega) (by kernel_rfl)
                simp only [fr, dstOf]
                go_simp
                go_wp2
                first | exact Upd.refl _ _ | exact ⟨_, rfl, Upd.refl _ _, rfl⟩ | exact ⟨Upd.refl _ _, rfl⟩
              | 8, _ =>
                intro u wx o ho hE hw
                injection (ho : some _ = some o) with ho
                subst ho
                have hEx : Ext wr wx := hE.undrew
                have f4 : u 4 = .bool false := hw 4 (by omega) (by kernel_rfl)
                have f7 : u 7 = undef := hw 7 (by omega) (by kernel_rfl)
                simp only [fr, dstOf]
                go_simp
                go_wp2
                first | exact Upd.refl _ _ | exact ⟨_, rfl, Upd.refl _ _, rfl⟩ | exact ⟨Upd.refl _ _, rfl⟩
              | 9, _ =>
                intro u wx o ho hE hw
                injection (ho : some _ = some o) with ho
                subst ho
                have hEx : Ext wr wx := hE.undrew
                have f4 : u 4 = .bool false := hw 4 (by omega) (by kernel_rfl)
                have f8 : u 8 = undef := hw 8 (by omega) (by kernel_rfl)
                simp only [fr, dstOf]
                go_simp
                go_wp2
                first | exact Upd.refl _ _ | exact ⟨_, rfl, Upd.refl _ _, rfl⟩ | exact ⟨Upd.refl _ _, rfl⟩
              | 10, _ =>
                intro u wx o ho hE hw
                injection (ho : some _ = some o) with ho
                subst ho
                have hEx : Ext wr wx := hE.undrew
                have f9 : u 9 = .bool false := hw 9 (by omega) (by kernel_rfl)
                simp only [fr, dstOf]
                go_simp
                go_wp2
                first | exact Upd.refl _ _ | exact ⟨_, rfl, Upd.refl _ _, rfl⟩ | exact ⟨Upd.refl _ _, rfl⟩
              | 11, _ =>
                intro u wx o ho hE hw
                injection (ho : some _ = some o) with ho
                subst ho
                have hEx : Ext wr wx := hE.undrew
                have f10 : u 10 = .bool false := hw 10 (by omega) (by kernel_rfl)
                simp only [fr, dstOf]
                go_simp
                go_wp2
                first | exact Upd.refl _ _ | exact ⟨_, rfl, Upd.refl _ _, rfl⟩ | exact ⟨Upd.refl _ _, rfl⟩
              | 12, _ =>
                intro u wx o ho hE hw
                injection (ho : some _ = some o) with ho
                subst ho
                have hEx : Ext wr wx := hE.undrew
                have f10 : u 10 = .bool false := hw 10 (by omega) (by kernel_rfl)
                have f11 : u 11 = undef := hw 11 (by omega) (by kernel_rfl)
                simp only [fr, dstOf]
                go_simp
                go_wp2
                first | exact Upd.refl _ _ | exact ⟨_, rfl, Upd.refl _ _, rfl⟩ | exact ⟨Upd.refl _ _, rfl⟩
              | 13, _ =>
                intro u wx o ho hE hw
                injection (ho : some _ = some o) with ho
                subst ho
                have hEx : Ext wr wx := hE.undrew
                have f10 : u 10 = .bool false := hw 10 (by omega) (by kernel_rfl)
                have f12 : u 12 = undef := hw 12 (by omega) (by kernel_rfl)
                simp only [fr, dstOf]
                go_simp
                go_wp2
                first | exact Upd.refl _ _ | exact ⟨_, rfl, Upd.refl _ _, rfl⟩ | exact ⟨Upd.refl _ _, rfl⟩
              | 14, _ =>
                intro u wx o ho hE hw
                injection (ho : some _ = some o) with ho
                subst ho
                have hEx : Ext wr wx := hE.undrew
                have f10 : u 10 = .bool false := hw 10 (by omega) (by kernel_rfl)
                simp only [fr, dstOf]
                go_simp
                go_wp2
                first | exact Upd.refl _ _ | exact ⟨_, rfl, Upd.refl _ _, rfl⟩ | exact ⟨Upd.refl _ _, rfl⟩
              | 15, _ =>
                intro u wx o ho hE hw
                injection (ho : some _ = some o) with ho
                subst ho
                have hEx : Ext wr wx := hE.undrew
                have f10 : u 10 = .bool false := hw 10 (by omega) (by kernel_rfl)
                have f14 : u 14 = undef := hw 14 (by omega) (by kernel_rfl)
                simp only [fr, dstOf]
                go_simp
                go_wp2
                first | exact Upd.refl _ _ | exact ⟨_, rfl, Upd.refl _ _, rfl⟩ | exact ⟨Upd.refl _ _, rfl⟩
              | 16, _ =>
                intro u wx o ho hE hw
                injection (ho : some _ = some o) with ho
                subst ho
                have hEx : Ext wr wx := hE.undrew
                have f10 : u 10 = .bool false := hw 10 (by omega) (by kernel_rfl)
                have f15 : u 15 = undef := hw 15 (by omega) (by kernel_rfl)
                simp only [fr, dstOf]
                go_simp
                go_wp2
                first | exact Upd.refl _ _ | exact ⟨_, rfl, Upd.refl _ _, rfl⟩ | exact ⟨Upd.refl _ _, rfl⟩
              | 17, _ =>
                intro u wx o ho hE hw
                injection (ho : some _ = some o) with ho
                subst ho
                have hEx : Ext wr wx := hE.undrew
                have f10 : u 10 = .bool false := hw 10 (by omega) (by kernel_rfl)
                have f16 : u 16 = undef := hw 16 (by omega) (by kernel_rfl)
                simp only [fr, dstOf]
                go_simp
                go_wp2
                first | exact Upd.refl _ _ | exact ⟨_, rfl, Upd.refl _ _, rfl⟩ | exact ⟨Upd.refl _ _, rfl⟩
              | 18, _ =>
                intro u wx o ho hE hw
                injection (ho : some _ = some o) with ho
                subst ho
                have hEx : Ext wr wx := hE.undrew
                have f10 : u 10 = .bool false := hw 10 (by omega) (by kernel_rfl)
                have f13 : u 13 = undef := hw 13 (by omega) (by kernel_rfl)
                have f17 : u 17 = undef := hw 17 (by omega) (by kernel_rfl)
                simp only [fr, dstOf]
                go_simp
                go_wp2
                first | exact Upd.refl _ _ | exact ⟨_, rfl, Upd.refl _ _, rfl⟩ | exact ⟨Upd.refl _ _, rfl⟩
              | k + 19, h => exact absurd h (by omega)
            · intro u wx hE hJ
              have hEx : Ext wr wx := hE.undrew
              have f0 : u 0 = .int .i64 (k : Int) := hJ 0 (by omega)
              have f1 : u 1 = .slice Q nb cb := hJ 1 (by omega)
              have f2 : u 2 = .int .i64 (nb : Int) := hJ 2 (by omega)
              have f3 : u 3 = .bool false := hJ 3 (by omega)
              have f4 : u 4 = .bool false := hJ 4 (by omega)
              have f5 : u 5 = undef := hJ 5 (by omega)
              have f6 : u 6 = undef := hJ 6 (by omega)
              have f7 : u 7 = undef := hJ 7 (by omega)
              have f8 : u 8 = undef := hJ 8 (by omega)
              have f9 : u 9 = .bool false := hJ 9 (by omega)
              have f10 : u 10 = .bool false := hJ 10 (by omega)
              have f11 : u 11 = undef := hJ 11 (by omega)
              have f12 : u 12 = undef := hJ 12 (by omega)
              have f13 : u 13 = undef := hJ 13 (by omega)
              have f14 : u 14 = undef := hJ 14 (by omega)
              have f15 : u 15 = undef := hJ 15 (by omega)
              have f16 : u 16 = undef := hJ 16 (by omega)
              have f17 : u 17 = undef := hJ 17 (by omega)
              have f18 : u 18 = undef := hJ 18 (by omega)
              clear hJ
              simp only [fr, dstOf]
              go_simp
              try simp only [List.drop_succ_cons, List.drop_zero]
              go_wp2_with fail
              go_roundw
              case rel => exact ⟨k + 1, l + j, A2, c2, T4, hlt, by go_num, rfl, by rw [← Hall.out]; exact Hlen.out, by omega, by rw [← Hall.out]; exact HA5.out.ext hEx, by rw [← Hall.out]; exact HH5.out.ext hEx, HT4.out, HE5.out.trans hEx⟩
              case measure => simp [intOf]; omega
    · obtain rfl : k = n := by omega
      have hltI : ¬ (k : Int) < (k : Int) := by omega
      obtain ⟨all, hall⟩ : ∃ all, all = flat ps := ⟨_, rfl⟩
      have ht : flat (ps.take k) = all := by rw [hall, List.take_of_length_le (by rw [Hn.out]; exact Nat.le_refl _)]
      have hlen : all.length = l := by rw [← ht]; exact Hl.out
      have HA5 : Hid (Own wr w.heap.size 5 A c (all.map by8)) := hide (by rw [← ht]; exact HO.out)
      have HH5 : Hid (Hsh wr w.heap.size T g all) := hide (by rw [← ht]; exact HH.out)
      have hcap := HA5.out.cap
      rw [List.length_map, hlen] at hcap
      have Hall := hide hall
      have Hlen := hide hlen
      have HPw := hide (HP.out.ext HE.out)
      clear hlt hk ht hlen hall HO HH Hl
      go_wp2_with fail
      refine (add_nil A l c wr).mono ?_
      rintro e wz ⟨rfl, rfl⟩
      go_upto_region 23 with fail
      refine wp_region_mono 29 (fun i => ([MF.eq (.pointer (some ⟨g, 0, none⟩)), bytesM (32) (sum all), MF.eq (.string (str (sum all))), MF.eq (.slice A l c), partsM (1) (all), bytesM (32) (sum all), MF.eq (.string (str (sum all))), MF.eq (.bool true), MF.eq (.bool true), MF.eq (.slice D k f), bytesM (32) (sum all), MF.eq (.string (str (sum all))), MF.eq (.slice A l c), partsM (1) (all), bytesM (32) (sum all), MF.eq (.string (str (sum all))), MF.eq (.bool true), MF.eq (.bool true), MF.eq (.bool true), MF.eq (.pointer none), MF.eq (.slice none 0 0), MF.eq (.int .i64 0), MF.eq (.bool true), MF.eq (.bool true), MF.eq (.bool true), MF.eq (.pointer none), MF.eq (.pointer none), MF.eq (.bool true), MF.eq (.bool true)] : List MF).getD i (MF.eq undef)) (by kernel_rfl) (by kernel_rfl) ?_ ?_
      · intro i hi
        match i, hi with
        | 0, _ =>
          intro u wx o ho hE hw
          injection (ho : some _ = some o) with ho
          subst ho
          have hEx : Ext wr wx := hE.undrew
          simp only [fr, dstOf]
          go_simp
          go_wp2
          first | exact Upd.refl _ _ | exact ⟨_, rfl, Upd.refl _ _, rfl⟩ | exact ⟨Upd.refl _ _, rfl⟩
        | 1, _ =>
          intro u wx o ho hE hw
          injection (ho : some _ = some o) with ho
          subst ho
          have hEx : Ext wr wx := hE.undrew
          have f0 : u 0 = .pointer (some ⟨g, 0, none⟩) := hw 0 (by omega) (by kernel_rfl)
          simp only [fr, dstOf]
          go_simp
          go_wp2_with fail
          refine (hsum_any w.heap.size g T all _ (HH5.out.ext hEx) (by rw [Hlen.out]; omega)).mono ?_
          rintro e wn ⟨A5, c5, rfl, hO, hU⟩
          go_wp2_with fail
          first | exact ⟨_, rfl, hU, bytesM_mk ⟨A5, c5, rfl, Own.pt hO (sum_length _)⟩⟩ | exact ⟨hU, bytesM_mk ⟨A5, c5, rfl, Own.pt hO (sum_length _)⟩⟩
        | 2, _ =>
          intro u wx o ho hE hw
          injection (ho : some _ = some o) with ho
          subst ho
          have hEx : Ext wr wx := hE.undrew
          have hQ1 := bytesM_out (hw 1 (by omega) (by kernel_rfl))
          cases hQ1; rename_i aA1 hQ1
          cases hQ1; rename_i aC1 hQ1
          have f1 := hQ1.1
          have aN1 := hQ1.2.1
          have aX1 := hQ1.2.2.1
          have aM1 := hQ1.2.2.2.1
          have hV1 := hQ1.2.2.2.2
          clear hQ1
          simp only [fr, dstOf]
          go_simp
          have hst := run_str (P := Try.prog) (S := 9) Try.under_bs Try.under8 Try.underS (c := aC1) hV1 aN1
          go_wp2
          first | exact Upd.refl _ _ | exact ⟨trivial, Upd.refl _ _⟩ | exact ⟨_, rfl, Upd.refl _ _, rfl⟩ | exact ⟨Upd.refl _ _, rfl⟩
        | 3, _ =>
          intro u wx o ho hE hw
          injection (ho : some _ = some o) with ho
          subst ho
          have hEx : Ext wr wx := hE.undrew
          simp only [fr, dstOf]
          go_simp
          go_wp2
          first | exact Upd.refl _ _ | exact ⟨_, rfl, Upd.refl _ _, rfl⟩ | exact ⟨Upd.refl _ _, rfl⟩
        | 4, _ =>
          intro u wx o ho hE hw
          injection (ho : some _ = some o) with ho
          subst ho
          have hEx : Ext wr wx := hE.undrew
          have f3 : u 3 = .slice A l c := hw 3 (by omega) (by kernel_rfl)
          simp only [fr, dstOf]
          go_simp
          go_wp2
          first | exact ⟨_, rfl, (Upd.refl _ _).alloc _, partsM_mk ⟨_, _, [⟨A, l, c, all⟩], rfl, rfl, flat_one _, one_part wx A l c all (HA5.out.sl.ext hEx) Hlen.out hcap.1 hcap.2⟩⟩ | exact ⟨(Upd.refl _ _).alloc _, partsM_mk ⟨_, _, [⟨A, l, c, all⟩], rfl, rfl, flat_one _, one_part wx A l c all (HA5.out.sl.ext hEx) Hlen.out hcap.1 hcap.2⟩⟩
        | 5, _ =>
          intro u wx o ho hE hw
          injection (ho : some _ = some o) with ho
          subst ho
          have hEx : Ext wr wx := hE.undrew
          have hQ4 := partsM_out (hw 4 (by omega) (by kernel_rfl))
          cases hQ4; rename_i aA4 hQ4
          cases hQ4; rename_i aC4 hQ4
          cases hQ4; rename_i aP4 hQ4
          have f4 := hQ4.1
          have aN4 := hQ4.2.1
          have aF4 := hQ4.2.2.1
          have hV4 := hQ4.2.2.2
          clear hQ4
          simp only [fr, dstOf]
          go_simp
          go_wp2_with fail
          refine (psum_any aA4 1 aC4 aP4 _ hV4 aN4 (by rw [aF4, Hlen.out]; omega) (by unfold maxLen; decide)).mono ?_
          rintro e wn ⟨A5, c5, rfl, hO, hU⟩
          go_wp2_with fail
          first | exact ⟨_, rfl, hU, bytesM_mk ⟨A5, c5, rfl, (by rw [aF4] at hO; exact Own.pt hO (sum_length _))⟩⟩ | exact ⟨hU, bytesM_mk ⟨A5, c5, rfl, (by rw [aF4] at hO; exact Own.pt hO (sum_length _))⟩⟩
        | 6, _ =>
          intro u wx o ho hE hw
          injection (ho : some _ = some o) with ho
          subst ho
          have hEx : Ext wr wx := hE.undrew
          have hQ5 := bytesM_out (hw 5 (by omega) (by kernel_rfl))
          cases hQ5; rename_i aA5 hQ5
          cases hQ5; rename_i aC5 hQ5
          have f5 := hQ5.1
          have aN5 := hQ5.2.1
          have aX5 := hQ5.2.2.1
          have aM5 := hQ5.2.2.2.1
          have hV5 := hQ5.2.2.2.2
          clear hQ5
          simp only [fr, dstOf]
          go_simp
          have hst := run_str (P := Try.prog) (S := 9) Try.under_bs Try.under8 Try.underS (c := aC5) hV5 aN5
          go_wp2
          first | exact Upd.refl _ _ | exact ⟨trivial, Upd.refl _ _⟩ | exact ⟨_, rfl, Upd.refl _ _, rfl⟩ | exact ⟨Upd.refl _ _, rfl⟩
        | 7, _ =>
          intro u wx o ho hE hw
          injection (ho : some _ = some o) with ho
          subst ho
          have hEx : Ext wr wx := hE.undrew
          have f2 : u 2 = .string (str (sum all)) := hw 2 (by omega) (by kernel_rfl)
          have f6 : u 6 = .string (str (sum all)) := hw 6 (by omega) (by kernel_rfl)
          simp only [fr, dstOf]
          go_simp
          go_wp2
          first | exact Upd.refl _ _ | exact ⟨_, rfl, Upd.refl _ _, rfl⟩ | exact ⟨Upd.refl _ _, rfl⟩
        | 8, _ =>
          intro u wx o ho hE hw
          injection (ho : some _ = some o) with ho
          subst ho
          have hEx : Ext wr wx := hE.undrew
          have f7 : u 7 = .bool true := hw 7 (by omega) (by kernel_rfl)
          simp only [fr, dstOf]
          go_simp
          go_wp2
          first | exact Upd.refl _ _ | exact ⟨_, rfl, Upd.refl _ _, rfl⟩ | exact ⟨Upd.refl _ _, rfl⟩
        | 9, _ =>
          intro u wx o ho hE hw
          injection (ho : some _ = some o) with ho
          subst ho
          have hEx : Ext wr wx := hE.undrew
          have f8 : u 8 = .bool true := hw 8 (by omega) (by kernel_rfl)
          simp only [fr, dstOf]
          go_simp
          go_wp2
          first | exact Upd.refl _ _ | exact ⟨_, rfl, Upd.refl _ _, rfl⟩ | exact ⟨Upd.refl _ _, rfl⟩
        | 10, _ =>
          intro u wx o ho hE hw
          injection (ho : some _ = some o) with ho
          subst ho
          have hEx : Ext wr wx := hE.undrew
          have f8 : u 8 = .bool true := hw 8 (by omega) (by kernel_rfl)
          have f9 : u 9 = .slice D k f := hw 9 (by omega) (by kernel_rfl)
          simp only [fr, dstOf]
          go_simp
          go_wp2_with fail
          refine (psum_any D k f ps _ (HPw.out.ext hEx) Hn.out (by rw [← Hall.out, Hlen.out]; omega) (by unfold maxLen; omega)).mono ?_
          rintro e wn ⟨A5, c5, rfl, hO, hU⟩
          go_wp2_with fail
          first | exact ⟨_, rfl, hU, bytesM_mk ⟨A5, c5, rfl, (by rw [← Hall.out] at hO; exact Own.pt hO (sum_length _))⟩⟩ | exact ⟨hU, bytesM_mk ⟨A5, c5, rfl, (by rw [← Hall.out] at hO; exact Own.pt hO (sum_length _))⟩⟩
        | 11, _ =>
          intro u wx o ho hE hw
          injection (ho : some _ = some o) with ho
          subst ho
          have hEx : Ext wr wx := hE.undrew
          have f8 : u 8 = .bool true := hw 8 (by omega) (by kernel_rfl)
          have hQ10 := bytesM_out (hw 10 (by omega) (by kernel_rfl))
          cases hQ10; rename_i aA10 hQ10
          cases hQ10; rename_i aC10 hQ10
          have f10 := hQ10.1
          have aN10 := hQ10.2.1
          have aX10 := hQ10.2.2.1
          have aM10 := hQ10.2.2.2.1
          have hV10 := hQ10.2.2.2.2
          clear hQ10
          simp only [fr, dstOf]
          go_simp
          have hst := run_str (P := Try.prog) (S := 9) Try.under_bs Try.under8 Try.underS (c := aC10) hV10 aN10
          go_wp2
          first | exact Upd.refl _ _ | exact ⟨trivial, Upd.refl _ _⟩ | exact ⟨_, rfl, Upd.refl _ _, rfl⟩ | exact ⟨Upd.refl _ _, rfl⟩
        | 12, _ =>
          intro u wx o ho hE hw
          injection (ho : some _ = some o) with ho
          subst ho
          have hEx : Ext wr wx := hE.undrew
          have f8 : u 8 = .bool true := hw 8 (by omega) (by kernel_rfl)
          simp only [fr, dstOf]
          go_simp
          go_wp2
          first | exact Upd.refl _ _ | exact ⟨_, rfl, Upd.refl _ _, rfl⟩ | exact ⟨Upd.refl _ _, rfl⟩
        | 13, _ =>
          intro u wx o ho hE hw
          injection (ho : some _ = some o) with ho
          subst ho
          have hEx : Ext wr wx := hE.undrew
          have f8 : u 8 = .bool true := hw 8 (by omega) (by kernel_rfl)
          have f12 : u 12 = .slice A l c := hw 12 (by omega) (by kernel_rfl)
          simp only [fr, dstOf]
          go_simp
          go_wp2
          first | exact ⟨_, rfl, (Upd.refl _ _).alloc _, partsM_mk ⟨_, _, [⟨A, l, c, all⟩], rfl, rfl, flat_one _, one_part wx A l c all (HA5.out.sl.ext hEx) Hlen.out hcap.1 hcap.2⟩⟩ | exact ⟨(Upd.refl _ _).alloc _, partsM_mk ⟨_, _, [⟨A, l, c, all⟩], rfl, rfl, flat_one _, one_part wx A l c all (HA5.out.sl.ext hEx) Hlen.out hcap.1 hcap.2⟩⟩
        | 14, _ =>
          intro u wx o ho hE hw
          injection (ho : some _ = some o) with ho
          subst ho
          have hEx : Ext wr wx := hE.undrew
          have f8 : u 8 = .bool true := hw 8 (by omega) (by kernel_rfl)
          have hQ13 := partsM_out (hw 13 (by omega) (by kernel_rfl))
          cases hQ13; rename_i aA13 hQ13
          cases hQ13; rename_i aC13 hQ13
          cases hQ13; rename_i aP13 hQ13
          have f13 := hQ13.1
          have aN13 := hQ13.2.1
          have aF13 := hQ13.2.2.1
          have hV13 := hQ13.2.2.2
          clear hQ13
          simp only [fr, dstOf]
          go_simp
          go_wp2_with fail
          refine (psum_any aA13 1 aC13 aP13 _ hV13 aN13 (by rw [aF13, Hlen.out]; omega) (by unfold maxLen; decide)).mono ?_
          rintro e wn ⟨A5, c5, rfl, hO, hU⟩
          go_wp2_with fail
          first | exact ⟨_, rfl, hU, bytesM_mk ⟨A5, c5, rfl, (by rw [aF13] at hO; exact Own.pt hO (sum_length _))⟩⟩ | exact ⟨hU, bytesM_mk ⟨A5, c5, rfl, (by rw [aF13] at hO; exact Own.pt hO (sum_length _))⟩⟩
        | 15, _ =>
          intro u wx o ho hE hw
          injection (ho : some _ = some o) with ho
          subst ho
          have hEx : Ext wr wx := hE.undrew
          have f8 : u 8 = .bool true := hw 8 (by omega) (by kernel_rfl)
          have hQ14 := bytesM_out (hw 14 (by omega) (by kernel_rfl))
          cases hQ14; rename_i aA14 hQ14
          cases hQ14; rename_i aC14 hQ14
          have f14 := hQ14.1
          have aN14 := hQ14.2.1
          have aX14 := hQ14.2.2.1
          have aM14 := hQ14.2.2.2.1
          have hV14 := hQ14.2.2.2.2
          clear hQ14
          simp only [fr, dstOf]
          go_simp
          have hst := run_str (P := Try.prog) (S := 9) Try.under_bs Try.under8 Try.underS (c := aC14) hV14 aN14
          go_wp2
          first | exact Upd.refl _ _ | exact ⟨trivial, Upd.refl _ _⟩ | exact ⟨_, rfl, Upd.refl _ _, rfl⟩ | exact ⟨Upd.refl _ _, rfl⟩
        | 16, _ =>
          intro u wx o ho hE hw
          injection (ho : some _ = some o) with ho
          subst ho
          have hEx : Ext wr wx := hE.undrew
          have f8 : u 8 = .bool true := hw 8 (by omega) (by kernel_rfl)
          have f11 : u 11 = .string (str (sum all)) := hw 11 (by omega) (by kernel_rfl)
          have f15 : u 15 = .string (str (sum all)) := hw 15 (by omega) (by kernel_rfl)
          simp only [fr, dstOf]
          go_simp
          go_wp2
          first | exact Upd.refl _ _ | exact ⟨_, rfl, Upd.refl _ _, rfl⟩ | exact ⟨Upd.refl _ _, rfl⟩
        | 17, _ =>
          intro u wx o ho hE hw
          injection (ho : some _ = some o) with ho
          subst ho
          have hEx : Ext wr wx := hE.undrew
          have f8 : u 8 = .bool true := hw 8 (by omega) (by kernel_rfl)
          have f16 : u 16 = .bool true := hw 16 (by omega) (by kernel_rfl)
          simp only [fr, dstOf]
          go_simp
          go_wp2
          first | exact Upd.refl _ _ | exact ⟨_, rfl, Upd.refl _ _, rfl⟩ | exact ⟨Upd.refl _ _, rfl⟩
        | 18, _ =>
          intro u wx o ho hE hw
          injection (ho : some _ = some o) with ho
          subst ho
          have hEx : Ext wr wx := hE.undrew
          have f17 : u 17 = .bool true := hw 17 (by omega) (by kernel_rfl)
          simp only [fr, dstOf]
          go_simp
          go_wp2
          first | exact Upd.refl _ _ | exact ⟨_, rfl, Upd.refl _ _, rfl⟩ | exact ⟨Upd.refl _ _, rfl⟩
        | 19, _ =>
          intro u wx o ho hE hw
          injection (ho : some _ = some o) with ho
          subst ho
          have hEx : Ext wr wx := hE.undrew
          have f18 : u 18 = .bool true := hw 18 (by omega) (by kernel_rfl)
          simp only [fr, dstOf]
          go_simp
          go_wp2
          first | exact Upd.refl _ _ | exact ⟨_, rfl, Upd.refl _ _, rfl⟩ | exact ⟨Upd.refl _ _, rfl⟩
        | 20, _ =>
          intro u wx o ho hE hw
          injection (ho : some _ = some o) with ho
          subst ho
          have hEx : Ext wr wx := hE.undrew
          have f18 : u 18 = .bool true := hw 18 (by omega) (by kernel_rfl)
          have f19 : u 19 = .pointer none := hw 19 (by omega) (by kernel_rfl)
          simp only [fr, dstOf]
          go_simp
          go_wp2_with fail
          refine (sumnil_x _).mono ?_
          rintro e wn ⟨rfl, hU⟩
          go_wp2_with fail
          first | exact hU | exact ⟨trivial, hU⟩ | exact ⟨_, rfl, hU, rfl⟩ | exact ⟨hU, rfl⟩
        | 21, _ =>
          intro u wx o ho hE hw
          injection (ho : some _ = some o) with ho
          subst ho
          have hEx : Ext wr wx := hE.undrew
          have f18 : u 18 = .bool true := hw 18 (by omega) (by kernel_rfl)
          have f20 : u 20 = .slice none 0 0 := hw 20 (by omega) (by kernel_rfl)
          simp only [fr, dstOf]
          go_simp
          go_wp2
          first | exact Upd.refl _ _ | exact ⟨_, rfl, Upd.refl _ _, rfl⟩ | exact ⟨Upd.refl _ _, rfl⟩
        | 22, _ =>
          intro u wx o ho hE hw
          injection (ho : some _ = some o) with ho
          subst ho
          have hEx : Ext wr wx := hE.undrew
          have f18 : u 18 = .bool true := hw 18 (by omega) (by kernel_rfl)
          have f21 : u 21 = .int .i64 0 := hw 21 (by omega) (by kernel_rfl)
          simp only [fr, dstOf]
          go_simp
          go_wp2
          first | exact Upd.refl _ _ | exact ⟨_, rfl, Upd.refl _ _, rfl⟩ | exact ⟨Upd.refl _ _, rfl⟩
        | 23, _ =>
          intro u wx o ho hE hw
          injection (ho : some _ = some o) with ho
          subst ho
          have hEx : Ext wr wx := hE.undrew
          have f18 : u 18 = .bool true := hw 18 (by omega) (by kernel_rfl)
          have f22 : u 22 = .bool true := hw 22 (by omega) (by kernel_rfl)
          simp only [fr, dstOf]
          go_simp
          go_wp2
          first | exact Upd.refl _ _ | exact ⟨_, rfl, Upd.refl _ _, rfl⟩ | exact ⟨Upd.refl _ _, rfl⟩
        | 24, _ =>
          intro u wx o ho hE hw
          injection (ho : some _ = some o) with ho
          subst ho
          have hEx : Ext wr wx := hE.undrew
          have f23 : u 23 = .bool true := hw 23 (by omega) (by kernel_rfl)
          simp only [fr, dstOf]
          go_simp
          go_wp2
          first | exact Upd.refl _ _ | exact ⟨_, rfl, Upd.refl _ _, rfl⟩ | exact ⟨Upd.refl _ _, rfl⟩
        | 25, _ =>
          intro u wx o ho hE hw
          injection (ho : some _ = some o) with ho
          subst ho
          have hEx : Ext wr wx := hE.undrew
          have f24 : u 24 = .bool true := hw 24 (by omega) (by kernel_rfl)
          simp only [fr, dstOf]
          go_simp
          go_wp2
          first | exact Upd.refl _ _ | exact ⟨_, rfl, Upd.refl _ _, rfl⟩ | exact ⟨Upd.refl _ _, rfl⟩
        | 26, _ =>
          intro u wx o ho hE hw
          injection (ho : some _ = some o) with ho
          subst ho
          have hEx : Ext wr wx := hE.undrew
          have f24 : u 24 = .bool true := hw 24 (by omega) (by kernel_rfl)
          have f25 : u 25 = .pointer none := hw 25 (by omega) (by kernel_rfl)
          simp only [fr, dstOf]
          go_simp
          go_wp2_with fail
          refine (copynil_x _).mono ?_
          rintro e wn ⟨rfl, hU⟩
          go_wp2_with fail
          first | exact hU | exact ⟨trivial, hU⟩ | exact ⟨_, rfl, hU, rfl⟩ | exact ⟨hU, rfl⟩
        | 27, _ =>
          intro u wx o ho hE hw
          injection (ho : some _ = some o) with ho
          subst ho
          have hEx : Ext wr wx := hE.undrew
          have f24 : u 24 = .bool true := hw 24 (by omega) (by kernel_rfl)
          have f26 : u 26 = .pointer none := hw 26 (by omega) (by kernel_rfl)
          simp only [fr, dstOf]
          go_simp
          go_wp2
          first | exact Upd.refl _ _ | exact ⟨_, rfl, Upd.refl _ _, rfl⟩ | exact ⟨Upd.refl _ _, rfl⟩
        | 28, _ =>
          intro u wx o ho hE hw
          injection (ho : some _ = some o) with ho
          subst ho
          have hEx : Ext wr wx := hE.undrew
          have f24 : u 24 = .bool true := hw 24 (by omega) (by kernel_rfl)
          have f27 : u 27 = .bool true := hw 27 (by omega) (by kernel_rfl)
          simp only [fr, dstOf]
          go_simp
          go_wp2
          first | exact Upd.refl _ _ | exact ⟨_, rfl, Upd.refl _ _, rfl⟩ | exact ⟨Upd.refl _ _, rfl⟩
        | k + 29, h => exact absurd h (by omega)
      · intro u wx hE hJ
        have hEx : Ext wr wx := hE.undrew
        have f0 : u 0 = .pointer (some ⟨g, 0, none⟩) := hJ 0 (by omega)
        have hQ1 := bytesM_out (hJ 1 (by omega))
        cases hQ1; rename_i aA1 hQ1
        cases hQ1; rename_i aC1 hQ1
        have f1 := hQ1.1
        have aN1 := hQ1.2.1
        have aX1 := hQ1.2.2.1
        have aM1 := hQ1.2.2.2.1
        have hV1 := hQ1.2.2.2.2
        clear hQ1
        have f2 : u 2 = .string (str (sum all)) := hJ 2 (by omega)
        have f3 : u 3 = .slice A l c := hJ 3 (by omega)
        have hQ4 := partsM_out (hJ 4 (by omega))
        cases hQ4; rename_i aA4 hQ4
        cases hQ4; rename_i aC4 hQ4
        cases hQ4; rename_i aP4 hQ4
        have f4 := hQ4.1
        have aN4 := hQ4.2.1
        have aF4 := hQ4.2.2.1
        have hV4 := hQ4.2.2.2
        clear hQ4
        have hQ5 := bytesM_out (hJ 5 (by omega))
        cases hQ5; rename_i aA5 hQ5
        cases hQ5; rename_i aC5 hQ5
        have f5 := hQ5.1
        have aN5 := hQ5.2.1
        have aX5 := hQ5.2.2.1
        have aM5 := hQ5.2.2.2.1
        have hV5 := hQ5.2.2.2.2
        clear hQ5
        have f6 : u 6 = .string (str (sum all)) := hJ 6 (by omega)
        have f7 : u 7 = .bool true := hJ 7 (by omega)
        have f8 : u 8 = .bool true := hJ 8 (by omega)
        have f9 : u 9 = .slice D k f := hJ 9 (by omega)
        have hQ10 := bytesM_out (hJ 10 (by omega))
        cases hQ10; rename_i aA10 hQ10
        cases hQ10; rename_i aC10 hQ10
        have f10 := hQ10.1
        have aN10 := hQ10.2.1
        have aX10 := hQ10.2.2.1
        have aM10 := hQ10.2.2.2.1
        have hV10 := hQ10.2.2.2.2
        clear hQ10
        have f11 : u 11 = .string (str (sum all)) := hJ 11 (by omega)
        have f12 : u 12 = .slice A l c := hJ 12 (by omega)
        have hQ13 := partsM_out (hJ 13 (by omega))
        cases hQ13; rename_i aA13 hQ13
        cases hQ13; rename_i aC13 hQ13
        cases hQ13; rename_i aP13 hQ13
        have f13 := hQ13.1
        have aN13 := hQ13.2.1
        have aF13 := hQ13.2.2.1
        have hV13 := hQ13.2.2.2
        clear hQ13
        have hQ14 := bytesM_out (hJ 14 (by omega))
        cases hQ14; rename_i aA14 hQ14
        cases hQ14; rename_i aC14 hQ14
        have f14 := hQ14.1
        have aN14 := hQ14.2.1
        have aX14 := hQ14.2.2.1
        have aM14 := hQ14.2.2.2.1
        have hV14 := hQ14.2.2.2.2
        clear hQ14
        have f15 : u 15 = .string (str (sum all)) := hJ 15 (by omega)
        have f16 : u 16 = .bool true := hJ 16 (by omega)
        have f17 : u 17 = .bool true := hJ 17 (by omega)
        have f18 : u 18 = .bool true := hJ 18 (by omega)
        have f19 : u 19 = .pointer none := hJ 19 (by omega)
        have f20 : u 20 = .slice none 0 0 := hJ 20 (by omega)
        have f21 : u 21 = .int .i64 0 := hJ 21 (by omega)
        have f22 : u 22 = .bool true := hJ 22 (by omega)
        have f23 : u 23 = .bool true := hJ 23 (by omega)
        have f24 : u 24 = .bool true := hJ 24 (by omega)
        have f25 : u 25 = .pointer none := hJ 25 (by omega)
        have f26 : u 26 = .pointer none := hJ 26 (by omega)
        have f27 : u 27 = .bool true := hJ 27 (by omega)
        have f28 : u 28 = .bool true := hJ 28 (by omega)
        clear hJ
        simp only [fr, dstOf]
        go_simp
        try simp only [List.drop_succ_cons, List.drop_zero]
        go_wp2_with fail
        go_ret
        exact ⟨rfl, HE.out.trans hEx⟩
end Go.Proofs.Ytjdodhooojjldaa
