/- What is cut, or has anything behind it, is no entry's and no vote's: the law, walked. -/
import Derived.Test.YtjdodhooojjldaaWirP
import Derived.Test.YtjdodhooojjldaaWirE
namespace Go.Proofs.Ytjdodhooojjldaa
set_option linter.unusedSimpArgs false
set_option linter.unusedVariables false
open Go.RowKit
open Nt Sha
attribute [local go_sem] steady steadyUpon Cls same_cell anyW str_eq
attribute [local irreducible] wpHead wpTree wpHeadR
theorem En.ok_bad {x : En} (h : x.ok = true) : x.bad = false := by
  unfold En.ok at h
  cases hb : x.bad with
  | false => rfl
  | true => rw [hb] at h; cases h
theorem EnOk.wid {w : World} {x : En} (h : EnOk w x) : x.pr.length = x.lp ∧ ∀ p ∈ x.ps, p.bs.length = p.n := ⟨h.plen, fun p hp => by
  obtain ⟨i, hi, rfl⟩ := List.getElem_of_mem hp
  have := (h.texts.2 i hi).2.1
  rwa [gat_lt hi] at this⟩
theorem goodE_yes {b : List B8} {y : En} (h : goodE b y = true) : y.ok = true ∧ y.bytes = b := by
  unfold goodE at h
  simp only [Bool.and_eq_true, decide_eq_true_eq] at h
  exact h.2
theorem goodE_cut {w w' : World} {x y : En} (hx : x.ok = true) (hy : EnOk w' y) (hxk : EnOk w x) {k : Nat} (hk : k < x.bytes.length) : goodE (x.bytes.take k) y = false := by
  cases h : goodE (x.bytes.take k) y with
  | false => rfl
  | true =>
    obtain ⟨h1, h2⟩ := goodE_yes h
    have := (entry_free (t := x.bytes.drop k) (En.ok_bad h1) hy.wid.1 hy.wid.2 (En.ok_bad hx) hxk.wid.1 hxk.wid.2 (by rw [h2, List.take_append_drop])).1
    have hl := congrArg List.length this
    rw [List.length_drop] at hl
    simp at hl
    omega
theorem goodE_more {w w' : World} {x y : En} (hx : x.ok = true) (hy : EnOk w' y) (hxk : EnOk w x) {t : List B8} (ht : 0 < t.length) : goodE (x.bytes ++ t) y = false := by
  cases h : goodE (x.bytes ++ t) y with
  | false => rfl
  | true =>
    obtain ⟨h1, h2⟩ := goodE_yes h
    have := (entry_free (t := t) (En.ok_bad hx) hxk.wid.1 hxk.wid.2 (En.ok_bad h1) hy.wid.1 hy.wid.2 h2.symm).1
    rw [this] at ht
    cases ht
theorem goodV_yes {b : List B8} {y : Vo} (h : goodV b y = true) : y.ok = true ∧ y.bytes = b := by
  unfold goodV at h
  simp only [Bool.and_eq_true, decide_eq_true_eq] at h
  exact h.2
theorem goodV_cut {x y : Vo} (hx : x.ok = true) (hy : y.pr.length = y.lp) (hxk : x.pr.length = x.lp) {k : Nat} (hk : k < x.bytes.length) : goodV (x.bytes.take k) y = false := by
  cases h : goodV (x.bytes.take k) y with
  | false => rfl
  | true =>
    obtain ⟨h1, h2⟩ := goodV_yes h
    have := (vote_free (t := x.bytes.drop k) h1 hy hx hxk (by rw [h2, List.take_append_drop])).1
    have hl := congrArg List.length this
    rw [List.length_drop] at hl
    simp at hl
    omega
theorem goodV_more {x y : Vo} (hx : x.ok = true) (hy : y.pr.length = y.lp) (hxk : x.pr.length = x.lp) {t : List B8} (ht : 0 < t.length) : goodV (x.bytes ++ t) y = false := by
  cases h : goodV (x.bytes ++ t) y with
  | false => rfl
  | true =>
    obtain ⟨h1, h2⟩ := goodV_yes h
    have := (vote_free (t := t) hx hxk h1 hy h2.symm).1
    rw [this] at ht
    cases ht
theorem goodE_more' {w w' : World} {x y : En} {b : List B8} (hx : x.ok = true) (hy : EnOk w' y) (hxk : EnOk w x) (hb : b = x.bytes) {t : List B8} (ht : 0 < t.length) : goodE (b ++ t) y = false := by
  rw [hb]
  exact goodE_more hx hy hxk ht
theorem goodV_more' {x y : Vo} {b : List B8} (hx : x.ok = true) (hy : y.pr.length = y.lp) (hxk : x.pr.length = x.lp) (hb : b = x.bytes) {t : List B8} (ht : 0 < t.length) : goodV (b ++ t) y = false := by
  rw [hb]
  exact goodV_more hx hy hxk ht
theorem En.bytes_pos (x : En) : 0 < x.bytes.length := by unfold En.bytes; simp only [List.length_append, List.length_cons]; omega
theorem Vo.bytes_pos (x : Vo) : 0 < x.bytes.length := by unfold Vo.bytes; simp only [List.length_append, List.length_cons]; omega
theorem En.ok_len {x : En} (h : x.ok = true) : x.bytes.length ≤ 4096 := by
  unfold En.ok at h
  simp only [Bool.and_eq_true, Bool.not_eq_true', decide_eq_false_iff_not] at h
  omega
theorem Vo.ok_len {x : Vo} (h : x.ok = true) (hl : x.pr.length = x.lp) : x.bytes.length ≤ 4200 := by
  unfold Vo.ok Vo.bad at h
  simp only [Bool.not_eq_true', Bool.or_eq_false_iff, decide_eq_false_iff_not] at h
  obtain ⟨-, -, -, -, -, h⟩ := h
  unfold Vo.bytes txt
  simp only [List.length_append, be_length, List.length_cons, List.length_nil]
  omega
set_option maxRecDepth 100000 in
set_option maxHeartbeats 4000000 in
theorem wcuts_any (x : Pl) (v : Vo) (z : Int) (A : Option Addr) (n c : Nat) (mo : List B8) (w : World) (hx : PlOk w x) (hv : VoOk w v) (hS : Sl by8 w A mo) (hn : mo.length = n) (hnc : n ≤ c) (hcm : c ≤ maxLen) :
    Calls Try.prog 11 #[.agg x.cs, .agg v.cs, .int .i64 z, .slice A n c] w fun e w' => e = .returned (.bool true) ∧ Ext w w' := by
  have HX := hide hx
  have HV := hide hv
  have HS := hide hS
  have Hn := hide hn
  obtain ⟨u, hu⟩ : ∃ u : Nat, IntKind.u64.wrap z = (u : Int) := ⟨(IntKind.u64.wrap z).toNat, by rw [IntKind.wrap_u64]; omega⟩
  have hu64 : u < 18446744073709551616 := by
    have : (u : Int) < 18446744073709551616 := by rw [← hu, IntKind.wrap_u64]; omega
    omega
  have Hu64 := hide hu64
  clear hx hv hS hn hcm hu64
  unfold Pl.cs Vo.cs
  go_enter Try.func11, Try.ntmps11
  go_upto_region 1 with fail
  refine name_w (fun W hW => ?_)
  have b1 : Blk W w.heap.size 86 x.cs := by rw [hW]; exact (Blk.new _ _ _).ext ((Upd.refl _ _).alloc _)
  have b2 : Blk W (w.heap.size + 1) 78 v.cs := by rw [hW]; exact Blk.new_at (by simp)
  have hE : Ext w W := by rw [hW]; exact ((Upd.refl _ _).alloc _).alloc _
  clear hW
  go_wp2_with fail
  refine (wlives_any _).mono ?_
  rintro e w1 ⟨rfl, hU1⟩
  have c1 := b1.ext hU1
  have c2 := b2.ext hU1
  have hE1 := hE.trans hU1
  have q0 : w1.cell? ⟨w.heap.size, 0, none⟩ = some (.int .i64 x.K) := c1.at 0 rfl
  have q1 : w1.cell? ⟨w.heap.size, 1, none⟩ = some (.int .i64 x.au) := c1.at 1 rfl
  have q2 : w1.cell? ⟨w.heap.size, 2, none⟩ = some (.int .i64 x.ep) := c1.at 2 rfl
  have q3 : w1.cell? ⟨w.heap.size, 3, none⟩ = some (.int .i64 x.mode) := c1.at 3 rfl
  have q4 : w1.cell? ⟨w.heap.size, 4, none⟩ = some (.int .i64 x.peer) := c1.at 4 rfl
  have q5 : w1.cell? ⟨w.heap.size, 5, none⟩ = some (.int .i64 x.phase) := c1.at 5 rfl
  have q6 : w1.cell? ⟨w.heap.size, 6, none⟩ = some (.slice x.L1 x.ln x.c1) := c1.at 6 rfl
  have q7 : w1.cell? ⟨w.heap.size, 7, none⟩ = some (.slice x.L2 x.lt x.c2) := c1.at 7 rfl
  have q8 : w1.cell? ⟨w.heap.size, 8, none⟩ = some (.slice x.P x.lp x.c3) := c1.at 8 rfl
  clear b1 b2 hU1 hE
  go_wp2_with fail
  refine (wfew_any x w1 (HX.out.ext hE1)).mono ?_
  rintro e w2 ⟨b, rfl, hU2, hfew⟩
  have hE2 := hE1.trans hU2
  have d1 := c1.ext hU2
  have d2 := c2.ext hU2
  have HE2 := hide hE2
  have Hf := hide hfew
  clear hE1 hU2 c1 c2 hE2 hfew q0 q1 q2 q3 q4 q5 q6 q7 q8
  cases b with
  | false =>
    go_wp2_with fail
    refine (wlives_any _).mono ?_
    rintro e w3 ⟨rfl, hU3⟩
    go_wp2_with fail
    go_ret
    exact ⟨rfl, HE2.out.trans hU3⟩
  | true =>
    obtain ⟨h100, -, -⟩ := Hf.out rfl
    have H100 := hide h100
    have q5 : w2.cell? ⟨w.heap.size + 1, 5, none⟩ = some (.slice v.P v.lp v.c) := d2.at 5 rfl
    by_cases h5 : 5000 < v.lp
    · have hI : (5000 : Int) < (v.lp : Int) := by omega
      go_wp2_with fail
      refine (wlives_any _).mono ?_
      rintro e w3 ⟨rfl, hU3⟩
      go_wp2_with fail
      go_ret
      exact ⟨rfl, HE2.out.trans hU3⟩
    have hI : ¬ (5000 : Int) < (v.lp : Int) := by omega
    by_cases h0 : n = 0
    · have hI0 : (n : Int) = 0 := by omega
      clear h0
      go_wp2_with fail
      refine (wlives_any _).mono ?_
      rintro e w3 ⟨rfl, hU3⟩
      go_wp2_with fail
      go_ret
      exact ⟨rfl, HE2.out.trans hU3⟩
    have hI0 : ¬ (n : Int) = 0 := by omega
    have hIb : ((n : Int) == 0) = false := beq_eq_false_iff_ne.2 hI0
    by_cases hbig : 100 < n
    · have hI1 : (100 : Int) < (n : Int) := by omega
      clear hbig
      go_wp2_with fail
      refine (wlives_any _).mono ?_
      rintro e w3 ⟨rfl, hU3⟩
      go_wp2_with fail
      go_ret
      exact ⟨rfl, HE2.out.trans hU3⟩
    have hI1 : ¬ (100 : Int) < (n : Int) := by omega
    have HD2 := hide d2
    clear d2 h100
    have q0 : w2.cell? ⟨w.heap.size, 0, none⟩ = some (.int .i64 x.K) := d1.at 0 rfl
    have q1 : w2.cell? ⟨w.heap.size, 1, none⟩ = some (.int .i64 x.au) := d1.at 1 rfl
    have q2 : w2.cell? ⟨w.heap.size, 2, none⟩ = some (.int .i64 x.ep) := d1.at 2 rfl
    have q3 : w2.cell? ⟨w.heap.size, 3, none⟩ = some (.int .i64 x.mode) := d1.at 3 rfl
    have q4 : w2.cell? ⟨w.heap.size, 4, none⟩ = some (.int .i64 x.peer) := d1.at 4 rfl
    have p5 : w2.cell? ⟨w.heap.size, 5, none⟩ = some (.int .i64 x.phase) := d1.at 5 rfl
    have q6 : w2.cell? ⟨w.heap.size, 6, none⟩ = some (.slice x.L1 x.ln x.c1) := d1.at 6 rfl
    have q7 : w2.cell? ⟨w.heap.size, 7, none⟩ = some (.slice x.L2 x.lt x.c2) := d1.at 7 rfl
    have q8 : w2.cell? ⟨w.heap.size, 8, none⟩ = some (.slice x.P x.lp x.c3) := d1.at 8 rfl
    clear d1
    go_wp2_with fail
    refine (wof_any x w2 (HX.out.ext HE2.out) H100.out).mono ?_
    rintro e w3 ⟨D, cD, F, cF, rfl, hU3, hNL, hRL⟩
    have hE3 := HE2.out.trans hU3
    have HE3 := hide hE3
    have HNL := hide hNL
    have HD3 := hide (HD2.out.ext hU3)
    clear q0 q1 q2 q3 q4 q5 q6 q7 q8 p5 hE3 hNL hRL hU3 HD2 HE2 hI hI0 hI1 hIb
    unfold ecs
    go_upto_region 4 with fail
    refine name_w (fun V hV => ?_)
    have b4 : Blk V w3.heap.size 90 (ecs x (.slice D x.ln cD)) := by rw [hV]; exact (Blk.new _ _ _).ext ((Upd.refl _ _).alloc _)
    have hEV : Ext w3 V := by rw [hV]; exact ((Upd.refl _ _).alloc _).alloc _
    have HEV := hide hEV
    have HDV := hide (HD3.out.ext hEV)
    clear hV hEV HD3
    have q0 : V.cell? ⟨w3.heap.size, 0, none⟩ = some (.int .i64 x.K) := b4.at 0 rfl
    have q1 : V.cell? ⟨w3.heap.size, 1, none⟩ = some (.int .i64 x.au) := b4.at 1 rfl
    have q2 : V.cell? ⟨w3.heap.size, 2, none⟩ = some (.int .i64 x.ep) := b4.at 2 rfl
    have q3 : V.cell? ⟨w3.heap.size, 3, none⟩ = some (.int .i64 x.mode) := b4.at 3 rfl
    have q4 : V.cell? ⟨w3.heap.size, 4, none⟩ = some (.int .i64 x.peer) := b4.at 4 rfl
    have q5 : V.cell? ⟨w3.heap.size, 5, none⟩ = some (.int .i64 x.phase) := b4.at 5 rfl
    have q6 : V.cell? ⟨w3.heap.size, 6, none⟩ = some (.slice D x.ln cD) := b4.at 6 rfl
    have q7 : V.cell? ⟨w3.heap.size, 7, none⟩ = some (.slice x.L2 x.lt x.c2) := b4.at 7 rfl
    have q8 : V.cell? ⟨w3.heap.size, 8, none⟩ = some (.slice x.P x.lp x.c3) := b4.at 8 rfl
    clear b4
    obtain ⟨y, hy⟩ : ∃ y, y = plE x D cD := ⟨_, rfl⟩
    have hyk : EnOk V y := by rw [hy]; exact plE_en (HX.out.ext (HE3.out.trans HEV.out)) cD (HNL.out.ext HEV.out) H100.out
    have hyf : FitL 12 y.ns := by rw [hy]; exact qnums_fit x
    have hcs : (Value.agg y.cs) = .agg #[.int .i64 x.K, .int .i64 x.au, .int .i64 x.ep, .int .i64 x.mode, .int .i64 x.peer, .int .i64 x.phase, .slice D x.ln cD, .slice x.L2 x.lt x.c2, .slice x.P x.lp x.c3] := by rw [hy]; rfl
    have HY := hide hyk
    have HYf := hide hyf
    have Hcs := hide hcs
    have HEV2 := hide (HE3.out.trans HEV.out)
    clear hy hyk hyf hcs HEV HNL HE3
    go_wp2_with fail
    rw [← Hcs.out]
    refine (encE_any y 12 V HY.out HYf.out (by omega)).mono ?_
    rintro e w4 ⟨A2, l, c2, er, rfl, hU4, hy, hnn⟩
    clear q0 q1 q2 q3 q4 q5 q6 q7 q8
    have Hy := hide hy
    have Hnn := hide hnn
    have HU4 := hide hU4
    clear hy hnn hU4
    go_upto_if 58 with fail
    go_cut [] (fun wx => Ext w4 wx)
    case first =>
      cases hok : y.ok with
      | false =>
        obtain ⟨rfl, rfl, rfl⟩ := Hnn.out hok
        clear hok
        go_wp2_with fail
        go_meet
        exact Upd.refl _ _
      | true =>
        obtain ⟨rfl, hl, hO⟩ := Hy.out hok
        have hlen := En.ok_len hok
        have hpos := y.bytes_pos
        rw [hl] at hlen hpos
        have Hok := hide hok
        have Hl := hide hl
        have HO := hide hO
        have hcap := hO.cap
        rw [List.length_map, hl] at hcap
        unfold maxLen at hcap
        obtain ⟨m, hm⟩ : ∃ m, m = u % l := ⟨_, rfl⟩
        have hml : m < l := by rw [hm]; exact Nat.mod_lt _ hpos
        have hr1 : (u : Int).tmod (l : Int) = (m : Int) := by rw [hm]; exact IntWalk.rem_in _ _ (by omega)
        have hr2 : (u : Int) % (l : Int) = (m : Int) := by rw [hm]; push_cast; rfl
        have hs1 : ∀ w, (Instr.sliceAt 25 (.slice A2 l c2) none (some (.int .i64 (m : Int))) none).run Try.prog w = .ok (.slice A2 m c2) w := fun w => run_cut_h Try.n_el8.under Try.n_sz8 A2 l c2 m .i64 (by omega) w
        have hlI : (0 : Int) < (l : Int) := by omega
        have hlI2 : (l : Int) ≤ 4096 := by omega
        have hmI : (m : Int) < (l : Int) := by omega
        have Hml := hide hml
        clear hok hl hO hm hml
        go_wp2_with fail
        clear hs1
        have Htl : Hid ((y.bytes.take m).length = m) := hide (by rw [List.length_take, Hl.out]; have := Hml.out; omega)
        refine (decE_any A2 m c2 (y.bytes.take m) _ (HO.out.sl.take m) Htl.out (by omega) (by unfold maxLen; omega)).mono ?_
        rintro e w5 ⟨L1, k1, L2, k2, ps, P, k3, hxx, -, hU5, -, h2⟩
        obtain rfl := h2 (goodE_cut Hok.out hxx HY.out (by rw [Hl.out]; exact Hml.out))
        clear hxx h2 Htl
        unfold ecl
        have HU5 := hide hU5
        clear hU5
        go_upto_region 7 with fail
        refine name_w (fun X hX => ?_)
        have hEX : Ext w5 X := by rw [hX]; exact (Upd.refl _ _).alloc _
        have HEX := hide (HU5.out.trans hEX)
        clear hX hEX HU5
        have Hv2 := hide hcap.1
        have HS4 : Hid (Sl by8 X A mo) := hide (HS.out.ext ((HEV2.out.trans HU4.out).trans HEX.out))
        have HO4 := hide (HO.out.sl.ext HEX.out)
        obtain ⟨bts, hbts⟩ : ∃ bts, bts = y.bytes := ⟨_, rfl⟩
        rw [← hbts] at HO4 Hl
        have Hbts := hide hbts
        have hn1 : n ≤ 100 := by omega
        clear hbts
        go_wp2_with (first
          | (at_builtin; refine wpList_apd by8 one8 Try.n_el8 [] bts bts l rfl Hl.out (by omega) (by unfold maxLen; omega) rfl rfl rfl rfl (own_none8 X (B := X.heap.size) (Nat.le_refl _)) rfl Hl.out (HO4.out.ext ((Upd.refl _ _).alloc _)) (by simp) ?_; intro A5 c5 w6 hO6 hU6 hin6)
          | (at_builtin; go_must (refine wpList_apd by8 one8 Try.n_el8 bts mo (bts ++ mo) (l + n) rfl (by rw [List.length_append, Hl.out, Hn.out]) (by omega) (by unfold maxLen; omega) rfl rfl rfl Hl.out hO6 rfl Hn.out ((HS4.out.ext ((Upd.refl _ _).alloc _)).upd hU6 (fun b o e h => by simp [inA] at h; have := HS4.out.inA_lt (by rw [Hn.out]; omega) (k := b) (by rw [e]; simp [inA]); omega)) (by have := hU6.size; simp at this; omega) ?_); intro A6 c6 w7 hO7 hU7 hin7))
        have hE7 : Ext X w7 := Upd.fresh hU7 (Upd.fresh hU6 ((Upd.refl _ _).alloc _) (fun k hk => by simp [inA] at hk; omega)) (fun k hk => (hO6.in_ hk).1)
        have hk7 := hO7.cap
        rw [List.length_map, List.length_append, Hl.out, Hn.out] at hk7
        refine (decE_any A6 (l + n) c6 (bts ++ mo) w7 hO7.sl (by rw [List.length_append, Hl.out, Hn.out]) hk7.1 hk7.2).mono ?_
        rintro e w8 ⟨L3, k4, L4, k5, ps2, P2, k6, hxx, -, hU8, -, h2⟩
        obtain rfl := h2 (goodE_more' Hok.out hxx HY.out Hbts.out (by rw [Hn.out]; omega))
        have HE8 := hide ((HEX.out.trans hE7).trans hU8)
        clear hxx h2 hU8 hE7 hk7 hO6 hU6 hin6 hO7 hU7 hin7
        unfold ecl
        go_wp2_with fail
        go_meet
        exact HE8.out.alloc _
    case rest =>
      have hE5 : Ext w wc := (HEV2.out.trans HU4.out).trans hcut
      have d5 := (HDV.out.ext HU4.out).ext hcut
      have HE5 := hide hE5
      clear hcut hE5 Hy Hnn HY HYf Hcs HU4
      have q0 : wc.cell? ⟨w.heap.size + 1, 0, none⟩ = some (.int .i64 v.K) := d5.at 0 rfl
      have q1 : wc.cell? ⟨w.heap.size + 1, 1, none⟩ = some (.int .i64 v.from_) := d5.at 1 rfl
      have q2 : wc.cell? ⟨w.heap.size + 1, 2, none⟩ = some (.int .i64 v.slot) := d5.at 2 rfl
      have q3 : wc.cell? ⟨w.heap.size + 1, 3, none⟩ = some (.int .i64 v.view) := d5.at 3 rfl
      have q4 : wc.cell? ⟨w.heap.size + 1, 4, none⟩ = some (.int .i64 v.valid) := d5.at 4 rfl
      have q5 : wc.cell? ⟨w.heap.size + 1, 5, none⟩ = some (.slice v.P v.lp v.c) := d5.at 5 rfl
      clear d5
      have hvc : v.lp ≤ v.c := HV.out.cap
      have Hcsv : Hid ((Value.agg v.cs) = .agg #[.int .i64 v.K, .int .i64 v.from_, .int .i64 v.slot, .int .i64 v.view, .int .i64 v.valid, .slice v.P v.lp v.c]) := hide rfl
      go_wp2_with fail
      rw [← Hcsv.out]
      refine (encV_any v wc (HV.out.ext HE5.out)).mono ?_
      rintro e w4 ⟨A2, l, c2, er, rfl, hU4, hy, hnn⟩
      clear q0 q1 q2 q3 q4 q5
      cases hok : v.ok with
      | false =>
        obtain ⟨rfl, rfl, rfl⟩ := hnn hok
        clear hok hy hnn
        go_wp2_with fail
        go_ret
        exact ⟨rfl, HE5.out.trans hU4⟩
      | true =>
        obtain ⟨rfl, hl, hO⟩ := hy hok
        have hlen := Vo.ok_len hok HV.out.len
        have hpos := v.bytes_pos
        rw [hl] at hlen hpos
        have Hok := hide hok
        have Hl := hide hl
        have HO := hide hO
        have HU4 := hide hU4
        have hcap := hO.cap
        rw [List.length_map, hl] at hcap
        unfold maxLen at hcap
        obtain ⟨m, hm⟩ : ∃ m, m = u % l := ⟨_, rfl⟩
        have hml : m < l := by rw [hm]; exact Nat.mod_lt _ hpos
        have hr1 : (u : Int).tmod (l : Int) = (m : Int) := by rw [hm]; exact IntWalk.rem_in _ _ (by omega)
        have hr2 : (u : Int) % (l : Int) = (m : Int) := by rw [hm]; push_cast; rfl
        have hs1 : ∀ w, (Instr.sliceAt 25 (.slice A2 l c2) none (some (.int .i64 (m : Int))) none).run Try.prog w = .ok (.slice A2 m c2) w := fun w => run_cut_h Try.n_el8.under Try.n_sz8 A2 l c2 m .i64 (by omega) w
        have hlI : (0 : Int) < (l : Int) := by omega
        have hlI2 : (l : Int) ≤ 4200 := by omega
        have hmI : (m : Int) < (l : Int) := by omega
        have Hml := hide hml
        clear hy hnn hok hl hO hm hml hU4
        go_wp2_with fail
        clear hs1
        have Htl : Hid ((v.bytes.take m).length = m) := hide (by rw [List.length_take, Hl.out]; have := Hml.out; omega)
        refine (decV_any A2 m c2 (v.bytes.take m) _ (HO.out.sl.take m) Htl.out (by omega) (by unfold maxLen; omega)).mono ?_
        rintro e w5 ⟨P, k3, hxx, hU5, -, h2⟩
        obtain rfl := h2 (goodV_cut Hok.out hxx.len HV.out.len (by rw [Hl.out]; exact Hml.out))
        clear hxx h2 Htl
        unfold vcl
        have HU5 := hide hU5
        clear hU5
        go_upto_region 13 with fail
        refine name_w (fun X hX => ?_)
        have hEX : Ext w5 X := by rw [hX]; exact (Upd.refl _ _).alloc _
        have HEX := hide (HU5.out.trans hEX)
        clear hX hEX HU5
        have HS4 : Hid (Sl by8 X A mo) := hide (HS.out.ext ((HE5.out.trans HU4.out).trans HEX.out))
        have HO4 := hide (HO.out.sl.ext HEX.out)
        obtain ⟨bts, hbts⟩ : ∃ bts, bts = v.bytes := ⟨_, rfl⟩
        rw [← hbts] at HO4 Hl
        have Hbts := hide hbts
        have hn1 : n ≤ 100 := by omega
        clear hbts
        go_wp2_with (first
          | (at_builtin; refine wpList_apd by8 one8 Try.n_el8 [] bts bts l rfl Hl.out (by omega) (by unfold maxLen; omega) rfl rfl rfl rfl (own_none8 X (B := X.heap.size) (Nat.le_refl _)) rfl Hl.out (HO4.out.ext ((Upd.refl _ _).alloc _)) (by simp) ?_; intro A5 c5 w6 hO6 hU6 hin6)
          | (at_builtin; go_must (refine wpList_apd by8 one8 Try.n_el8 bts mo (bts ++ mo) (l + n) rfl (by rw [List.length_append, Hl.out, Hn.out]) (by omega) (by unfold maxLen; omega) rfl rfl rfl Hl.out hO6 rfl Hn.out ((HS4.out.ext ((Upd.refl _ _).alloc _)).upd hU6 (fun b o e h => by simp [inA] at h; have := HS4.out.inA_lt (by rw [Hn.out]; omega) (k := b) (by rw [e]; simp [inA]); omega)) (by have := hU6.size; simp at this; omega) ?_); intro A6 c6 w7 hO7 hU7 hin7))
        have hE7 : Ext X w7 := Upd.fresh hU7 (Upd.fresh hU6 ((Upd.refl _ _).alloc _) (fun k hk => by simp [inA] at hk; omega)) (fun k hk => (hO6.in_ hk).1)
        have hk7 := hO7.cap
        rw [List.length_map, List.length_append, Hl.out, Hn.out] at hk7
        refine (decV_any A6 (l + n) c6 (bts ++ mo) w7 hO7.sl (by rw [List.length_append, Hl.out, Hn.out]) hk7.1 hk7.2).mono ?_
        rintro e w8 ⟨P2, k6, hxx, hU8, -, h2⟩
        obtain rfl := h2 (goodV_more' Hok.out hxx.len HV.out.len Hbts.out (by rw [Hn.out]; omega))
        have HE8 := hide (((HE5.out.trans HU4.out).trans HEX.out).trans (hE7.trans hU8))
        clear hxx h2 hU8 hE7 hk7 hO6 hU6 hin6 hO7 hU7 hin7
        unfold vcl
        go_wp2_with fail
        go_ret
        exact ⟨rfl, HE8.out.alloc _⟩
end Go.Proofs.Ytjdodhooojjldaa
