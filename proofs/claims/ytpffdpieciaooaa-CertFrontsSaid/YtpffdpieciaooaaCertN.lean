/- CertFronts, walked. -/
import Derived.Test.YtpffdpieciaooaaCertK
import Derived.Test.YtpffdpieciaooaaCertL
import Derived.Test.YtpffdpieciaooaaCertM
import Derived.Deep.DeepCutAuto
namespace Go.Proofs.Ytpffdpieciaooaa
set_option linter.unusedSimpArgs false
set_option linter.unusedVariables false
open Go.RowKit
open Nt Pk
attribute [local go_sem] steady steadyUpon Cls same_cell anyW
attribute [local irreducible] wpHead wpTree wpHeadR
theorem checkE_val (ss : List St) : checkE ss = 0 ∨ checkE ss = 4 ∨ checkE ss = 8 := by
  unfold checkE
  split
  · exact .inr (.inl rfl)
  · split
    · exact .inl rfl
    · exact .inr (.inr rfl)
def lgN (j : Nat) : Nat := (2 ^ 63) ^ (2 ^ j)
theorem lgN_zero : lgN 0 = 9223372036854775808 := by decide
theorem lgN_succ (j : Nat) : lgN j * lgN j = lgN (j + 1) := by
  show (2 ^ 63) ^ (2 ^ j) * (2 ^ 63) ^ (2 ^ j) = (2 ^ 63) ^ (2 ^ (j + 1))
  rw [← Nat.pow_add, Nat.pow_succ]
  congr 1
  omega
theorem lgN_fit (j : Nat) (hj : j ≤ 5) : Fit 64 (lgN j) := by
  unfold Fit W32 lgN
  have h1 : 2 ^ j ≤ 2 ^ 5 := Nat.pow_le_pow_right (by decide) hj
  exact Nat.lt_of_le_of_lt (Nat.pow_le_pow_right (by decide) h1) (by decide)
theorem lgN_ge (e k : Nat) (hk : e ≤ 63 * k) : 2 ^ e ≤ (2 ^ 63) ^ k := by
  rw [← Nat.pow_mul]
  exact Nat.pow_le_pow_right (by decide) hk
theorem lgN_gt (e k : Nat) (hk : e ≤ 63 * k) : e < blen ((2 ^ 63) ^ k) := Nat.lt_of_not_le fun h => absurd (blen_le_iff.1 h) (Nat.not_lt.2 (lgN_ge e k hk))
theorem lgN_long : 1024 < blen (lgN 5) := lgN_gt 1024 (2 ^ 5) (by decide)
theorem fitS_mid {ss : List St} {s : St} {k : Nat} (h : ∀ i, i < ss.length → FitS 2 (gat ss i)) (hs : FitS 2 s) : ∀ i, i < (ss.take k ++ [s] ++ ss.drop k).length → FitS 2 (gat (ss.take k ++ [s] ++ ss.drop k) i) := fun i hi => by
  have hm : ∀ x, x ∈ ss → FitS 2 x := fun x hx => by
    obtain ⟨j, hj, rfl⟩ := List.getElem_of_mem hx
    rw [← gat_lt hj]
    exact h j hj
  rw [gat_lt hi]
  have := List.getElem_mem hi
  rcases List.mem_append.1 this with h1 | h1
  · rcases List.mem_append.1 h1 with h2 | h2
    · exact hm _ (List.mem_of_mem_take h2)
    · rw [List.mem_singleton.1 h2]
      exact hs
  · exact hm _ (List.mem_of_mem_drop h1)
set_option maxRecDepth 100000 in
set_option maxHeartbeats 8000000 in
theorem cfronts_any (A : Option Addr) (n c : Nat) (at_ : Int) (cs : List Cl) (x : Cl) (w : World) (hL : ClL w A cs) (hn : cs.length = n) (hn2 : n ≤ 9223372036854775807) (ha : (Lit.int .i64 at_).wf = true) (hx : ClOk w x) :
    Calls Try.prog 8 #[.slice A n c, .int .i64 at_, .agg #[.int .u64 (x.N : Int), .int .u64 (x.b : Int), .slice x.P x.n x.c]] w fun e w' => e = .returned (.bool true) ∧ Ext w w' := by
  have Hn := hide hn
  have HL := hide hL
  have Hn2 := hide hn2
  have HX := hide hx
  have Ha := hide ha
  obtain ⟨t, ht⟩ : ∃ t, t = fewC cs := ⟨_, rfl⟩
  have Ht := hide ht
  clear hn hL ht hn2 hx ha
  go_enter Try.func8, Try.ntmps8
  go_wp2_with fail
  refine (clives_any _).mono ?_
  rintro e w1 ⟨rfl, hU1⟩
  go_wp2_with fail
  refine (cfew_any A n c cs w1 (HL.out.ext (((Upd.refl _ _).alloc _).trans hU1)) Hn.out Hn2.out).mono ?_
  rintro e w2 ⟨rfl, hU2⟩
  rw [← Ht.out]
  have hB2 : Ext (w.alloc (.cells #[.int .u64 (x.N : Int), .int .u64 (x.b : Int), .slice x.P x.n x.c] 62)) w2 := hU1.trans hU2
  have hE2 : Ext w w2 := ((Upd.refl _ w).alloc _).trans hB2
  have b3 : Three w2 w.heap.size 62 (.int .u64 (x.N : Int)) (.int .u64 (x.b : Int)) (.slice x.P x.n x.c) := (Three.new _ _ _ _ _).ext hB2
  clear hU1 hU2 hB2
  have q2 := b3.cell2
  by_cases h40 : 40 < x.n
  · have h40I : (40 : Int) < (x.n : Int) := by omega
    cases t with
    | false =>
      go_wp2_with fail
      refine (clives_any _).mono ?_
      rintro e w3 ⟨rfl, hU3⟩
      go_wp2_with fail
      go_ret
      exact ⟨rfl, hE2.trans hU3⟩
    | true =>
      go_wp2_with fail
      refine (clives_any _).mono ?_
      rintro e w3 ⟨rfl, hU3⟩
      go_wp2_with fail
      go_ret
      exact ⟨rfl, hE2.trans hU3⟩
  · have h40I : ¬ (40 : Int) < (x.n : Int) := by omega
    cases t with
    | false =>
      go_wp2_with fail
      refine (clives_any _).mono ?_
      rintro e w3 ⟨rfl, hU3⟩
      go_wp2_with fail
      go_ret
      exact ⟨rfl, hE2.trans hU3⟩
    | true =>
      have hfw := fewC_out Ht.out.symm
      have hn8 : n ≤ 8 := by rw [← Hn.out]; exact hfw.1
      have hs40 : Hid (∀ j, j < cs.length → (gat cs j).n ≤ 1000) := hide fun j hj => Nat.le_trans (hfw.2 j hj) (by decide)
      have Hf := hide ((HL.out).fits Ht.out.symm)
      have Hn8 := hide hn8
      clear hfw hn8
      go_wp2_with fail
      refine (cchain_any A n c cs w2 (HL.out.ext hE2) Hn.out Hn8.out hs40).mono ?_
      rintro e w3 ⟨D, cD, F, cF, rfl, bd1, bd2, -, -, hS, -, hU3⟩
      have HS := hide hS
      have Hcd := hide (And.intro bd1 bd2)
      clear hS bd1 bd2
      obtain ⟨m, hm⟩ : ∃ m : Nat, IntKind.u64.wrap at_ = (m : Int) := ⟨(IntKind.u64.wrap at_).toNat, by rw [IntKind.wrap_u64]; omega⟩
      obtain ⟨k, hk⟩ : ∃ k, k = m % (n + 1) := ⟨_, rfl⟩
      have hkn : k ≤ n := by have := Nat.mod_lt m (show 0 < n + 1 by omega); omega
      have hk1 : (m : Int).tmod ((n : Int) + 1) = (k : Int) := by rw [Int.tmod_eq_emod_of_nonneg (by omega), hk]; rfl
      have hk2 : (m : Int) % ((n : Int) + 1) = (k : Int) := by rw [hk]; rfl
      have hn9 : n ≤ 8 := Hn8.out
      have hnz : ¬ (n : Int) + 1 = 0 := by omega
      clear hk
      go_upto_region 5 with fail
      go_cut [52] (fun t52 wx => t52 = .bool false ∧ Ext w3 wx)
      case first =>
        have hcut := fun w : World => run_cutz_h (P := Try.prog) (T := 64) (e := 72) (sz := 3) rfl (by kernel_rfl) D n cD k .i64 (by have := Hcd.out.1; omega) w
        have hlen := Hn.out
        go_wp2_with fail
        refine (ccheck_any D n cD 2 (cs.map Cl.st) w3 HS.out (by rw [List.length_map]; exact hlen) (by omega) Hf.out (by omega) (by omega)).mono ?_
        rintro e w4 ⟨rfl, hU4⟩
        rcases checkE_val (cs.map Cl.st) with h0 | h0 | h0
        · have h1 := checkE_take h0 k
          rw [h0]
          go_wp2_with fail
          refine (ccheck_any D k cD 2 ((cs.map Cl.st).take k) w4 ((HS.out.ext hU4).take k) (by rw [List.length_take, List.length_map, hlen]; omega) (by omega) (fun i hi => by
            rw [List.length_take] at hi
            rw [gat_take (by omega)]
            exact Hf.out i (by omega)) (by omega) (by omega)).mono ?_
          rintro e w5 ⟨rfl, hU5⟩
          rw [h1]
          go_wp2_with fail
          go_meet
          exact ⟨rfl, hU4.trans hU5⟩
        · rw [h0]
          go_wp2_with fail
          go_meet
          exact ⟨rfl, hU4⟩
        · rw [h0]
          go_wp2_with fail
          go_meet
          exact ⟨rfl, hU4⟩
      case rest =>
        obtain ⟨rfl, hcut⟩ := hcut
        have hE3 : Ext w wc := (hE2.trans hU3).trans hcut
        have HS4 := hide (HS.out.ext hcut)
        have HXo := hide (HX.out.ext hE3)
        have b4 := (b3.ext hU3).ext hcut
        have c0 := b4.cell0
        have c1 := b4.cell1
        have c2 := b4.cell2
        have HE3 := hide hE3
        clear hcut hU3 hE3 b4 b3 q2 HS hk1 hk2 hm hnz hE2
        go_wp2_with fail
        refine (cstep_any x.P x.n x.c x.N x.b x.ps wc HXo.out.1 HXo.out.2.1 HXo.out.2.2.1 HXo.out.2.2.2.1 HXo.out.2.2.2.2.1 (by omega) HXo.out.2.2.2.2.2.1 HXo.out.2.2.2.2.2.2).mono ?_
        rintro e w5 ⟨va, vb, rfl, hs1, hs2, hU5⟩
        obtain ⟨A1, l1, d1, A2, l2, d2, A3, l3, d3, rfl, -⟩ := id hs1
        obtain ⟨B1, m1, e1, B2, m2, e2, B3, m3', e3, rfl, -⟩ := id hs2
        have HV := hide hs1.step
        have HS5 := hide (HS4.out.ext hU5)
        have HE5 := hide (HE3.out.trans hU5)
        have hlen := Hn.out
        have hcut := fun w : World => run_cutz_h (P := Try.prog) (T := 64) (e := 72) (sz := 3) rfl (by kernel_rfl) D n cD k .i64 (by have := Hcd.out.1; omega) w
        clear hs1 hs2 hU5 c0 c1 c2 HS4 HE3
        go_wp2_with fail
        refine name_w (fun W6 hW6 => ?_)
        have t9 : Three W6 w5.heap.size 72 (.slice A1 l1 d1) (.slice A2 l2 d2) (.slice A3 l3 d3) := by rw [hW6]; exact (Three.new _ _ _ _ _).alloc _
        have hE6 : Ext w5 W6 := by rw [hW6]; exact ((Upd.refl _ _).alloc _).alloc _
        have HS6 := hide (HS5.out.ext hE6)
        have HV6 := hide (HV.out.ext hE6)
        have HE6 := hide (HE5.out.trans hE6)
        clear hW6 hE6 HV HE5 HS5
        obtain ⟨ss, hss⟩ : ∃ ss, ss = cs.map Cl.st := ⟨_, rfl⟩
        have hsn : ss.length = n := by rw [hss, List.length_map]; exact hlen
        have hFs : ∀ i, i < ss.length → FitS 2 (gat ss i) := by rw [hss]; exact Hf.out
        have hno : ss.any longB = false := by
          rw [List.any_eq_false]
          intro s0 hm0
          rw [hss] at hm0
          obtain ⟨y, hy, rfl⟩ := List.mem_map.1 hm0
          obtain ⟨i, hi, rfl⟩ := List.getElem_of_mem hy
          obtain ⟨b, o, -, -, -, -, g1, g2, g3, -⟩ := HL.out i hi
          have := longB_no (s := (gat cs i).st) g1.out g2.out g3.out
          rw [gat_lt hi] at this
          rw [this]
          decide
        have HS7 := HS6.out
        rw [← hss] at HS7
        have HS8 := hide HS7
        have Hsn := hide hsn
        have HFs := hide hFs
        have Hno := hide hno
        obtain ⟨s, hs⟩ : ∃ s : St, s = ⟨x.N, x.b, x.ps⟩ := ⟨_, rfl⟩
        have hFx : FitS 2 s := by rw [hs]; exact ⟨fit2 HXo.out.1.out, fit2 HXo.out.2.1.out, fun j hj => fit2 (HXo.out.2.2.1.out j hj), by have := HXo.out.2.2.2.2.1; show x.ps.length ≤ 100; omega⟩
        have hlx : longB s = false := by rw [hs]; exact longB_no HXo.out.1.out HXo.out.2.1.out HXo.out.2.2.1.out
        have hVx : StepV W6 (.agg #[.slice A1 l1 d1, .slice A2 l2 d2, .slice A3 l3 d3]) s.N s.b s.ps := by rw [hs]; exact HV6.out
        have HFx := hide hFx
        have Hlx := hide hlx
        have HVx := hide hVx
        clear hss HS6 HS7 hsn hFs hno hs hFx hlx hVx HV6 HXo Hf hs40 HL HX Hn hlen
        go_loopw [11, 62] (fun bv i wr => ∃ (q lq : Nat) (B : Option Addr) (cB : Nat) (tb : List Tri), q ≤ k ∧ lq = q ∧ i = .int .i64 (q : Int) ∧ bv = .slice B lq cB ∧ tb.length = lq ∧ Own wr W6.heap.size 37 B cB (tb.map svt) ∧ (∀ i, i < lq → NatV W6 (.agg #[svt (gat tb i)]) (gat ss i).N) ∧ Ext W6 wr) (fun _ i _ => k - (intOf i).toNat)
        case atStart => exact ⟨0, 0, none, 0, [], Nat.zero_le _, rfl, rfl, rfl, rfl, Own.nil, fun i hi => absurd hi (by omega), Upd.refl _ _⟩
        case round =>
          obtain ⟨q, lq, B, cB, tb, hq, hlq, rfl, rfl, htb, hOb, hNb, hE⟩ := hrel
          subst hlq
          have Htb := hide htb
          clear htb
          by_cases hqk : lq < k
          · have hqI : (lq : Int) < (k : Int) := by omega
            obtain ⟨b, o, Q1, p1, r1, Q2, p2, r2, Q3, p3, r3, rfl, q0, q1, q2, hV1, -⟩ := HS8.out lq (by rw [Hsn.out]; omega)
            replace q0 := hE.cellv q0
            replace q1 := hE.cellv q1
            replace q2 := hE.cellv q2
            have HV1 := hide hV1
            have HOb := hide hOb
            have HNb := hide hNb
            clear hV1 hOb hNb hcut
            go_wp2_with (at_builtin; refine name_l2 (fun W hW => ?_); have hEW : Ext wr W := (by rw [hW]; exact ((Upd.refl _ _).alloc _).alloc _); have hSW : Sl svt W (some ⟨wr.heap.size + 1, 0, none⟩) [((Q1, p1, r1) : Tri)] := (by rw [hW]; exact Sl.new_at svt [((Q1, p1, r1) : Tri)] (by simp) rfl); have HW := hide hW; clear hW; go_must (refine wpList_apd svt svt_one Try.n_elN tb [((Q1, p1, r1) : Tri)] (tb ++ [((Q1, p1, r1) : Tri)]) (lq + 1) rfl (by rw [List.length_append, Htb.out]; rfl) (by omega) (by unfold maxLen; omega) rfl rfl rfl Htb.out (HOb.out.ext hEW) rfl rfl hSW (hE.trans hEW).size ?_); intro A6 c6 w6 hO6 hU6 hin6)
            have hE6 : Ext W6 w6 := Upd.fresh hU6 (hE.trans hEW) (fun k hk => (HOb.out.in_ hk).1)
            have hN6 : ∀ i, i < lq + 1 → NatV W6 (.agg #[svt (gat (tb ++ [((Q1, p1, r1) : Tri)]) i)]) (gat ss i).N := fun i hi => by
              by_cases h : i < lq
              · rw [gat_append_left (by rw [Htb.out]; exact h)]
                exact HNb.out i h
              · obtain rfl : i = lq := by omega
                rw [gat_append_right (by rw [Htb.out]; exact Nat.le_refl _), Htb.out, Nat.sub_self]
                exact HV1.out
            have HN6 := hide hN6
            have HE6 := hide hE6
            have HO6 := hide hO6
            clear hN6 hE6 hO6 hU6 hin6 HOb hSW hEW HW HNb q0 q1 q2
            go_roundw
            case rel => exact ⟨lq + 1, lq + 1, A6, c6, tb ++ [((Q1, p1, r1) : Tri)], hqk, rfl, by go_num, rfl, by rw [List.length_append, Htb.out]; rfl, HO6.out, HN6.out, HE6.out⟩
            case measure => simp [intOf]; omega
          · obtain rfl : lq = k := by omega
            have hqI : ¬ (lq : Int) < (lq : Int) := by omega
            obtain ⟨bs, hbs⟩ : ∃ bs, bs = (ss.take lq).map St.N := ⟨_, rfl⟩
            have hbl : bs.length = lq := by rw [hbs, List.length_map, List.length_take, Hsn.out]; omega
            have hbg : ∀ i, i < lq → gat bs i = (gat ss i).N := fun i hi => by
              have h1 : i < ss.length := by rw [Hsn.out]; omega
              rw [hbs, gat_lt (by rw [List.length_map, List.length_take]; omega), List.getElem_map, List.getElem_take, gat_lt h1]
            have hLb : NatL wr B bs := ⟨tb, by rw [hbl]; exact Htb.out, hOb.sl, fun i hi => by rw [hbg i (by omega)]; exact (hNb i (by omega)).ext hE⟩
            have hFbs : FitL 2 bs := fun i hi => by rw [hbg i (by omega)]; exact (HFs.out i (by rw [Hsn.out]; omega)).1
            obtain ⟨X1, y1, z1, X2, y2, z2, X3, y3, z3, e, g1, g2, g3, g4, g5, g6⟩ := HVx.out
            injection e with e
            simp at e
            obtain ⟨⟨rfl, rfl, rfl⟩, ⟨rfl, rfl, rfl⟩, ⟨rfl, rfl, rfl⟩⟩ := e
            have t9r := t9.ext hE
            have c0 := t9r.cell0
            have c1 := t9r.cell1
            have c2 := t9r.cell2
            have G1 := hide g1
            have G2 := hide g2
            have G3 := hide g3
            have HE := hide hE
            have Hbs := hide hbs
            clear g1 g2 g3 hE hOb hNb hbg hbs
            go_wp2_with fail
            refine (choldsB_any A1 A2 A3 B l1 d1 l2 d2 l3 d3 lq cB s.N s.b 2 s.ps bs _ (G1.out.ext HE.out) (G2.out.ext HE.out) (G3.out.ext HE.out) g4 g5 g6 hLb hbl (by omega) HFx.out.1 HFx.out.2.1 HFx.out.2.2.1 hFbs (by omega) (by omega)).mono ?_
            rintro e w7 ⟨rfl, hU7⟩
            clear c0 c1 c2 hLb hFbs
            cases hh : holdsB s.N s.b s.ps bs with
            | true =>
              go_wp2_with fail
              go_ret
              exact ⟨rfl, HE6.out.trans (HE.out.trans hU7)⟩
            | false =>
              have Hh := hide hh
              clear hh
              have hd : Ext w7 w7.drew := (Upd.refl _ _).drew
              have hE7 : Ext W6 w7 := HE.out.trans hU7
              have hSt : StepL w7.drew D ss := HS8.out.ext (hE7.trans hd)
              have hk9 : n ≤ 8 := Hn8.out
              have srcA : Src w7.drew w7.drew D lq (ss.take lq) := (hSt.take lq).src (Upd.refl _ _) (by rw [List.length_take, Hsn.out]; omega)
              have srcB : Src w7.drew w7.drew (shZ D cD lq 3) (n - lq) (ss.drop lq) := (hSt.dropz lq (by rw [Hsn.out]; exact Hcd.out.1)).src (Upd.refl _ _) (by rw [List.length_drop, Hsn.out])
              have hVs : StepV w7.drew (m3 ((A1, l1, d1), (A2, l2, d2), (A3, l3, d3))) s.N s.b s.ps := HVx.out.ext (hE7.trans hd)
              have SA := hide srcA
              have SB := hide srcB
              have VS := hide hVs
              have HE7 := hide hE7
              have hcutl := fun w : World => run_cutz_l (P := Try.prog) (T := 64) (e := 72) (sz := 3) rfl (by kernel_rfl) D n cD lq .i64 hkn w
              have t9s := (t9r.ext hU7).drew
              have k0 := fun z : Wd (Ext w7.drew) => (z.ok.cell (p := ⟨w5.heap.size, 0, none⟩) t9s.lt (fun h => h)).trans t9s.cell0
              have k1 := fun z : Wd (Ext w7.drew) => (z.ok.cell (p := ⟨w5.heap.size, 1, none⟩) t9s.lt (fun h => h)).trans t9s.cell1
              have k2 := fun z : Wd (Ext w7.drew) => (z.ok.cell (p := ⟨w5.heap.size, 2, none⟩) t9s.lt (fun h => h)).trans t9s.cell2
              clear srcA srcB hVs hSt hE7 hd hU7 t9r
              go_upto_region 16 with fail
              go_cut [14] (fun s14 wx => ∃ (A' : Option Addr) (c' : Nat), s14 = .slice A' (n + 1) c' ∧ StepL wx A' (ss.take lq ++ [s] ++ ss.drop lq) ∧ Ext w7 wx)
              case first =>
                refine wp_region_tree (Ext _) 12 (.q 1 (.q 2 (.q 3 (.q 5 (.q 8 (.q 9 (.q 10 (.two 0 6 (.two 4 6 (.l 6 (.l 7 (.l 11 .done))) (.l 4 (.l 7 (.l 11 .done)))) (.l 0 (.l 4 (.l 7 (.l 11 .done)))))))))))) (by kernel_rfl) (by kernel_rfl) (Upd.refl _ _) (fun hne => ?_)
                repeat (refine tree_q rfl (fun K hK => ?_); go_simp; refine hK _ ?_; clear hK K)
                refine tree_two rfl rfl ?_ ?_
                · go_wp2_with fail
                  refine ⟨_, fun _ h => h, ⟨⟨_, ((Upd.refl _ _).alloc _)⟩, rfl⟩, ?_⟩
                  repeat (refine tree_q rfl (fun K hK => ?_); go_simp; refine hK _ ?_; clear hK K)
                  refine tree_two rfl rfl ?_ ?_
                  · refine wpList_aps (xs := []) (ys := ss.take lq) (zs := ss.take lq) (n := 0) (m := lq) (N := lq) (Stk.new (Upd.refl _ _) _ rfl) (SA.out.ext ((Upd.refl _ _).alloc _)) rfl (by omega) (by omega) ((Upd.refl _ _).alloc _) rfl rfl rfl rfl ?_
                    intro A4 c4 w4 hS4 hE4 hU4 hin4
                    go_wp2_with fail
                    refine ⟨_, fun _ h => h, ⟨⟨_, hE4⟩, rfl⟩, ?_⟩
                    repeat (refine tree_q rfl (fun K hK => ?_); go_simp; refine hK _ ?_; clear hK K)
                    refine tree_l rfl ?_
                    go_wp2_with fail
                    refine ⟨_, fun _ h => h, ⟨⟨_, (hE4.alloc _)⟩, rfl⟩, ?_⟩
                    repeat (refine tree_q rfl (fun K hK => ?_); go_simp; refine hK _ ?_; clear hK K)
                    refine tree_l rfl ?_
                    refine wpList_aps (xs := ss.take lq) (ys := [s]) (zs := ss.take lq ++ [s]) (n := lq) (m := 1) (N := lq + 1) (hS4.ext ((Upd.refl _ _).alloc _)) (Src.one (Three.new _ _ _ _ _) VS.out) rfl rfl (by omega) (hE4.alloc _) rfl rfl rfl rfl ?_
                    intro A7 c7 w7' hS7 hE7' hU7 hin7
                    go_wp2_with fail
                    refine ⟨_, fun _ h => h, ⟨⟨_, hE7'⟩, rfl⟩, ?_⟩
                    repeat (refine tree_q rfl (fun K hK => ?_); go_simp; refine hK _ ?_; clear hK K)
                    refine tree_l rfl ?_
                    refine wpList_aps (zs := ss.take lq ++ [s] ++ ss.drop lq) (N := n + 1) hS7 (SB.out.ext hE7') rfl (by omega) (by omega) hE7' rfl rfl rfl rfl ?_
                    intro A8 c8 w8 hS8 hE8 hU8 hin8
                    go_wp2_with fail
                    refine ⟨_, fun _ h => h, ⟨⟨_, hE8⟩, rfl⟩, ?_⟩
                    repeat (refine tree_q rfl (fun K hK => ?_); go_simp; refine hK _ ?_; clear hK K)
                    refine tree_done ?_
                    try simp only [List.drop_succ_cons, List.drop_zero]
                    go_wp2_with fail
                    go_meet
                    exact ⟨_, _, rfl, hS8.steps hE8, hE8.undrew⟩
                  · go_wp2_with fail
                    refine ⟨_, fun _ h => h, ⟨⟨_, (((Upd.refl _ _).alloc _).alloc _)⟩, rfl⟩, ?_⟩
                    repeat (refine tree_q rfl (fun K hK => ?_); go_simp; refine hK _ ?_; clear hK K)
                    refine tree_l rfl ?_
                    refine wpList_aps (xs := []) (ys := ss.take lq) (zs := ss.take lq) (n := 0) (m := lq) (N := lq) ((Stk.new (Upd.refl _ _) _ rfl).ext ((Upd.refl _ _).alloc _)) (SA.out.ext (((Upd.refl _ _).alloc _).alloc _)) rfl (by omega) (by omega) (((Upd.refl _ _).alloc _).alloc _) rfl rfl rfl rfl ?_
                    intro A4 c4 w4 hS4 hE4 hU4 hin4
                    go_wp2_with fail
                    refine ⟨_, fun _ h => h, ⟨⟨_, hE4⟩, rfl⟩, ?_⟩
                    repeat (refine tree_q rfl (fun K hK => ?_); go_simp; refine hK _ ?_; clear hK K)
                    refine tree_l rfl ?_
                    refine wpList_aps (xs := ss.take lq) (ys := [s]) (zs := ss.take lq ++ [s]) (n := lq) (m := 1) (N := lq + 1) hS4 (Src.one ((Three.new_at (by simp)).upd hU4 (by simp [inA])) VS.out) rfl rfl (by omega) hE4 rfl rfl rfl rfl ?_
                    intro A7 c7 w7' hS7 hE7' hU7 hin7
                    go_wp2_with fail
                    refine ⟨_, fun _ h => h, ⟨⟨_, hE7'⟩, rfl⟩, ?_⟩
                    repeat (refine tree_q rfl (fun K hK => ?_); go_simp; refine hK _ ?_; clear hK K)
                    refine tree_l rfl ?_
                    refine wpList_aps (zs := ss.take lq ++ [s] ++ ss.drop lq) (N := n + 1) hS7 (SB.out.ext hE7') rfl (by omega) (by omega) hE7' rfl rfl rfl rfl ?_
                    intro A8 c8 w8 hS8 hE8 hU8 hin8
                    go_wp2_with fail
                    refine ⟨_, fun _ h => h, ⟨⟨_, hE8⟩, rfl⟩, ?_⟩
                    repeat (refine tree_q rfl (fun K hK => ?_); go_simp; refine hK _ ?_; clear hK K)
                    refine tree_done ?_
                    try simp only [List.drop_succ_cons, List.drop_zero]
                    go_wp2_with fail
                    go_meet
                    exact ⟨_, _, rfl, hS8.steps hE8, hE8.undrew⟩
                · go_wp2_with fail
                  refine ⟨_, fun _ h => h, ⟨⟨_, ((Upd.refl _ _).alloc _)⟩, rfl⟩, ?_⟩
                  repeat (refine tree_q rfl (fun K hK => ?_); go_simp; refine hK _ ?_; clear hK K)
                  refine tree_l rfl ?_
                  go_wp2_with fail
                  refine ⟨_, fun _ h => h, ⟨⟨_, (((Upd.refl _ _).alloc _).alloc _)⟩, rfl⟩, ?_⟩
                  repeat (refine tree_q rfl (fun K hK => ?_); go_simp; refine hK _ ?_; clear hK K)
                  refine tree_l rfl ?_
                  refine wpList_aps (xs := []) (ys := ss.take lq) (zs := ss.take lq) (n := 0) (m := lq) (N := lq) (Stk.new ((Upd.refl _ _).alloc _) _ (by simp)) (SA.out.ext (((Upd.refl _ _).alloc _).alloc _)) rfl (by omega) (by omega) (((Upd.refl _ _).alloc _).alloc _) rfl rfl rfl rfl ?_
                  intro A4 c4 w4 hS4 hE4 hU4 hin4
                  go_wp2_with fail
                  refine ⟨_, fun _ h => h, ⟨⟨_, hE4⟩, rfl⟩, ?_⟩
                  repeat (refine tree_q rfl (fun K hK => ?_); go_simp; refine hK _ ?_; clear hK K)
                  have t6 : Three w4 w7.heap.size 72 (.slice A1 l1 d1) (.slice A2 l2 d2) (.slice A3 l3 d3) := ((Three.new w7.drew 72 (.slice A1 l1 d1) (.slice A2 l2 d2) (.slice A3 l3 d3)).alloc (.cells #[] 72)).upd hU4 (fun h => by simp [inA] at h)
                  refine tree_l rfl ?_
                  refine wpList_aps (xs := ss.take lq) (ys := [s]) (zs := ss.take lq ++ [s]) (n := lq) (m := 1) (N := lq + 1) hS4 (Src.one t6 VS.out) rfl rfl (by omega) hE4 rfl rfl rfl rfl ?_
                  intro A7 c7 w7' hS7 hE7' hU7 hin7
                  go_wp2_with fail
                  refine ⟨_, fun _ h => h, ⟨⟨_, hE7'⟩, rfl⟩, ?_⟩
                  repeat (refine tree_q rfl (fun K hK => ?_); go_simp; refine hK _ ?_; clear hK K)
                  refine tree_l rfl ?_
                  refine wpList_aps (zs := ss.take lq ++ [s] ++ ss.drop lq) (N := n + 1) hS7 (SB.out.ext hE7') rfl (by omega) (by omega) hE7' rfl rfl rfl rfl ?_
                  intro A8 c8 w8 hS8 hE8 hU8 hin8
                  go_wp2_with fail
                  refine ⟨_, fun _ h => h, ⟨⟨_, hE8⟩, rfl⟩, ?_⟩
                  repeat (refine tree_q rfl (fun K hK => ?_); go_simp; refine hK _ ?_; clear hK K)
                  refine tree_done ?_
                  try simp only [List.drop_succ_cons, List.drop_zero]
                  go_wp2_with fail
                  go_meet
                  exact ⟨_, _, rfl, hS8.steps hE8, hE8.undrew⟩
              case rest =>
                obtain ⟨A', c', rfl, hSL, hEc⟩ := hcut
                have HSL := hide hSL
                have HEc := hide (HE6.out.trans (HE7.out.trans hEc))
                clear hSL hEc k0 k1 k2 t9s SA SB VS G1 G2 G3 HE HE7 HE6 HS8 hcutl
                go_wp2_with fail
                refine name_c (fun W8 hW8 => ?_)
                have t15 : Three W8 wc.heap.size 72 (.slice none 0 0) (.slice none 0 0) (.slice none 0 0) := by rw [hW8]; exact (Three.new _ _ _ _ _).alloc _
                have hS1 : Sl by8 W8 (some ⟨wc.heap.size + 1, 0, none⟩) [1#8] := by rw [hW8]; exact Sl.new_at by8 [1#8] (by simp) rfl
                have hE8 : Ext wc W8 := by rw [hW8]; exact ((Upd.refl _ _).alloc _).alloc _
                clear hW8
                refine (from_any _ 1 1 [1#8] _ rfl (by omega) hS1).mono ?_
                rintro e w10 ⟨P1, p1, r1, rfl, hV1, hU10⟩
                have t15 := t15.ext hU10
                have c0 := t15.cell0
                have f0 := t15.frozen 0
                go_wp2_with fail
                refine name_c (fun W11 hW11 => ?_)
                have u15 : Three W11 wc.heap.size 72 (.slice P1 p1 r1) (.slice none 0 0) (.slice none 0 0) := by rw [hW11]; exact t15.set0 _
                have hE11 : Ext wc W11 := by rw [hW11]; exact Upd.setCell (hE8.trans hU10) (.inr (Nat.le_refl _)) _
                have hV11 : NatV W11 (.agg #[.slice P1 p1 r1]) (ofB [1#8]) := by rw [hW11]; exact hV1.far c0
                clear hW11 c0 f0 t15 hS1 hE8 hU10 hV1
                refine (new_any 9223372036854775808 _ (by omega)).mono ?_
                rintro e w12 ⟨P2, p2, r2, rfl, hV2, hU12⟩
                have t15 := u15.ext hU12
                have c1 := t15.cell1
                have f1 := t15.frozen 1
                go_wp2_with fail
                refine name_w (fun W13 hW13 => ?_)
                have v15 : Three W13 wc.heap.size 72 (.slice P1 p1 r1) (.slice P2 p2 r2) (.slice none 0 0) := by rw [hW13]; exact t15.set1 _
                have hE13 : Ext wc W13 := by rw [hW13]; exact Upd.setCell (hE11.trans hU12) (.inr (Nat.le_refl _)) _
                have hV13 : NatV W13 (.agg #[.slice P1 p1 r1]) (ofB [1#8]) := by rw [hW13]; exact (hV11.ext hU12).far c1
                have hB13 : NatV W13 (.agg #[.slice P2 p2 r2]) (lgN 0) := by rw [hW13, lgN_zero]; exact hV2.far c1
                clear hW13 c1 f1 t15 hE11 hU12 hV11 u15 hV2
                go_loopw [95] (fun i wr => ∃ (j : Nat) (B : Option Addr) (l c : Nat), j ≤ 5 ∧ i = .int .i64 (j : Int) ∧ Three wr wc.heap.size 72 (.slice P1 p1 r1) (.slice B l c) (.slice none 0 0) ∧ NatV wr (.agg #[.slice B l c]) (lgN j) ∧ NatV wr (.agg #[.slice P1 p1 r1]) (ofB [1#8]) ∧ Ext wc wr) (fun i _ => 5 - (intOf i).toNat)
                case atStart => exact ⟨0, _, _, _, Nat.zero_le _, rfl, v15, hB13, hV13, hE13⟩
                case round =>
                  clear v15 hB13 hV13 hE13
                  obtain ⟨j, L, l, c3, hj, rfl, t15, hB, hV1, hE15⟩ := hrel
                  by_cases hj5 : j < 5
                  · have hjI : (j : Int) < 5 := by omega
                    have c1 := t15.cell1
                    go_wp2_with fail
                    refine (mul_any _ _ (lgN j) (lgN j) 64 _ hB hB (lgN_fit j (by omega)) (lgN_fit j (by omega)) (by omega)).mono ?_
                    rintro e w16 ⟨M, m, cm, rfl, hM, hU16⟩
                    rw [lgN_succ] at hM
                    have u15 := t15.ext hU16
                    have d1 := u15.cell1
                    have f1 := u15.frozen 1
                    clear c1
                    go_wp2_with fail
                    go_roundw
                    case rel => exact ⟨j + 1, _, _, _, by omega, by go_num, u15.set1 _, hM.far d1, (hV1.ext hU16).far d1, Upd.setCell (hE15.trans hU16) (.inr (Nat.le_refl _)) _⟩
                    case measure => simp [intOf]; omega
                  · obtain rfl : j = 5 := by omega
                    have hlen : (ss.take lq ++ [s] ++ ss.drop lq).length = n + 1 := by rw [List.length_append, List.length_append, List.length_take, List.length_drop, Hsn.out]; show min lq n + 1 + (n - lq) = n + 1; omega
                    have hbad : checkE (ss.take lq ++ [s] ++ ss.drop lq) = 8 := checkE_bad (by rw [Hsn.out]; exact Hn8.out) Hno.out Hlx.out (by rw [← Hbs.out]; exact Hh.out)
                    have HB := hide hB
                    have HV1 := hide hV1
                    have Hbad := hide hbad
                    clear hB hV1 hbad
                    go_wp2_with fail
                    refine (ccheck_any A' (n + 1) c' 2 _ _ (HSL.out.ext hE15) hlen (by have := Hn8.out; omega) (fitS_mid HFs.out HFx.out) (by omega) (by omega)).mono ?_
                    rintro e w17 ⟨rfl, hU17⟩
                    rw [Hbad.out]
                    have u15 := t15.ext hU17
                    have c0 := u15.cell0
                    have c1 := u15.cell1
                    have c2 := u15.cell2
                    go_wp2_with fail
                    refine name_c (fun W18 hW18 => ?_)
                    have t18 : Three W18 w17.heap.size 72 (.slice P1 p1 r1) (.slice L l c3) (.slice none 0 0) := by rw [hW18]; exact Three.new _ _ _ _ _
                    have hE18 : Ext w17 W18 := by rw [hW18]; exact (Upd.refl _ _).alloc _
                    clear hW18
                    have hSL18 : StepL W18 (some ⟨w17.heap.size, 0, none⟩) [(⟨ofB [1#8], lgN 5, []⟩ : St)] := fun i hi => by
                      obtain rfl : i = 0 := by simp at hi; exact hi
                      exact ⟨_, 0, P1, p1, r1, L, l, c3, none, 0, 0, rfl, t18.cell0, t18.cell1, t18.cell2, (HV1.out.ext hU17).ext hE18, (HB.out.ext hU17).ext hE18, ⟨[], rfl, fun i hi => absurd hi (by simp), fun i hi => absurd hi (Nat.not_lt_zero _)⟩, rfl, Nat.le_refl _, Nat.zero_le _⟩
                    refine (ccheck_any (some ⟨w17.heap.size, 0, none⟩) 1 1 64 [⟨ofB [1#8], lgN 5, []⟩] _ hSL18 rfl (by omega) (fun i hi => by
                      obtain rfl : i = 0 := by simp at hi; exact hi
                      exact ⟨Nat.lt_of_le_of_lt (show ofB [1#8] ≤ 1 by decide) (by decide), lgN_fit 5 (by omega), fun j hj => absurd hj (Nat.not_lt_zero _), Nat.zero_le _⟩) (by omega) (by omega)).mono ?_
                    rintro e w19 ⟨rfl, hU19⟩
                    rw [checkE_long lgN_long]
                    go_wp2_with fail
                    go_ret
                    exact ⟨rfl, HEc.out.trans (hE15.trans (hU17.trans (hE18.trans hU19)))⟩
end Go.Proofs.Ytpffdpieciaooaa
