/- CertChecks, walked. -/
import Derived.Test.YtpffdpieciaooaaCertX
import Derived.Test.YtpffdpieciaooaaCertK
namespace Go.Proofs.Ytpffdpieciaooaa
set_option linter.unusedSimpArgs false
set_option linter.unusedVariables false
open Go.RowKit
open Nt Pk
attribute [local go_sem] steady steadyUpon Cls same_cell anyW
attribute [local irreducible] wpHead wpTree wpHeadR
theorem checkE_eq {ss : List St} (h1 : ss.length ≤ 64) (h2 : ss.any longB = false) : checkE ss = if holdAll [] ss = true then 0 else 8 := by
  unfold checkE
  rw [if_neg (fun h => h.elim (fun h => by omega) (fun h => by rw [h2] at h; cases h))]
theorem any_st (cs : List Cl) (N : Nat) : ((cs.map Cl.st).any fun s => s.N == N) = cs.any fun x => x.N == N := by
  rw [List.any_map]; rfl
set_option maxRecDepth 100000 in
set_option maxHeartbeats 8000000 in
theorem cchecks_any (A : Option Addr) (n c N : Nat) (cs : List Cl) (w : World) (hL : ClL w A cs) (hn : cs.length = n) (hn2 : n ≤ 9223372036854775807) (hN : N < 18446744073709551616) :
    Calls Try.prog 9 #[.slice A n c, .int .u64 (N : Int)] w fun e w' => e = .returned (.bool true) ∧ Ext w w' := by
  have Hn := hide hn
  have HL := hide hL
  have HN := hide hN
  have Hn2 := hide hn2
  obtain ⟨t, ht⟩ : ∃ t, t = fewC cs := ⟨_, rfl⟩
  have Ht := hide ht
  clear hn hL ht hN hn2
  go_enter Try.func9, Try.ntmps9
  go_wp2_with fail
  refine (clives_any _).mono ?_
  rintro e w1 ⟨rfl, hU1⟩
  go_wp2_with fail
  refine (cfew_any A n c cs w1 (HL.out.ext hU1) Hn.out Hn2.out).mono ?_
  rintro e w2 ⟨rfl, hU2⟩
  rw [← Ht.out]
  have hE2 := hU1.trans hU2
  clear hU1 hU2
  cases t with
  | false =>
    go_wp2_with fail
    refine (clives_any _).mono ?_
    rintro e w3 ⟨rfl, hU3⟩
    go_wp2_with fail
    go_ret
    exact ⟨rfl, hE2.trans hU3⟩
  | true =>
    have hfw := fewC_out Ht.out.symm
    have hn8 : n ≤ 8 := by rw [← Hn.out]; exact hfw.1
    have h40 : Hid (∀ j, j < cs.length → (gat cs j).n ≤ 1000) := hide fun j hj => Nat.le_trans (hfw.2 j hj) (by decide)
    have hf := (HL.out).fits Ht.out.symm
    have Hn8 := hide hn8
    have hno := anyLong_no HL.out
    have hst := any_st cs N
    obtain ⟨ss, hss⟩ : ∃ ss, ss = cs.map Cl.st := ⟨_, rfl⟩
    have hsl : ss.length = n := by rw [hss, List.length_map]; exact Hn.out
    rw [← hss] at hf hno hst
    have hce := checkE_eq (ss := ss) (by omega) hno
    have Hf := hide hf
    have Hst := hide hst
    have Hss := hide hss
    obtain ⟨ho, hho⟩ : ∃ ho, ho = holdAll [] ss := ⟨_, rfl⟩
    rw [← hho] at hce
    obtain ⟨z, hz⟩ : ∃ z : Int, z = if ho = true then 0 else 8 := ⟨_, rfl⟩
    rw [← hz] at hce
    have Hce := hide hce
    have Hz := hide hz
    have Hho := hide hho
    clear hfw hn8 hf hno hst hss hce hho hz
    go_wp2_with fail
    refine (cchain_any A n c cs w2 (HL.out.ext hE2) Hn.out Hn8.out h40).mono ?_
    rintro e w3 ⟨D, cD, F, cF, rfl, -, -, -, -, hS, hR, hU3⟩
    rw [← Hss.out] at hS hR
    have HS := hide hS
    have HR := hide hR
    clear hS hR
    go_wp2_with fail
    refine (ccheck_any D n cD 2 ss w3 HS.out hsl (by have := Hn8.out; omega) Hf.out (by omega) (by omega)).mono ?_
    rintro e w4 ⟨rfl, hU4⟩
    rw [Hce.out]
    go_wp2_with fail
    refine (rcheck_any F n cF 2 ss w4 (HR.out.ext hU4) hsl (by have := Hn8.out; omega) Hf.out (by omega) (by omega)).mono ?_
    rintro e w5 ⟨rfl, hU5⟩
    rw [← Hho.out]
    have HS5 := hide ((HS.out.ext hU4).ext hU5)
    have HE5 := hide (((hE2.trans hU3).trans hU4).trans hU5)
    clear hE2 hU3 hU4 hU5 HS HR
    go_wp2_with fail
    go_loopw [9, 32] (fun th i wr => ∃ (q : Nat) (tb : Bool), q ≤ n ∧ i = .int .i64 (q : Int) ∧ th = .bool tb ∧ tb = ((cs.take q).any fun x => x.N == N) ∧ Ext w5 wr) (fun _ i _ => n - (intOf i).toNat)
    case atStart => exact ⟨0, false, Nat.zero_le _, rfl, rfl, rfl, Upd.refl _ _⟩
    case round =>
      obtain ⟨q, tb, hq, rfl, rfl, htb, hE⟩ := hrel
      have hn8 : n ≤ 8 := Hn8.out
      have Htb := hide htb
      clear htb
      by_cases hlt : q < n
      · have hltI : (q : Int) < (n : Int) := by omega
        obtain ⟨b, o, rfl, q0, q1, q2, hok⟩ := (HL.out.ext (HE5.out.trans hE)) q (by rw [Hn.out]; exact hlt)
        obtain ⟨x, hx⟩ : ∃ x, x = gat cs q := ⟨_, rfl⟩
        have hx64 : x.N < 18446744073709551616 := by rw [hx]; exact hok.1.out
        rw [← hx] at q0 q1 q2
        obtain ⟨k, hk⟩ : ∃ k, k = x.N := ⟨_, rfl⟩
        rw [← hk] at q0 hx64
        have Hx := hide hx
        have Hk := hide hk
        have htk : ((cs.take (q + 1)).any fun x => x.N == N) = (tb || (k == N)) := by
          rw [any_take _ (by rw [Hn.out]; exact hlt), Htb.out, Hk.out, Hx.out]
        have Htk := hide htk
        clear hx hk hok htk
        cases tb with
        | true =>
          go_wp2_with fail
          go_roundw
          case rel => exact ⟨q + 1, true, by omega, by go_num, rfl, by rw [Htk.out]; rfl, hE.alloc _⟩
          case measure => simp [intOf]; omega
        | false =>
          by_cases hkN : k = N
          · have hkI : ((k : Int) == (N : Int)) = true := beq_iff_eq.2 (by omega)
            have hkI2 : (k : Int) = (N : Int) := by omega
            have Hkb : Hid ((k == N) = true) := hide (beq_iff_eq.2 hkN)
            clear hkN
            go_wp2_with fail
            go_roundw
            case rel => exact ⟨q + 1, true, by omega, by go_num, by first | rfl | (simp; omega), by rw [Htk.out, Hkb.out]; rfl, hE.alloc _⟩
            case measure => simp [intOf]; omega
          · have hkI : ((k : Int) == (N : Int)) = false := beq_eq_false_iff_ne.2 (by omega)
            have Hkb : Hid ((k == N) = false) := hide (beq_eq_false_iff_ne.2 hkN)
            clear hkN
            go_wp2_with fail
            go_roundw
            case rel => exact ⟨q + 1, false, by omega, by go_num, by first | rfl | (simp; omega), by rw [Htk.out, Hkb.out]; rfl, hE.alloc _⟩
            case measure => simp [intOf]; omega
      · obtain rfl : q = n := by omega
        have hltI : ¬ (q : Int) < (q : Int) := by omega
        obtain ⟨sm, hsm⟩ : ∃ sm, sm = smallB N := ⟨_, rfl⟩
        have hpr : primeB N ss = (sm || (ho && tb)) := by
          unfold primeB
          rw [hsm, Hst.out, Htb.out, List.take_of_length_le (by rw [Hn.out]; exact Nat.le_refl _)]
          have := Hce.out.trans Hz.out
          cases ho with
          | true => rw [if_pos rfl] at this; rw [this]; rfl
          | false => rw [if_neg (by decide)] at this; rw [this]; rfl
        have Hsm := hide hsm
        have Hpr := hide hpr
        clear hsm hpr
        have h64 : blen N ≤ 64 := blen_le_iff.2 HN.out
        go_wp2_with fail
        refine (rsmall_any N _ HN.out).mono ?_
        rintro e w6a ⟨A0, l0, c0, rfl, hV0, hU6a⟩
        go_wp2_with fail
        refine (rsmallp_any _ N 64 _ hV0 h64 (by omega)).mono ?_
        rintro e w6 ⟨rfl, hU6⟩
        rw [← Hsm.out]
        have hE6 := (hE.trans hU6a).trans hU6
        have HS6 := hide (HS5.out.ext hE6)
        have HE6 := hide (HE5.out.trans hE6)
        clear hE hU6a hU6 hE6 HS5 HE5 hV0 h64
        cases ho with
        | true =>
          obtain rfl : z = 0 := Hz.out.trans (if_pos rfl)
          cases sm with
          | true =>
            cases tb with
            | true =>
              go_wp2_with fail
              refine (new_any N _ HN.out).mono ?_
              rintro e w7 ⟨A1, l1, c1, rfl, hV1, hU7⟩
              go_wp2_with fail
              refine (cprime_any (.agg #[.slice A1 l1 c1]) N 2 D q cD ss w7 hV1 (fit2 HN.out) (HS6.out.ext hU7) hsl (by have := Hn8.out; omega) Hf.out (by omega) (by omega)).mono ?_
              rintro e w8 ⟨rfl, hU8⟩
              have hpb : primeB N ss = true := Hpr.out
              rw [hpb]
              clear hpb
              go_wp2_with fail
              refine (new_any N _ HN.out).mono ?_
              rintro e w9 ⟨A2, l2, c2, rfl, hV2, hU9⟩
              go_wp2_with fail
              refine (csmall_any _ N _ hV2).mono ?_
              rintro e w10 ⟨rfl, hU10⟩
              rw [← Hsm.out]
              go_wp2_with fail
              go_ret
              exact ⟨rfl, HE6.out.trans (hU7.trans (hU8.trans (hU9.trans hU10)))⟩
            | false =>
              go_wp2_with fail
              refine (new_any N _ HN.out).mono ?_
              rintro e w7 ⟨A1, l1, c1, rfl, hV1, hU7⟩
              go_wp2_with fail
              refine (cprime_any (.agg #[.slice A1 l1 c1]) N 2 D q cD ss w7 hV1 (fit2 HN.out) (HS6.out.ext hU7) hsl (by have := Hn8.out; omega) Hf.out (by omega) (by omega)).mono ?_
              rintro e w8 ⟨rfl, hU8⟩
              have hpb : primeB N ss = true := Hpr.out
              rw [hpb]
              clear hpb
              go_wp2_with fail
              refine (new_any N _ HN.out).mono ?_
              rintro e w9 ⟨A2, l2, c2, rfl, hV2, hU9⟩
              go_wp2_with fail
              refine (csmall_any _ N _ hV2).mono ?_
              rintro e w10 ⟨rfl, hU10⟩
              rw [← Hsm.out]
              go_wp2_with fail
              go_ret
              exact ⟨rfl, HE6.out.trans (hU7.trans (hU8.trans (hU9.trans hU10)))⟩
          | false =>
            cases tb with
            | true =>
              go_wp2_with fail
              refine (new_any N _ HN.out).mono ?_
              rintro e w7 ⟨A1, l1, c1, rfl, hV1, hU7⟩
              go_wp2_with fail
              refine (cprime_any (.agg #[.slice A1 l1 c1]) N 2 D q cD ss w7 hV1 (fit2 HN.out) (HS6.out.ext hU7) hsl (by have := Hn8.out; omega) Hf.out (by omega) (by omega)).mono ?_
              rintro e w8 ⟨rfl, hU8⟩
              have hpb : primeB N ss = true := Hpr.out
              rw [hpb]
              clear hpb
              go_wp2_with fail
              refine (new_any N _ HN.out).mono ?_
              rintro e w9 ⟨A2, l2, c2, rfl, hV2, hU9⟩
              go_wp2_with fail
              refine (csmall_any _ N _ hV2).mono ?_
              rintro e w10 ⟨rfl, hU10⟩
              rw [← Hsm.out]
              go_wp2_with fail
              go_ret
              exact ⟨rfl, HE6.out.trans (hU7.trans (hU8.trans (hU9.trans hU10)))⟩
            | false =>
              go_wp2_with fail
              refine (new_any N _ HN.out).mono ?_
              rintro e w7 ⟨A1, l1, c1, rfl, hV1, hU7⟩
              go_wp2_with fail
              refine (cprime_any (.agg #[.slice A1 l1 c1]) N 2 D q cD ss w7 hV1 (fit2 HN.out) (HS6.out.ext hU7) hsl (by have := Hn8.out; omega) Hf.out (by omega) (by omega)).mono ?_
              rintro e w8 ⟨rfl, hU8⟩
              have hpb : primeB N ss = false := Hpr.out
              rw [hpb]
              clear hpb
              go_wp2_with fail
              refine (new_any N _ HN.out).mono ?_
              rintro e w9 ⟨A2, l2, c2, rfl, hV2, hU9⟩
              go_wp2_with fail
              refine (csmall_any _ N _ hV2).mono ?_
              rintro e w10 ⟨rfl, hU10⟩
              rw [← Hsm.out]
              go_wp2_with fail
              go_ret
              exact ⟨rfl, HE6.out.trans (hU7.trans (hU8.trans (hU9.trans hU10)))⟩
        | false =>
          obtain rfl : z = 8 := Hz.out.trans (if_neg (by decide))
          cases sm with
          | true =>
            cases tb with
            | true =>
              go_wp2_with fail
              refine (new_any N _ HN.out).mono ?_
              rintro e w7 ⟨A1, l1, c1, rfl, hV1, hU7⟩
              go_wp2_with fail
              refine (cprime_any (.agg #[.slice A1 l1 c1]) N 2 D q cD ss w7 hV1 (fit2 HN.out) (HS6.out.ext hU7) hsl (by have := Hn8.out; omega) Hf.out (by omega) (by omega)).mono ?_
              rintro e w8 ⟨rfl, hU8⟩
              have hpb : primeB N ss = true := Hpr.out
              rw [hpb]
              clear hpb
              go_wp2_with fail
              refine (new_any N _ HN.out).mono ?_
              rintro e w9 ⟨A2, l2, c2, rfl, hV2, hU9⟩
              go_wp2_with fail
              refine (csmall_any _ N _ hV2).mono ?_
              rintro e w10 ⟨rfl, hU10⟩
              rw [← Hsm.out]
              go_wp2_with fail
              go_ret
              exact ⟨rfl, HE6.out.trans (hU7.trans (hU8.trans (hU9.trans hU10)))⟩
            | false =>
              go_wp2_with fail
              refine (new_any N _ HN.out).mono ?_
              rintro e w7 ⟨A1, l1, c1, rfl, hV1, hU7⟩
              go_wp2_with fail
              refine (cprime_any (.agg #[.slice A1 l1 c1]) N 2 D q cD ss w7 hV1 (fit2 HN.out) (HS6.out.ext hU7) hsl (by have := Hn8.out; omega) Hf.out (by omega) (by omega)).mono ?_
              rintro e w8 ⟨rfl, hU8⟩
              have hpb : primeB N ss = true := Hpr.out
              rw [hpb]
              clear hpb
              go_wp2_with fail
              refine (new_any N _ HN.out).mono ?_
              rintro e w9 ⟨A2, l2, c2, rfl, hV2, hU9⟩
              go_wp2_with fail
              refine (csmall_any _ N _ hV2).mono ?_
              rintro e w10 ⟨rfl, hU10⟩
              rw [← Hsm.out]
              go_wp2_with fail
              go_ret
              exact ⟨rfl, HE6.out.trans (hU7.trans (hU8.trans (hU9.trans hU10)))⟩
          | false =>
            cases tb with
            | true =>
              go_wp2_with fail
              refine (new_any N _ HN.out).mono ?_
              rintro e w7 ⟨A1, l1, c1, rfl, hV1, hU7⟩
              go_wp2_with fail
              refine (cprime_any (.agg #[.slice A1 l1 c1]) N 2 D q cD ss w7 hV1 (fit2 HN.out) (HS6.out.ext hU7) hsl (by have := Hn8.out; omega) Hf.out (by omega) (by omega)).mono ?_
              rintro e w8 ⟨rfl, hU8⟩
              have hpb : primeB N ss = false := Hpr.out
              rw [hpb]
              clear hpb
              go_wp2_with fail
              refine (new_any N _ HN.out).mono ?_
              rintro e w9 ⟨A2, l2, c2, rfl, hV2, hU9⟩
              go_wp2_with fail
              refine (csmall_any _ N _ hV2).mono ?_
              rintro e w10 ⟨rfl, hU10⟩
              rw [← Hsm.out]
              go_wp2_with fail
              go_ret
              exact ⟨rfl, HE6.out.trans (hU7.trans (hU8.trans (hU9.trans hU10)))⟩
            | false =>
              go_wp2_with fail
              refine (new_any N _ HN.out).mono ?_
              rintro e w7 ⟨A1, l1, c1, rfl, hV1, hU7⟩
              go_wp2_with fail
              refine (cprime_any (.agg #[.slice A1 l1 c1]) N 2 D q cD ss w7 hV1 (fit2 HN.out) (HS6.out.ext hU7) hsl (by have := Hn8.out; omega) Hf.out (by omega) (by omega)).mono ?_
              rintro e w8 ⟨rfl, hU8⟩
              have hpb : primeB N ss = false := Hpr.out
              rw [hpb]
              clear hpb
              go_wp2_with fail
              refine (new_any N _ HN.out).mono ?_
              rintro e w9 ⟨A2, l2, c2, rfl, hV2, hU9⟩
              go_wp2_with fail
              refine (csmall_any _ N _ hV2).mono ?_
              rintro e w10 ⟨rfl, hU10⟩
              rw [← Hsm.out]
              go_wp2_with fail
              go_ret
              exact ⟨rfl, HE6.out.trans (hU7.trans (hU8.trans (hU9.trans hU10)))⟩
end Go.Proofs.Ytpffdpieciaooaa
