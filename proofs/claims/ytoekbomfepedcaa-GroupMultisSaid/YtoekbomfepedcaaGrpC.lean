/- A group, walked: Multi. -/
import Derived.Test.YtoekbomfepedcaaGrpB
namespace Go.Proofs.Ytoekbomfepedcaa
set_option linter.unusedSimpArgs false
set_option linter.unusedVariables false
open Go.RowKit
open Nt
attribute [local go_sem] steady steadyUpon Cls same_cell
attribute [local irreducible] wpHead wpTree wpHeadR
theorem prodS_one {bs es : List Nat} {s n P : Nat} (h : prodS bs es s n = 1) (hP : 2 ≤ P) : prodS bs es s n % P = 1 := by rw [h, Nat.mod_eq_of_lt (by omega)]
set_option maxRecDepth 100000 in
set_option maxHeartbeats 4000000 in
theorem gMulti_any (gr P Q G H k : Nat) (AB AE : Option Addr) (n cb ce : Nat) (bs es : List Nat) (w : World) (h : GrpV w gr P Q G H) (hB : NatL w AB bs) (hEx : NatL w AE es) (hnb : bs.length = n) (hne : es.length = n)
    (hFb : ∀ i, i < n → Fit k (gat bs i)) (hFe : ∀ i, i < n → Fit k (gat es i)) (hFP : Fit k P) (hP2 : 2 ≤ P) (hk1 : 1 ≤ k) (hk : k ≤ 50000) (hn : n ≤ 1000) :
    Calls Try.prog 23 #[.pointer (some ⟨gr, 0, none⟩), .slice AB n cb, .slice AE n ce] w (RetE w (prodE bs es n % P) 0) := by
  have HG := hide h
  have HB := hide hB
  have HX := hide hEx
  have Hnb := hide hnb
  have Hne := hide hne
  have HFb := hide hFb
  have HFe := hide hFe
  clear h hB hEx hnb hne hFb hFe
  go_enter Try.func23, Try.ntmps23
  go_wp2_with fail
  refine name_w (fun W hW => ?_)
  have b0 : Box W w.heap.size 33 (.slice none 0 0) := by rw [hW]; exact Box.new _ _ _
  have hE : Ext w W := by rw [hW]; exact (Upd.refl _ w).alloc _
  have HE := hide hE
  clear hW hE
  go_loopw [27, 8] (fun i v wr => ∃ (j m : Nat), j ≤ n ∧ i = .int .i64 (j : Int) ∧ v = .int .i64 (m : Int) ∧ m ≤ 2000000 ∧ Hid (∀ q, q < j → blen (gat es q) ≤ m) ∧ Ext W wr) (fun i _ _ => n - (intOf i).toNat)
  case atStart => exact ⟨0, 0, Nat.zero_le _, rfl, rfl, by omega, hide (fun q hq => absurd hq (by omega)), Upd.refl _ _⟩
  case round =>
    obtain ⟨j, m, hj, rfl, rfl, hm, hbl, hU⟩ := hrel
    by_cases hlt : j < n
    case pos =>
      have hltI : (j : Int) < (n : Int) := by omega
      obtain ⟨b, o, B1, l1, c1, rfl, q0, hV⟩ := (HX.out.ext (HE.out.trans hU)).at (i := j) (by rw [Hne.out]; exact hlt)
      have hFj := HFe.out j hlt
      have hbl2 : blen (gat es j) ≤ 32 * k := Fit.blen hFj
      obtain ⟨x, hx⟩ : ∃ x, x = gat es j := ⟨_, rfl⟩
      rw [← hx] at hV hFj hbl2
      have Hx := hide hx
      have HU := hide hU
      clear hx hU
      go_wp2_with fail
      refine (bits_any _ x k _ (hV.ext (by repeat (first | (with_reducible exact Upd.refl _ _) | (with_reducible assumption) | (refine Upd.setCell ?_ (.inr (by first | exact Nat.le_refl _ | (dsimp only; omega) | (simp; done) | (simp; omega))) _) | (with_reducible refine Upd.alloc ?_ _) | (with_reducible refine Upd.drew ?_) | (with_reducible refine Upd.trans ?_ (by with_reducible assumption))))) hFj (by omega)).mono ?_
      rintro e w2 ⟨rfl, hU2⟩
      obtain ⟨bl, hbl3⟩ : ∃ bl, bl = blen x := ⟨_, rfl⟩
      rw [← hbl3] at hbl2 ⊢
      have Hb3 := hide hbl3
      clear hbl3
      have hU3 : Ext W w2 := HU.out.trans (Upd.trans (by repeat (first | (with_reducible exact Upd.refl _ _) | (with_reducible assumption) | (refine Upd.setCell ?_ (.inr (by first | exact Nat.le_refl _ | (dsimp only; omega) | (simp; done) | (simp; omega))) _) | (with_reducible refine Upd.alloc ?_ _) | (with_reducible refine Upd.drew ?_) | (with_reducible refine Upd.trans ?_ (by with_reducible assumption)))) hU2)
      have HU3 := hide hU3
      clear hU2 hU3 hV
      by_cases hmx : m ≤ bl
      · have hmax : max (m : Int) (bl : Int) = (bl : Int) := by omega
        have hmI : (m : Int) ≤ (bl : Int) := by omega
        go_wp2_with fail
        go_roundw
        case rel =>
          refine ⟨j + 1, bl, by omega, by go_num, rfl, by omega, hide (fun q hq => ?_), HU3.out⟩
          by_cases hqj : q < j
          · exact Nat.le_trans (hbl.out q hqj) hmx
          · obtain rfl : q = j := by omega
            rw [← Hx.out, ← Hb3.out]
            exact Nat.le_refl _
        case measure => simp [intOf]; omega
      · have hmax : max (m : Int) (bl : Int) = (m : Int) := by omega
        have hmI : ¬ (m : Int) ≤ (bl : Int) := by omega
        go_wp2_with fail
        go_roundw
        case rel =>
          refine ⟨j + 1, m, by omega, by go_num, rfl, by omega, hide (fun q hq => ?_), HU3.out⟩
          by_cases hqj : q < j
          · exact hbl.out q hqj
          · obtain rfl : q = j := by omega
            rw [← Hx.out, ← Hb3.out]; omega
        case measure => simp [intOf]; omega
    case neg =>
      obtain rfl : j = n := by omega
      have hltI : ¬ ((j : Int) < (j : Int)) := by omega
      have HU := hide hU
      clear hU
      go_wp2_with fail
      refine (new_any 1 _ (by decide)).mono ?_
      rintro e w3 ⟨A3, l3, c3, rfl, hV3, hU3⟩
      have hE3 : Ext w w3 := (HE.out.trans HU.out).trans hU3
      have b3 := b0.ext (HU.out.trans hU3)
      clear hU3 HU HE b0
      go_wp2_with fail
      refine name_w (fun W4 hW4 => ?_)
      have b11 : Box W4 w3.heap.size 33 (.slice A3 l3 c3) := by rw [hW4]; exact Box.new _ _ _
      have b6 : Box W4 w.heap.size 33 (.slice none 0 0) := by rw [hW4]; exact b3.alloc _
      have hE4 : Ext w W4 := by rw [hW4]; exact hE3.alloc _
      have hV4 : NatV W4 (.agg #[.slice A3 l3 c3]) 1 := by rw [hW4]; exact hV3.ext ((Upd.refl _ _).alloc _)
      have hz3 : w.heap.size < w3.heap.size := b3.lt
      have hzw := hE3.size
      clear hW4 hV3 b3
      have hone : prodS bs es m j % P = 1 := prodS_one (prodS_top bs es m j hbl.out) hP2
      go_loopw [12] (fun v wr => ∃ (i : Nat) (A : Option Addr) (l c : Nat), i ≤ m ∧ v = .int .i64 ((i : Int) - 1) ∧ Box wr w3.heap.size 33 (.slice A l c) ∧ NatV wr (.agg #[.slice A l c]) (prodS bs es i j % P) ∧ Box wr w.heap.size 33 (.slice none 0 0) ∧ Ext w wr) (fun v _ => (intOf v + 1).toNat)
      case atStart => exact ⟨m, A3, l3, c3, Nat.le_refl _, rfl, b11, by rw [hone]; exact hV4, b6, hE4⟩
      case round =>
        clear b11 hV4 b6 hE4 hone
        obtain ⟨i, A, l, c, hi, rfl, b11, hV, b6, hE⟩ := hrel
        by_cases hi0 : i = 0
        case pos =>
          subst hi0
          have k11 := b11.cell
          have k6 := b6.cell
          have f6 := b6.frozen
          rw [prodS_zero] at hV
          go_wp2_with fail
          have q := (b6.set (.slice A l c)).cell
          exact bodyPost_ret (v := .tuple #[.agg #[.slice A l c], .int .i64 0]) (by simp [results, Try.results23, go_sem, q]) rfl ⟨_, _, _, rfl, hV.far k6, hE.setCell (p := ⟨w.heap.size, 0, none⟩) (.inr (Nat.le_refl _)) _⟩
        case neg =>
          obtain ⟨s, rfl⟩ : ∃ s, i = s + 1 := ⟨i - 1, by omega⟩
          have hs1 : ((s + 1 : Nat) : Int) - 1 = (s : Int) := by omega
          obtain ⟨X, hX⟩ : ∃ X, X = prodS bs es (s + 1) j := ⟨_, rfl⟩
          rw [← hX] at hV
          have HX2 := hide hX
          clear hX
          have hFX : Fit k (X % P) := hFP.le (Nat.le_of_lt (Nat.mod_lt _ (by omega)))
          obtain ⟨gp, gq, B1, m1, d1, B2, m2, d2, h1, h2, -, -, -⟩ := HG.out.ext hE
          rw [hs1]
          have q0 := fun y : Wd (Ext wr.drew) => y.ok.cellv (show wr.drew.cell? ⟨gr, 0, none⟩ = some (.pointer (some ⟨gp, 0, none⟩)) from h1.at 0 rfl)
          have q1 := fun y : Wd (Ext wr.drew) => y.ok.cellv b11.drew.cell
          go_wp2_with fail
          refine wp_region_plan (Ext _) 7 [(false,0), (false,1), (false,2), (false,3), (false,4), (false,5), (true,6)] (by kernel_rfl) (by kernel_rfl) (Upd.refl _ _) (fun hne => ?_)
          repeat (refine head_q rfl (fun K hK => ?_); have hK2 := hide hK; clear hK; go_simp; refine hK2.out _ ?_; clear hK2 K)
          refine head_l rfl ?_
          go_wp2_with (go_at_call 42; go_must (refine (mmul_any _ _ gp (X % P) (X % P) P k _ (h2.ext (Upd.refl _ _).drew) (hV.ext (Upd.refl _ _).drew) (hV.ext (Upd.refl _ _).drew) hFX hFX hFP (by omega)).mono ?_); rintro e w5 ⟨A5, l5, c5, rfl, hV5, hU5⟩)
          refine ⟨Cls (Ext _), fun _ h => h, ⟨⟨_, hU5⟩, rfl⟩, ?_⟩
          repeat (refine head_q rfl (fun K hK => ?_); have hK2 := hide hK; clear hK; go_simp; refine hK2.out _ ?_; clear hK2 K)
          have b11' := b11.ext hU5.undrew
          have b6' := b6.ext hU5.undrew
          have hE5 := hE.trans hU5.undrew
          have z2 := b11'.cell
          have z3 := b11'.frozen
          have b11s := b11'.set (.slice A5 l5 c5)
          have b6s := b6'.far (p := ⟨w3.heap.size, 0, none⟩) (by show w.heap.size ≠ w3.heap.size; omega) (.slice A5 l5 c5)
          have hEs : Ext w (w5.setCell ⟨w3.heap.size, 0, none⟩ (.slice A5 l5 c5)) := hE5.setCell (p := ⟨w3.heap.size, 0, none⟩) (.inr hzw) _
          have hVs : NatV (w5.setCell ⟨w3.heap.size, 0, none⟩ (.slice A5 l5 c5)) (.agg #[.slice A5 l5 c5]) (X * X * bitsP bs es s 0 % P) := by
            have e1 : X * X * bitsP bs es s 0 % P = X % P * (X % P) % P := by unfold bitsP; rw [Nat.mul_one, Nat.mul_mod]
            rw [e1]; exact hV5.far z2
          clear q0 q1 b11 b6 hE hV h1 h2 hU5 hV5 hE5 b11' b6'
          refine head_nil ?_
          try simp only [List.drop_succ_cons, List.drop_zero]
          go_wp2_with fail
          refine name_w (fun W6 hW6 => ?_)
          rw [← hW6] at b11s b6s hEs hVs
          clear hW6 z2 z3
          go_loopw [52] (fun v wr => ∃ (q : Nat) (A : Option Addr) (l c : Nat), q ≤ j ∧ v = .int .i64 (q : Int) ∧ Box wr w3.heap.size 33 (.slice A l c) ∧ NatV wr (.agg #[.slice A l c]) (X * X * bitsP bs es s q % P) ∧ Box wr w.heap.size 33 (.slice none 0 0) ∧ Ext w wr) (fun v _ => j - (intOf v).toNat)
          case atStart => exact ⟨0, A5, l5, c5, Nat.zero_le _, rfl, b11s, hVs, b6s, hEs⟩
          case round =>
            clear b11s hVs b6s hEs
            obtain ⟨q, A6, l6, c6, hq, rfl, b11, hV, b6, hE⟩ := hrel
            by_cases hqj : q < j
            case neg =>
              obtain rfl : j = q := by omega
              have hqI : ¬ ((j : Int) < (j : Int)) := by omega
              have hst : X * X * bitsP bs es s j = prodS bs es s j := by rw [HX2.out]; exact (prodS_step bs es s j).symm
              rw [hst] at hV
              go_wp2_with fail
              go_roundw
              case rel => exact ⟨s, A6, l6, c6, by omega, rfl, b11, hV, b6, hE⟩
              case measure => simp [intOf] <;> omega
            have hqI : (q : Int) < (j : Int) := by omega
            obtain ⟨bX, oX, BX, lX, cX, hAX, k0, hVX⟩ := (HX.out.ext hE).at (i := q) (by rw [Hne.out]; exact hqj)
            obtain ⟨bB, oB, BB, lB, cB, hAB, k1, hVB⟩ := (HB.out.ext hE).at (i := q) (by rw [Hnb.out]; exact hqj)
            subst hAX hAB
            obtain ⟨x, hx⟩ : ∃ x, x = gat es q := ⟨_, rfl⟩
            obtain ⟨y, hy⟩ : ∃ y, y = gat bs q := ⟨_, rfl⟩
            have hFx : Fit k x := by rw [hx]; exact HFe.out q hqj
            have hFy : Fit k y := by rw [hy]; exact HFb.out q hqj
            rw [← hx] at hVX
            rw [← hy] at hVB
            have hbs : bitsP bs es s (q + 1) = bitsP bs es s q * (if x / 2 ^ s % 2 = 1 then y else 1) := by rw [hx, hy]; rfl
            have Hbs := hide hbs
            clear hbs hx hy
            have hs9 : s ≤ 2000000 := by omega
            go_wp2_with fail
            refine name_c (fun W7 hW7 => ?_)
            have hE7 : Ext wr W7 := by rw [hW7]; exact (Upd.refl _ _).alloc _
            clear hW7
            refine (bit_any _ x k s _ (hVX.ext hE7) hFx (by omega) ⟨by omega, by omega⟩).mono ?_
            rintro e w8 ⟨rfl, hU8⟩
            rw [if_pos (show (0 : Int) ≤ (s : Int) by omega), Int.toNat_natCast]
            have hE8 := hE7.trans hU8
            clear hE7 hU8 hVX
            by_cases hbit : x / 2 ^ s % 2 = 1
            · rw [hbit]
              have hbs2 : bitsP bs es s (q + 1) = bitsP bs es s q * y := by rw [Hbs.out, if_pos hbit]
              have Hbs2 := hide hbs2
              clear hbs2 hbit
              obtain ⟨gp, gq, B1, m1, d1, B2, m2, d2, h1, h2, -, -, -⟩ := HG.out.ext (hE.trans hE8)
              have b11' := b11.ext hE8
              have hV' := hV.ext hE8
              have hVB' := hVB.ext hE8
              have k1' := hE8.cellv k1
              have b6' := b6.ext hE8
              have hEw := hE.trans hE8
              clear b11 hV hVB k1 k0 b6 hE hE8
              obtain ⟨V, hV0⟩ : ∃ V, V = X * X * bitsP bs es s q := ⟨_, rfl⟩
              rw [← hV0] at hV'
              have HV0 := hide hV0
              clear hV0
              have hFV : Fit k (V % P) := hFP.le (Nat.le_of_lt (Nat.mod_lt _ (by omega)))
              have q0 := fun y : Wd (Ext w8.drew) => y.ok.cellv (show w8.drew.cell? ⟨gr, 0, none⟩ = some (.pointer (some ⟨gp, 0, none⟩)) from h1.at 0 rfl)
              have q1 := fun y : Wd (Ext w8.drew) => y.ok.cellv b11'.drew.cell
              have q2 := fun y : Wd (Ext w8.drew) => y.ok.cellv (show w8.drew.cell? ⟨bB, oB + q, none⟩ = some (.slice BB lB cB) from k1')
              go_wp2_with fail
              refine wp_region_plan (Ext _) 10 [(false,0), (false,1), (false,2), (false,3), (false,4), (false,5), (false,6), (false,7), (false,8), (true,9)] (by kernel_rfl) (by kernel_rfl) (Upd.refl _ _) (fun hne => ?_)
              repeat (refine head_q rfl (fun K hK => ?_); have hK2 := hide hK; clear hK; go_simp; refine hK2.out _ ?_; clear hK2 K)
              refine head_l rfl ?_
              go_wp2_with (go_at_call 42; go_must (refine (mmul_any _ _ gp (V % P) y P k _ (h2.ext (Upd.refl _ _).drew) (hV'.ext (Upd.refl _ _).drew) (hVB'.ext (Upd.refl _ _).drew) hFV hFy hFP (by omega)).mono ?_); rintro e w9 ⟨A9, l9, c9, rfl, hV9, hU9⟩)
              refine ⟨Cls (Ext _), fun _ h => h, ⟨⟨_, hU9⟩, rfl⟩, ?_⟩
              repeat (refine head_q rfl (fun K hK => ?_); have hK2 := hide hK; clear hK; go_simp; refine hK2.out _ ?_; clear hK2 K)
              have b11n := b11'.ext hU9.undrew
              have b6n := b6'.ext hU9.undrew
              have hE9 := hEw.trans hU9.undrew
              have z2 := b11n.cell
              have z3 := b11n.frozen
              have b11s := b11n.set (.slice A9 l9 c9)
              have b6s := b6n.far (p := ⟨w3.heap.size, 0, none⟩) (by show w.heap.size ≠ w3.heap.size; omega) (.slice A9 l9 c9)
              have hEs : Ext w (w9.setCell ⟨w3.heap.size, 0, none⟩ (.slice A9 l9 c9)) := hE9.setCell (p := ⟨w3.heap.size, 0, none⟩) (.inr hzw) _
              have hVs : NatV (w9.setCell ⟨w3.heap.size, 0, none⟩ (.slice A9 l9 c9)) (.agg #[.slice A9 l9 c9]) (X * X * bitsP bs es s (q + 1) % P) := by
                have e1 : X * X * bitsP bs es s (q + 1) % P = V % P * y % P := by rw [Hbs2.out, HV0.out, ← Nat.mul_assoc, Nat.mod_mul_mod]
                rw [e1]; exact hV9.far z2
              clear q0 q1 q2 b11' b6' hV' hVB' k1' h1 h2 hU9 hV9 hE9 b11n b6n hEw
              refine head_nil ?_
              try simp only [List.drop_succ_cons, List.drop_zero]
              go_wp2_with fail
              go_roundw
              case rel => exact ⟨q + 1, A9, l9, c9, by omega, by go_num, b11s, hVs, b6s, hEs⟩
              case measure => simp [intOf] <;> omega
            · have hb0 : x / 2 ^ s % 2 = 0 := by omega
              rw [hb0]
              have hbs2 : bitsP bs es s (q + 1) = bitsP bs es s q := by rw [Hbs.out, if_neg hbit, Nat.mul_one]
              have Hbs2 := hide hbs2
              clear hbs2 hbit hb0
              have b11' := b11.ext hE8
              have hV' := hV.ext hE8
              have b6' := b6.ext hE8
              have hEw := hE.trans hE8
              clear b11 hV hVB k1 k0 b6 hE hE8
              go_wp2_with fail
              go_roundw
              case rel => exact ⟨q + 1, A6, l6, c6, by omega, by go_num, b11', by rw [Hbs2.out]; exact hV', b6', hEw⟩
              case measure => simp [intOf] <;> omega
end Go.Proofs.Ytoekbomfepedcaa
