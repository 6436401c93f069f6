/- DleqSound, walked. -/
import Derived.Test.YtoekbomfepedcaaDsDlqL
import Derived.Test.YtoekbomfepedcaaDsSgnL
import Derived.Test.YtoekbomfepedcaaDsDlqS
import Derived.Test.YtoekbomfepedcaaDsDlqR
import Derived.Test.YtoekbomfepedcaaDsSgnR
import Derived.Test.YtoekbomfepedcaaDsInvA
namespace Go.Proofs.Ytoekbomfepedcaa
set_option linter.unusedSimpArgs false
set_option linter.unusedVariables false
open Go.RowKit
open Nt Sha
attribute [local go_sem] steady steadyUpon Cls same_cell anyW
attribute [local irreducible] wpHead wpTree wpHeadR sum chalOf ansN
theorem sound_ver {P Q a b x y p r c s : Nat} {side : List (BitVec 8)} (ha : memB P Q a = true) (hb : memB P Q b = true) (hP : 2 ≤ P) (hQ : 64 < Q) (hc : c < Q) (hs : s < Q) (h1 : s % Q = (p + c * x) % Q) (h2 : s % Q = (r + c * y) % Q)
    (hask : c = ansN P Q [a, b, a ^ x % P, b ^ y % P, a ^ p % P, b ^ r % P] side) : dverB P Q a b (a ^ x % P) (b ^ y % P) side (toB c (byteSz Q) ++ toB s (byteSz Q)) = true := by
  have ga := gok_of ha hP hQ
  have gb := gok_of hb hP hQ
  have ht : (toB c (byteSz Q) ++ toB s (byteSz Q)).take (byteSz Q) = toB c (byteSz Q) := by
    rw [List.take_append_of_le_length (by rw [toB_length]; exact Nat.le_refl _), List.take_of_length_le (by rw [toB_length]; exact Nat.le_refl _)]
  have hd : (toB c (byteSz Q) ++ toB s (byteSz Q)).drop (byteSz Q) = toB s (byteSz Q) := by
    rw [List.drop_append_of_le_length (by rw [toB_length]; exact Nat.le_refl _), List.drop_of_length_le (by rw [toB_length]; exact Nat.le_refl _), List.nil_append]
  have hl : (toB c (byteSz Q) ++ toB s (byteSz Q)).length = 2 * byteSz Q := by rw [List.length_append, toB_length, toB_length]; omega
  have h3 := ga.opn_pv h1 (Nat.le_of_lt hc)
  have h4 := gb.opn_pv h2 (Nat.le_of_lt hc)
  have hm : [a, b, a ^ x % P, b ^ y % P].all (memB P Q) = true := by
    simp only [List.all_cons, List.all_nil, ha, hb, ga.mem x, gb.mem y]; rfl
  unfold dverB
  rw [ht, hd, ofB_fix hc, ofB_fix hs, hm, decide_eq_true hl, decide_eq_true hc, decide_eq_true hs, h3, h4, ← hask]
  simp
set_option maxRecDepth 100000 in
set_option maxHeartbeats 1000000 in
theorem dsound_few (z k l x y p r : Int) (A : Option Addr) (n c : Nat) (w : World) (h : 300 < n) :
    Calls Try.prog 10 #[.int .i64 z, .int .u64 k, .int .u64 l, .int .u64 x, .int .u64 y, .int .u64 p, .int .u64 r, .slice A n c] w fun e w' => e = .returned (.bool true) ∧ Ext w w' := by
  have n1I : (300 : Int) < (n : Int) := by omega
  go_enter Try.func10, Try.ntmps10
  go_wp2_with fail
  refine (dlives_any w).mono ?_
  rintro e w1 ⟨rfl, hU1⟩
  go_wp2_with fail
  refine (dlives_any w1).mono ?_
  rintro e w2 ⟨rfl, hU2⟩
  have hE := hU1.trans hU2
  go_wp2_with fail
  go_ret
  exact ⟨rfl, hE⟩
set_option maxRecDepth 100000 in
set_option maxHeartbeats 8000000 in
theorem dsound_good (z0 : Int) (r : Nat) (hr : r < 3) (v0 v1 v2 v3 v4 v5 : Nat) (A : Option Addr) (n c : Nat) (side : List (BitVec 8)) (w : World) (hnum : ∀ w', Calls Try.prog 76 #[.int .i64 z0, .slice none 0 0] w' (RetNums w' r none 0 0))
    (hv : ∀ x ∈ [v0, v1, v2, v3, v4, v5], x < 18446744073709551616) (hM : Pt.ok w ⟨A, n, c, side⟩) (hn : n ≤ 300) :
    Calls Try.prog 10 #[.int .i64 z0, .int .u64 (v0 : Nat), .int .u64 (v1 : Nat), .int .u64 (v2 : Nat), .int .u64 (v3 : Nat), .int .u64 (v4 : Nat), .int .u64 (v5 : Nat), .slice A n c] w fun e w' => e = .returned (.bool true) ∧ Ext w w' := by
  have Hnum := hide hnum
  have hP : Fit 32 (grP r) := (fit_grP r).mono (by omega)
  have hQ : Fit 32 (grQ r) := (fit_grQ r).mono (by omega)
  have hGf : Fit 32 (grG r) := (fit_grG r).mono (by omega)
  have hHf : Fit 32 (grH r) := (fit_grH r).mono (by omega)
  have hPr : Pk.Pr (grQ r) := primeB_pr (gPrime r hr).2
  obtain ⟨P, hPe⟩ : ∃ P, P = grP r := ⟨_, rfl⟩
  obtain ⟨Q, hQe⟩ : ∃ Q, Q = grQ r := ⟨_, rfl⟩
  obtain ⟨G, hGe⟩ : ∃ G, G = grG r := ⟨_, rfl⟩
  obtain ⟨H, hHe⟩ : ∃ H, H = grH r := ⟨_, rfl⟩
  have hgok : GOk P Q G := by rw [hPe, hQe, hGe]; exact gok r hr
  have hz128 : byteSz Q ≤ 128 := by rw [hQe]; exact szQ r
  rw [← hPe] at hP
  rw [← hQe] at hQ hPr
  rw [← hGe] at hGf
  rw [← hHe] at hHf
  have HPr := hide hPr
  have HPe := hide hPe
  have HQe := hide hQe
  have HGe := hide hGe
  have HHe := hide hHe
  have hP2 := hgok.two
  have hQ64 := hgok.sml
  have hPb : blen P ≤ 1024 := Nat.le_trans hP.blen (by omega)
  have hQb : blen Q ≤ 1024 := Nat.le_trans hQ.blen (by omega)
  clear hnum hPe hQe hGe hHe hPr
  have HM := hide hM
  have n1I : ¬ (300 : Int) < (n : Int) := by omega
  obtain ⟨vs, hvs⟩ : ∃ vs, vs = [v0, v1, v2, v3, v4, v5] := ⟨_, rfl⟩
  rw [← hvs] at hv
  have hvl : vs.length = 6 := by rw [hvs]; rfl
  have hv64 : ∀ q, q < 6 → gat vs q < 18446744073709551616 := fun q hq => hv _ (by rw [gat_lt (by omega)]; exact List.getElem_mem _)
  have hag : (.agg #[.int .u64 (v0 : Nat), .int .u64 (v1 : Nat), .int .u64 (v2 : Nat), .int .u64 (v3 : Nat), .int .u64 (v4 : Nat), .int .u64 (v5 : Nat)] : Value) = .agg (Array.ofFn fun i : Fin 6 => Value.int .u64 ((gat vs i : Nat) : Int)) := by rw [hvs]; rfl
  have Hag := hide hag
  have Hv64 := hide hv64
  clear hM hv hvs hvl hv64 hag
  go_enter Try.func10, Try.ntmps10
  go_wp2_with fail
  refine (dlives_any w).mono ?_
  rintro e w1 ⟨rfl, hU1⟩
  go_wp2_with fail
  refine (ggroup_any z0 r hr w1 Hnum.out).mono ?_
  rintro e w2 ⟨gr, rfl, hG, hU2⟩
  rw [← HPe.out, ← HQe.out, ← HGe.out, ← HHe.out] at hG
  have hE2 := hU1.trans hU2
  clear hU1 hU2
  go_wp2_with fail
  refine (gField_any gr P Q G _ _ hG).mono ?_
  rintro e w3 ⟨gq, rfl, hRq, rfl⟩
  go_wp2_with fail
  rw [Hag.out]
  refine name_w (fun Z hZ => ?_)
  have hA0 : Arr Z w3.heap.size 94 6 (sv (fun _ => (none, 0, 0))) := by
    rw [hZ]
    exact Arr.new _ _ _ _ _ rfl (fun i hi => by
      match i, hi with
      | 0, _ | 1, _ | 2, _ | 3, _ | 4, _ | 5, _ => rfl
      | n + 6, h => exact absurd h (by omega))
  have hEZ : Ext w3 Z := by rw [hZ]; exact (Upd.refl _ _).alloc _
  clear hZ
  obtain ⟨g, hge⟩ : ∃ g, g = w3.heap.size := ⟨_, rfl⟩
  rw [← hge] at hA0 ⊢
  have Hge := hide hge
  clear hge
  have HA0 := hide hA0
  clear hA0
  go_loopw [56] (fun i wr => ∃ (j : Nat) (f : SvF), j ≤ 6 ∧ i = .int .i64 (j : Int) ∧ Arr wr g 94 6 (sv f) ∧ (∀ q, q < j → NatV wr (.agg #[sv f q]) (gat vs q % Q)) ∧ Upd (only g) Z wr) (fun i _ => 6 - (intOf i).toNat)
  case atStart => exact ⟨0, _, by omega, rfl, HA0.out, fun q hq => absurd hq (by omega), Upd.refl _ _⟩
  case round =>
    obtain ⟨j, f, hj, rfl, hAr, hTab, hUZ⟩ := hrel
    have hEr : Ext w3 wr := Upd.fresh hUZ hEZ (fun i hi => by have := Hge.out; unfold only at hi; omega)
    have HAr := hide hAr
    have HTab := hide hTab
    clear hAr hTab
    by_cases hlt : j < 6
    case pos =>
      have hlti : (j : Int) < 6 := by omega
      have h0i : (0 : Int) ≤ (j : Int) := by omega
      have hix := fun (w : World) => run_index_arr (P := Try.prog) (T := 95) (e := 22) (n := 6) (by kernel_rfl) (by kernel_rfl) (de := .int .u64) (by kernel_rfl) rfl (fun i => Value.int .u64 ((gat vs i : Nat) : Int)) hlt .i64 w
      have hb64 := Hv64.out j hlt
      obtain ⟨x, hx⟩ : ∃ x, x = gat vs j := ⟨_, rfl⟩
      rw [← hx] at hix hb64
      have Hx := hide hx
      clear hx
      go_wp2_with fail
      clear hix
      refine (new_any x _ hb64).mono ?_
      rintro e w4 ⟨A4, l4, c4, rfl, hV4, hU4⟩
      go_wp2_with fail
      refine (mof_any _ gq x Q 32 _ (hRq.ext (hEr.trans hU4)) hV4 ((fit2 hb64).mono (by omega)) hQ (by omega)).mono ?_
      rintro e w5 ⟨A5, l5, c5, rfl, hV5, hU5⟩
      have hU45 := hU4.trans hU5
      have hA5 := HAr.out.ext hU45
      obtain ⟨Aj, lj, cj, hsvj⟩ : ∃ Aj lj cj, sv f j = .slice Aj lj cj := ⟨_, _, _, rfl⟩
      have cj1 : w5.cell? ⟨g, j, none⟩ = some (.slice Aj lj cj) := by rw [← hsvj]; exact hA5.cell hlt
      have fj1 := hA5.frozen j
      have hA7 := hA5.set j (.slice A5 l5 c5)
      rw [sv_put] at hA7
      have hT7 : ∀ q, q < j + 1 → NatV (w5.setCell ⟨g, j, none⟩ (.slice A5 l5 c5)) (.agg #[sv (put1 f j (A5, l5, c5)) q]) (gat vs q % Q) := fun q hq => by
        by_cases h : q = j
        · subst h
          rw [sv_same, ← Hx.out]
          exact hV5.far (v := .slice A5 l5 c5) cj1
        · rw [sv_other _ _ _ _ h]
          exact ((HTab.out q (by omega)).ext hU45).far cj1
      have hU7 := (hUZ.ext hU45).setCell (p := ⟨g, j, none⟩) (.inl rfl) (.slice A5 l5 c5)
      have HA7 := hide hA7
      have HT7 := hide hT7
      have HU7 := hide hU7
      clear hA7 hT7 hU7 HTab HAr hA5 hsvj hV4 hV5 hU4 hU5 hU45 hUZ hEr
      go_wp2_with fail
      go_roundw
      case rel => exact ⟨j + 1, _, by omega, by go_num, HA7.out, HT7.out, HU7.out⟩
      case measure => simp [intOf]; omega
    case neg =>
      obtain rfl : j = 6 := by omega
      have hlti : ¬ (((6 : Nat) : Int) < 6) := by omega
      generalize (Value.agg (Array.ofFn fun i : Fin 6 => Value.int .u64 ((gat vs i : Nat) : Int))) = vag
      clear HPe HQe HHe hUZ hEZ HA0
      obtain ⟨⟨A0, l0, c0⟩, hf0⟩ : ∃ x, f 0 = x := ⟨_, rfl⟩
      obtain ⟨⟨A1, l1, c1⟩, hf1⟩ : ∃ x, f 1 = x := ⟨_, rfl⟩
      obtain ⟨⟨A2, l2, c2⟩, hf2⟩ : ∃ x, f 2 = x := ⟨_, rfl⟩
      obtain ⟨⟨A3, l3, c3⟩, hf3⟩ : ∃ x, f 3 = x := ⟨_, rfl⟩
      obtain ⟨⟨A4, l4, c4⟩, hf4⟩ : ∃ x, f 4 = x := ⟨_, rfl⟩
      obtain ⟨⟨A5, l5, c5⟩, hf5⟩ : ∃ x, f 5 = x := ⟨_, rfl⟩
      have hB : Blk wr g 94 #[.slice A0 l0 c0, .slice A1 l1 c1, .slice A2 l2 c2, .slice A3 l3 c3, .slice A4 l4 c4, .slice A5 l5 c5] := by
        have h1 : Blk wr g 94 #[sv f 0, sv f 1, sv f 2, sv f 3, sv f 4, sv f 5] := HAr.out
        simp only [sv, hf0, hf1, hf2, hf3, hf4, hf5] at h1
        exact h1
      have n0 : NatV wr (.agg #[.slice A0 l0 c0]) (gat vs 0 % Q) := by have h1 := HTab.out 0 (by omega); simp only [sv, hf0] at h1; exact h1
      have n1 : NatV wr (.agg #[.slice A1 l1 c1]) (gat vs 1 % Q) := by have h1 := HTab.out 1 (by omega); simp only [sv, hf1] at h1; exact h1
      have n2 : NatV wr (.agg #[.slice A2 l2 c2]) (gat vs 2 % Q) := by have h1 := HTab.out 2 (by omega); simp only [sv, hf2] at h1; exact h1
      have n3 : NatV wr (.agg #[.slice A3 l3 c3]) (gat vs 3 % Q) := by have h1 := HTab.out 3 (by omega); simp only [sv, hf3] at h1; exact h1
      have n4 : NatV wr (.agg #[.slice A4 l4 c4]) (gat vs 4 % Q) := by have h1 := HTab.out 4 (by omega); simp only [sv, hf4] at h1; exact h1
      have n5 : NatV wr (.agg #[.slice A5 l5 c5]) (gat vs 5 % Q) := by have h1 := HTab.out 5 (by omega); simp only [sv, hf5] at h1; exact h1
      have hq0 : gat vs 0 % Q < Q := Nat.mod_lt _ (by omega)
      obtain ⟨m0, hm0⟩ : ∃ x, x = gat vs 0 % Q := ⟨_, rfl⟩
      rw [← hm0] at hq0 n0
      have hF0 : Fit 32 m0 := hQ.le (Nat.le_of_lt hq0)
      clear hm0
      have hq1 : gat vs 1 % Q < Q := Nat.mod_lt _ (by omega)
      obtain ⟨m1, hm1⟩ : ∃ x, x = gat vs 1 % Q := ⟨_, rfl⟩
      rw [← hm1] at hq1 n1
      have hF1 : Fit 32 m1 := hQ.le (Nat.le_of_lt hq1)
      clear hm1
      have hq2 : gat vs 2 % Q < Q := Nat.mod_lt _ (by omega)
      obtain ⟨m2, hm2⟩ : ∃ x, x = gat vs 2 % Q := ⟨_, rfl⟩
      rw [← hm2] at hq2 n2
      have hF2 : Fit 32 m2 := hQ.le (Nat.le_of_lt hq2)
      clear hm2
      have hq3 : gat vs 3 % Q < Q := Nat.mod_lt _ (by omega)
      obtain ⟨m3, hm3⟩ : ∃ x, x = gat vs 3 % Q := ⟨_, rfl⟩
      rw [← hm3] at hq3 n3
      have hF3 : Fit 32 m3 := hQ.le (Nat.le_of_lt hq3)
      clear hm3
      have hq4 : gat vs 4 % Q < Q := Nat.mod_lt _ (by omega)
      obtain ⟨m4, hm4⟩ : ∃ x, x = gat vs 4 % Q := ⟨_, rfl⟩
      rw [← hm4] at hq4 n4
      have hF4 : Fit 32 m4 := hQ.le (Nat.le_of_lt hq4)
      clear hm4
      have hq5 : gat vs 5 % Q < Q := Nat.mod_lt _ (by omega)
      obtain ⟨m5, hm5⟩ : ∃ x, x = gat vs 5 % Q := ⟨_, rfl⟩
      rw [← hm5] at hq5 n5
      have hF5 : Fit 32 m5 := hQ.le (Nat.le_of_lt hq5)
      clear hm5
      clear HAr HTab hf0 hf1 hf2 hf3 hf4 hf5
      have z0 := hB.at 0 rfl
      go_wp2_with fail
      clear z0
      refine (zero_any _ m0 _ n0).mono ?_
      rintro e u1 ⟨rfl, hu1⟩
      by_cases h00 : m0 = 0
      case pos =>
        rw [decide_eq_true h00]
        have hEf := (hE2.trans hEr).trans hu1
        go_wp2_with fail
        go_ret
        exact ⟨rfl, hEf⟩
      rw [decide_eq_false h00]
      have z1 := (hB.ext hu1).at 1 rfl
      go_wp2_with fail
      clear z1
      refine (zero_any _ m1 _ (n1.ext hu1)).mono ?_
      rintro e u2 ⟨rfl, hu2⟩
      by_cases h01 : m1 = 0
      case pos =>
        rw [decide_eq_true h01]
        have hEf := (hE2.trans hEr).trans (hu1.trans hu2)
        go_wp2_with fail
        go_ret
        exact ⟨rfl, hEf⟩
      rw [decide_eq_false h01]
      have hrX := hu1.trans hu2
      have hGX := hG.ext (hEr.trans hrX)
      have hRX := hRq.ext (hEr.trans hrX)
      have hEX := (hE2.trans hEr).trans hrX
      clear hG hRq hE2 hEr hu1 hu2
      go_wp2_with fail
      refine name_w (fun X hX => ?_)
      subst hX
      obtain ⟨aa, haa⟩ : ∃ x, x = G ^ m0 % P := ⟨_, rfl⟩
      obtain ⟨bb, hbb⟩ : ∃ x, x = G ^ m1 % P := ⟨_, rfl⟩
      have hma : memB P Q aa = true := by rw [haa]; exact hgok.mem m0
      have hmb : memB P Q bb = true := by rw [hbb]; exact hgok.mem m1
      have hFa : Fit 32 aa := hP.le (Nat.le_of_lt (memB_lt hma).2.1)
      have hFb : Fit 32 bb := hP.le (Nat.le_of_lt (memB_lt hmb).2.1)
      have Haa := hide haa
      have Hbb := hide hbb
      have Hma := hide hma
      have Hmb := hide hmb
      clear haa hbb hma hmb
      have hBX := hB.ext hrX
      have x0 := hBX.at 0 rfl
      have x1 := hBX.at 1 rfl
      refine wp_region_fg 15 [.val (.eq (.pointer (some ⟨gr, 0, none⟩))), .val (.eq (.pointer (some ⟨gr, 0, none⟩))), .val (.p (natP (G))), .val (.eq (.pointer (some ⟨g, 0, none⟩))), .val (.eq (.agg #[.slice A0 l0 c0])), .val (.p (natP (aa))), .val (.eq (.pointer (some ⟨gr, 0, none⟩))), .val (.eq (.pointer (some ⟨gr, 0, none⟩))), .val (.p (natP (G))), .val (.eq (.pointer (some ⟨g, 1, none⟩))), .val (.eq (.agg #[.slice A1 l1 c1])), .val (.p (natP (bb))), .new 33 (.slice none 0 0), .new 33 (.slice none 0 0), .set 12 33 (natC (aa))] [(14, 12)] (by kernel_rfl) rfl (by kernel_rfl) (by kernel_rfl) (by kernel_rfl) ?_ ?_
      · intro i hi
        match i, hi with
        | 0, _ =>
          intro u wx S o ho hE hr hd hw
          injection (ho : some _ = some o) with ho
          subst ho
          have hEx : Ext X wx := hE.undrew
          simp only [fr, dstOf]
          go_simp
          go_wp2
          first | exact ⟨Upd.refl _ _, rfl⟩ | exact ⟨_, rfl, Upd.refl _ _, rfl⟩
        | 1, _ =>
          intro u wx S o ho hE hr hd hw
          injection (ho : some _ = some o) with ho
          subst ho
          have hEx : Ext X wx := hE.undrew
          simp only [fr, dstOf]
          go_simp
          go_wp2
          first | exact ⟨Upd.refl _ _, rfl⟩ | exact ⟨_, rfl, Upd.refl _ _, rfl⟩
        | 2, _ =>
          intro u wx S o ho hE hr hd hw
          injection (ho : some _ = some o) with ho
          subst ho
          have hEx : Ext X wx := hE.undrew
          have f1 : u 1 = .pointer (some ⟨gr, 0, none⟩) := hw 1 (by omega) (by kernel_rfl) (by simp)
          simp only [fr, dstOf]
          go_simp
          go_wp2_with fail
          refine (gG_any gr P Q G H _ (hGX.ext hEx)).mono ?_
          rintro e wn ⟨A20, l20, c20, rfl, hVn, hU⟩
          go_wp2_with fail
          first | exact ⟨_, rfl, hU.mono (fun _ _ h => h.elim), _, _, _, rfl, hVn⟩ | exact ⟨hU.mono (fun _ _ h => h.elim), _, _, _, rfl, hVn⟩
        | 3, _ =>
          intro u wx S o ho hE hr hd hw
          injection (ho : some _ = some o) with ho
          subst ho
          have hEx : Ext X wx := hE.undrew
          simp only [fr, dstOf]
          go_simp
          go_wp2
          first | exact ⟨Upd.refl _ _, rfl⟩ | exact ⟨_, rfl, Upd.refl _ _, rfl⟩
        | 4, _ =>
          intro u wx S o ho hE hr hd hw
          injection (ho : some _ = some o) with ho
          subst ho
          have hEx : Ext X wx := hE.undrew
          have f3 : u 3 = .pointer (some ⟨g, 0, none⟩) := hw 3 (by omega) (by kernel_rfl) (by simp)
          have cx := hEx.cellv x0
          simp only [fr, dstOf]
          go_simp
          go_wp2
          first | exact ⟨Upd.refl _ _, rfl⟩ | exact ⟨_, rfl, Upd.refl _ _, rfl⟩
        | 5, _ =>
          intro u wx S o ho hE hr hd hw
          injection (ho : some _ = some o) with ho
          subst ho
          have hEx : Ext X wx := hE.undrew
          have f0 : u 0 = .pointer (some ⟨gr, 0, none⟩) := hw 0 (by omega) (by kernel_rfl) (by simp)
          obtain ⟨aA2, aL2, aC2, f2, hV2⟩ : FG.J 2 (.val (.p (natP (G)))) u wx (S 2) := hw 2 (by omega) (by kernel_rfl) (by simp)
          have f4 : u 4 = .agg #[.slice A0 l0 c0] := hw 4 (by omega) (by kernel_rfl) (by simp)
          simp only [fr, dstOf]
          go_simp
          go_wp2_with fail
          refine (gExp_any gr P Q G H 32 _ _ _ G m0 32 (hGX.ext hEx) hV2 (n0.ext (hrX.trans hEx)) hGf hP hF0 (by omega) (by omega)).mono ?_
          rintro e wn ⟨A20, l20, c20, rfl, hVn, hU⟩
          go_wp2_with fail
          first | exact ⟨_, rfl, hU.mono (fun _ _ h => h.elim), _, _, _, rfl, (by rw [Haa.out]; exact hVn)⟩ | exact ⟨hU.mono (fun _ _ h => h.elim), _, _, _, rfl, (by rw [Haa.out]; exact hVn)⟩
        | 6, _ =>
          intro u wx S o ho hE hr hd hw
          injection (ho : some _ = some o) with ho
          subst ho
          have hEx : Ext X wx := hE.undrew
          simp only [fr, dstOf]
          go_simp
          go_wp2
          first | exact ⟨Upd.refl _ _, rfl⟩ | exact ⟨_, rfl, Upd.refl _ _, rfl⟩
        | 7, _ =>
          intro u wx S o ho hE hr hd hw
          injection (ho : some _ = some o) with ho
          subst ho
          have hEx : Ext X wx := hE.undrew
          simp only [fr, dstOf]
          go_simp
          go_wp2
          first | exact ⟨Upd.refl _ _, rfl⟩ | exact ⟨_, rfl, Upd.refl _ _, rfl⟩
        | 8, _ =>
          intro u wx S o ho hE hr hd hw
          injection (ho : some _ = some o) with ho
          subst ho
          have hEx : Ext X wx := hE.undrew
          have f7 : u 7 = .pointer (some ⟨gr, 0, none⟩) := hw 7 (by omega) (by kernel_rfl) (by simp)
          simp only [fr, dstOf]
          go_simp
          go_wp2_with fail
          refine (gG_any gr P Q G H _ (hGX.ext hEx)).mono ?_
          rintro e wn ⟨A20, l20, c20, rfl, hVn, hU⟩
          go_wp2_with fail
          first | exact ⟨_, rfl, hU.mono (fun _ _ h => h.elim), _, _, _, rfl, hVn⟩ | exact ⟨hU.mono (fun _ _ h => h.elim), _, _, _, rfl, hVn⟩
        | 9, _ =>
          intro u wx S o ho hE hr hd hw
          injection (ho : some _ = some o) with ho
          subst ho
          have hEx : Ext X wx := hE.undrew
          simp only [fr, dstOf]
          go_simp
          go_wp2
          first | exact ⟨Upd.refl _ _, rfl⟩ | exact ⟨_, rfl, Upd.refl _ _, rfl⟩
        | 10, _ =>
          intro u wx S o ho hE hr hd hw
          injection (ho : some _ = some o) with ho
          subst ho
          have hEx : Ext X wx := hE.undrew
          have f9 : u 9 = .pointer (some ⟨g, 1, none⟩) := hw 9 (by omega) (by kernel_rfl) (by simp)
          have cx := hEx.cellv x1
          simp only [fr, dstOf]
          go_simp
          go_wp2
          first | exact ⟨Upd.refl _ _, rfl⟩ | exact ⟨_, rfl, Upd.refl _ _, rfl⟩
        | 11, _ =>
          intro u wx S o ho hE hr hd hw
          injection (ho : some _ = some o) with ho
          subst ho
          have hEx : Ext X wx := hE.undrew
          have f6 : u 6 = .pointer (some ⟨gr, 0, none⟩) := hw 6 (by omega) (by kernel_rfl) (by simp)
          obtain ⟨aA8, aL8, aC8, f8, hV8⟩ : FG.J 8 (.val (.p (natP (G)))) u wx (S 8) := hw 8 (by omega) (by kernel_rfl) (by simp)
          have f10 : u 10 = .agg #[.slice A1 l1 c1] := hw 10 (by omega) (by kernel_rfl) (by simp)
          simp only [fr, dstOf]
          go_simp
          go_wp2_with fail
          refine (gExp_any gr P Q G H 32 _ _ _ G m1 32 (hGX.ext hEx) hV8 (n1.ext (hrX.trans hEx)) hGf hP hF1 (by omega) (by omega)).mono ?_
          rintro e wn ⟨A20, l20, c20, rfl, hVn, hU⟩
          go_wp2_with fail
          first | exact ⟨_, rfl, hU.mono (fun _ _ h => h.elim), _, _, _, rfl, (by rw [Hbb.out]; exact hVn)⟩ | exact ⟨hU.mono (fun _ _ h => h.elim), _, _, _, rfl, (by rw [Hbb.out]; exact hVn)⟩
        | 12, _ =>
          intro u wx S o ho hE hr hd hw
          injection (ho : some _ = some o) with ho
          subst ho
          have hEx : Ext X wx := hE.undrew
          simp only [fr, dstOf]
          go_simp
          go_wp2
          first | exact ⟨(Upd.refl _ _).alloc _, wx.heap.size, rfl, Bx.new _ _ _, ⟨Nat.le_refl _, by first | exact Nat.lt_succ_self _ | simp⟩, fun b hb => by first | omega | (simp at hb; omega)⟩ | exact ⟨_, rfl, (Upd.refl _ _).alloc _, wx.heap.size, rfl, Bx.new _ _ _, ⟨Nat.le_refl _, by first | exact Nat.lt_succ_self _ | simp⟩, fun b hb => by first | omega | (simp at hb; omega)⟩
        | 13, _ =>
          intro u wx S o ho hE hr hd hw
          injection (ho : some _ = some o) with ho
          subst ho
          have hEx : Ext X wx := hE.undrew
          simp only [fr, dstOf]
          go_simp
          go_wp2
          first | exact ⟨(Upd.refl _ _).alloc _, wx.heap.size, rfl, Bx.new _ _ _, ⟨Nat.le_refl _, by first | exact Nat.lt_succ_self _ | simp⟩, fun b hb => by first | omega | (simp at hb; omega)⟩ | exact ⟨_, rfl, (Upd.refl _ _).alloc _, wx.heap.size, rfl, Bx.new _ _ _, ⟨Nat.le_refl _, by first | exact Nat.lt_succ_self _ | simp⟩, fun b hb => by first | omega | (simp at hb; omega)⟩
        | 14, _ =>
          intro u wx S o ho hE hr hd hw
          injection (ho : some _ = some o) with ho
          subst ho
          have hEx : Ext X wx := hE.undrew
          obtain ⟨aA5, aL5, aC5, f5, hV5⟩ : FG.J 5 (.val (.p (natP (aa)))) u wx (S 5) := hw 5 (by omega) (by kernel_rfl) (by simp)
          obtain ⟨g12, f12, hb12, hs12, hall12⟩ : FG.J 12 (.new 33 (.slice none 0 0)) u wx (S 12) := hw 12 (by omega) (by kernel_rfl) (by simp)
          have cg12 := hb12.cell
          have fg12 := hb12.frozen
          simp only [fr, dstOf]
          go_simp
          go_wp2
          first | exact ⟨(Upd.refl _ _).setCell (p := ⟨g12, 0, none⟩) (.inl hs12) _, undef, g12, _, (updf_ne u _ (by decide)).trans f12, hb12.set _, .inr hs12, ⟨_, _, _, rfl, hV5.far cg12⟩⟩ | exact ⟨undef, (Upd.refl _ _).setCell (p := ⟨g12, 0, none⟩) (.inl hs12) _, g12, _, (updf_ne u _ (by decide)).trans f12, hb12.set _, .inr hs12, ⟨_, _, _, rfl, hV5.far cg12⟩⟩ | exact ⟨trivial, (Upd.refl _ _).setCell (p := ⟨g12, 0, none⟩) (.inl hs12) _, undef, g12, _, (updf_ne u _ (by decide)).trans f12, hb12.set _, .inr hs12, ⟨_, _, _, rfl, hV5.far cg12⟩⟩
        | k + 15, h => exact absurd h (by omega)
      · intro u wx S hE hw hrg hdj
        have hEx : Ext X wx := hE.undrew
        have f0 : u 0 = .pointer (some ⟨gr, 0, none⟩) := hw 0 (by omega) (by simp)
        have f1 : u 1 = .pointer (some ⟨gr, 0, none⟩) := hw 1 (by omega) (by simp)
        obtain ⟨aA2, aL2, aC2, f2, hV2⟩ : FG.J 2 (.val (.p (natP (G)))) u wx (S 2) := hw 2 (by omega) (by simp)
        have f3 : u 3 = .pointer (some ⟨g, 0, none⟩) := hw 3 (by omega) (by simp)
        have f4 : u 4 = .agg #[.slice A0 l0 c0] := hw 4 (by omega) (by simp)
        obtain ⟨aA5, aL5, aC5, f5, hV5⟩ : FG.J 5 (.val (.p (natP (aa)))) u wx (S 5) := hw 5 (by omega) (by simp)
        have f6 : u 6 = .pointer (some ⟨gr, 0, none⟩) := hw 6 (by omega) (by simp)
        have f7 : u 7 = .pointer (some ⟨gr, 0, none⟩) := hw 7 (by omega) (by simp)
        obtain ⟨aA8, aL8, aC8, f8, hV8⟩ : FG.J 8 (.val (.p (natP (G)))) u wx (S 8) := hw 8 (by omega) (by simp)
        have f9 : u 9 = .pointer (some ⟨g, 1, none⟩) := hw 9 (by omega) (by simp)
        have f10 : u 10 = .agg #[.slice A1 l1 c1] := hw 10 (by omega) (by simp)
        obtain ⟨aA11, aL11, aC11, f11, hV11⟩ : FG.J 11 (.val (.p (natP (bb)))) u wx (S 11) := hw 11 (by omega) (by simp)
        obtain ⟨g13, f13, hb13, hs13, hall13⟩ : FG.J 13 (.new 33 (.slice none 0 0)) u wx (S 13) := hw 13 (by omega) (by simp)
        obtain ⟨g14, _, f12, hb14, hs14, ⟨aA14, aL14, aC14, rfl, hV14⟩⟩ : FG.J 14 (.set 12 33 (natC (aa))) u wx (S 14) := hw 14 (by omega) (by simp)
        simp only [fr, dstOf]
        go_simp
        have cg := hb13.cell
        have fg := hb13.frozen
        have hgx : X.heap.size ≤ g13 := (hrg 13 g13 hs13).1
        have hne : g14 ≠ g13 := fun e => absurd (hdj 13 14 g13 hs13 (e ▸ hs14)) (by omega)
        have hV22 := hV14.far (v := .slice aA11 aL11 aC11) cg
        have hV23 := hV11.far (v := .slice aA11 aL11 aC11) cg
        have b22 : Box (wx.setCell ⟨g13, 0, none⟩ (.slice aA11 aL11 aC11)) g14 33 (.slice aA14 aL14 aC14) := Bx.upd (T := fun k => k = g13) hb14 ((Upd.refl (fun k => k = g13) wx).setCell (p := ⟨g13, 0, none⟩) (.inl rfl) _) hne
        have b23 : Box (wx.setCell ⟨g13, 0, none⟩ (.slice aA11 aL11 aC11)) g13 33 (.slice aA11 aL11 aC11) := Box.set (Box.bx hb13) _
        have hxY : Ext X (wx.setCell ⟨g13, 0, none⟩ (.slice aA11 aL11 aC11)) := hEx.setCell (p := ⟨g13, 0, none⟩) (.inr hgx) _
        obtain ⟨B22, k22, d22, hD⟩ : ∃ a b c, (a, b, c) = (aA14, aL14, aC14) := ⟨_, _, _, rfl⟩
        injection hD with e1 e2
        injection e2 with e2 e3
        subst e1 e2 e3
        obtain ⟨B23, k23, d23, hD⟩ : ∃ a b c, (a, b, c) = (aA11, aL11, aC11) := ⟨_, _, _, rfl⟩
        injection hD with e1 e2
        injection e2 with e2 e3
        subst e1 e2 e3
        clear hw hrg hdj hall13
        go_wp2_with fail
        refine name_w (fun Y hY => ?_)
        rw [← hY] at hV22 hV23 b22 b23 hxY
        clear hY cg fg hgx hne hEx
        have q22 := b22.cell
        have q23 := b23.cell
        have hBY := hBX.ext hxY
        have y2 := hBY.at 2 rfl
        have y3 := hBY.at 3 rfl
        have hrY := hrX.trans hxY
        have hGY := hGX.ext hxY
        have hEY := hEX.trans hxY
        have hRY := hRX.ext hxY
        clear x0 x1 hBX hGX hEX hRX hrX hxY
        have hFyn : Fit 32 (aa ^ m2 % P) := hP.le (Nat.le_of_lt (Nat.mod_lt _ (by omega)))
        have hFzn : Fit 32 (bb ^ m3 % P) := hP.le (Nat.le_of_lt (Nat.mod_lt _ (by omega)))
        obtain ⟨yn, hyn⟩ : ∃ y, y = aa ^ m2 % P := ⟨_, rfl⟩
        obtain ⟨zn, hzn⟩ : ∃ y, y = bb ^ m3 % P := ⟨_, rfl⟩
        rw [← hyn] at hFyn
        rw [← hzn] at hFzn
        have Hyn := hide hyn
        have Hzn := hide hzn
        clear hyn hzn
        refine wp_region_mono 14 (fun i => ([MF.eq (.agg #[.slice B22 k22 d22]), MF.eq (.agg #[.slice B23 k23 d23]), MF.eq (.pointer (some ⟨gr, 0, none⟩)), MF.eq (.agg #[.slice B22 k22 d22]), MF.eq (.pointer (some ⟨g, 2, none⟩)), MF.eq (.agg #[.slice A2 l2 c2]), natMM (yn), MF.eq (.pointer (some ⟨gr, 0, none⟩)), MF.eq (.agg #[.slice B23 k23 d23]), MF.eq (.pointer (some ⟨g, 3, none⟩)), MF.eq (.agg #[.slice A3 l3 c3]), natMM (zn), clM (.slice B22 k22 d22) (.slice B23 k23 d23) yn zn, blk4M Y.heap.size 88] : List MF).getD i (MF.eq undef)) (by kernel_rfl) (by kernel_rfl) ?_ ?_
        · intro i hi
          match i, hi with
          | 0, _ =>
            intro u wx o ho hE hw
            injection (ho : some _ = some o) with ho
            subst ho
            have hEx : Ext Y wx := hE.undrew
            simp only [fr, dstOf]
            go_simp
            have cx := hEx.cellv q22
            go_wp2
            first | exact Upd.refl _ _ | exact ⟨trivial, Upd.refl _ _⟩ | exact ⟨_, rfl, Upd.refl _ _, rfl⟩ | exact ⟨Upd.refl _ _, rfl⟩
          | 1, _ =>
            intro u wx o ho hE hw
            injection (ho : some _ = some o) with ho
            subst ho
            have hEx : Ext Y wx := hE.undrew
            simp only [fr, dstOf]
            go_simp
            have cx := hEx.cellv q23
            go_wp2
            first | exact Upd.refl _ _ | exact ⟨trivial, Upd.refl _ _⟩ | exact ⟨_, rfl, Upd.refl _ _, rfl⟩ | exact ⟨Upd.refl _ _, rfl⟩
          | 2, _ =>
            intro u wx o ho hE hw
            injection (ho : some _ = some o) with ho
            subst ho
            have hEx : Ext Y wx := hE.undrew
            simp only [fr, dstOf]
            go_simp
            go_wp2
            first | exact Upd.refl _ _ | exact ⟨_, rfl, Upd.refl _ _, rfl⟩ | exact ⟨Upd.refl _ _, rfl⟩
          | 3, _ =>
            intro u wx o ho hE hw
            injection (ho : some _ = some o) with ho
            subst ho
            have hEx : Ext Y wx := hE.undrew
            simp only [fr, dstOf]
            go_simp
            have cx := hEx.cellv q22
            go_wp2
            first | exact Upd.refl _ _ | exact ⟨trivial, Upd.refl _ _⟩ | exact ⟨_, rfl, Upd.refl _ _, rfl⟩ | exact ⟨Upd.refl _ _, rfl⟩
          | 4, _ =>
            intro u wx o ho hE hw
            injection (ho : some _ = some o) with ho
            subst ho
            have hEx : Ext Y wx := hE.undrew
            simp only [fr, dstOf]
            go_simp
            go_wp2
            first | exact Upd.refl _ _ | exact ⟨trivial, Upd.refl _ _⟩ | exact ⟨_, rfl, Upd.refl _ _, rfl⟩ | exact ⟨Upd.refl _ _, rfl⟩
          | 5, _ =>
            intro u wx o ho hE hw
            injection (ho : some _ = some o) with ho
            subst ho
            have hEx : Ext Y wx := hE.undrew
            have f4 : u 4 = .pointer (some ⟨g, 2, none⟩) := hw 4 (by omega) (by kernel_rfl)
            simp only [fr, dstOf]
            go_simp
            have cx := hEx.cellv y2
            go_wp2
            first | exact Upd.refl _ _ | exact ⟨trivial, Upd.refl _ _⟩ | exact ⟨_, rfl, Upd.refl _ _, rfl⟩ | exact ⟨Upd.refl _ _, rfl⟩
          | 6, _ =>
            intro u wx o ho hE hw
            injection (ho : some _ = some o) with ho
            subst ho
            have hEx : Ext Y wx := hE.undrew
            have f2 : u 2 = .pointer (some ⟨gr, 0, none⟩) := hw 2 (by omega) (by kernel_rfl)
            have f3 : u 3 = .agg #[.slice B22 k22 d22] := hw 3 (by omega) (by kernel_rfl)
            have f5 : u 5 = .agg #[.slice A2 l2 c2] := hw 5 (by omega) (by kernel_rfl)
            simp only [fr, dstOf]
            go_simp
            go_wp2_with fail
            refine (gExp_any gr P Q G H 32 _ _ _ aa m2 32 (hGY.ext hEx) (hV22.ext hEx) (n2.ext (hrY.trans hEx)) hFa hP hF2 (by omega) (by omega)).mono ?_
            rintro e wn ⟨A9, l9, c9, rfl, hVn, hU⟩
            go_wp2_with fail
            first | exact ⟨_, rfl, hU, natMM_mk ⟨_, _, _, rfl, by rw [Hyn.out]; exact hVn⟩⟩ | exact ⟨hU, natMM_mk ⟨_, _, _, rfl, by rw [Hyn.out]; exact hVn⟩⟩
          | 7, _ =>
            intro u wx o ho hE hw
            injection (ho : some _ = some o) with ho
            subst ho
            have hEx : Ext Y wx := hE.undrew
            simp only [fr, dstOf]
            go_simp
            go_wp2
            first | exact Upd.refl _ _ | exact ⟨_, rfl, Upd.refl _ _, rfl⟩ | exact ⟨Upd.refl _ _, rfl⟩
          | 8, _ =>
            intro u wx o ho hE hw
            injection (ho : some _ = some o) with ho
            subst ho
            have hEx : Ext Y wx := hE.undrew
            simp only [fr, dstOf]
            go_simp
            have cx := hEx.cellv q23
            go_wp2
            first | exact Upd.refl _ _ | exact ⟨trivial, Upd.refl _ _⟩ | exact ⟨_, rfl, Upd.refl _ _, rfl⟩ | exact ⟨Upd.refl _ _, rfl⟩
          | 9, _ =>
            intro u wx o ho hE hw
            injection (ho : some _ = some o) with ho
            subst ho
            have hEx : Ext Y wx := hE.undrew
            simp only [fr, dstOf]
            go_simp
            go_wp2
            first | exact Upd.refl _ _ | exact ⟨trivial, Upd.refl _ _⟩ | exact ⟨_, rfl, Upd.refl _ _, rfl⟩ | exact ⟨Upd.refl _ _, rfl⟩
          | 10, _ =>
            intro u wx o ho hE hw
            injection (ho : some _ = some o) with ho
            subst ho
            have hEx : Ext Y wx := hE.undrew
            have f9 : u 9 = .pointer (some ⟨g, 3, none⟩) := hw 9 (by omega) (by kernel_rfl)
            simp only [fr, dstOf]
            go_simp
            have cx := hEx.cellv y3
            go_wp2
            first | exact Upd.refl _ _ | exact ⟨trivial, Upd.refl _ _⟩ | exact ⟨_, rfl, Upd.refl _ _, rfl⟩ | exact ⟨Upd.refl _ _, rfl⟩
          | 11, _ =>
            intro u wx o ho hE hw
            injection (ho : some _ = some o) with ho
            subst ho
            have hEx : Ext Y wx := hE.undrew
            have f7 : u 7 = .pointer (some ⟨gr, 0, none⟩) := hw 7 (by omega) (by kernel_rfl)
            have f8 : u 8 = .agg #[.slice B23 k23 d23] := hw 8 (by omega) (by kernel_rfl)
            have f10 : u 10 = .agg #[.slice A3 l3 c3] := hw 10 (by omega) (by kernel_rfl)
            simp only [fr, dstOf]
            go_simp
            go_wp2_with fail
            refine (gExp_any gr P Q G H 32 _ _ _ bb m3 32 (hGY.ext hEx) (hV23.ext hEx) (n3.ext (hrY.trans hEx)) hFb hP hF3 (by omega) (by omega)).mono ?_
            rintro e wn ⟨A9, l9, c9, rfl, hVn, hU⟩
            go_wp2_with fail
            first | exact ⟨_, rfl, hU, natMM_mk ⟨_, _, _, rfl, by rw [Hzn.out]; exact hVn⟩⟩ | exact ⟨hU, natMM_mk ⟨_, _, _, rfl, by rw [Hzn.out]; exact hVn⟩⟩
          | 12, _ =>
            intro u wx o ho hE hw
            injection (ho : some _ = some o) with ho
            subst ho
            have hEx : Ext Y wx := hE.undrew
            have f0 : u 0 = .agg #[.slice B22 k22 d22] := hw 0 (by omega) (by kernel_rfl)
            have f1 : u 1 = .agg #[.slice B23 k23 d23] := hw 1 (by omega) (by kernel_rfl)
            obtain ⟨aA6, aL6, aC6, f6, hV6⟩ := natMM_out (hw 6 (by omega) (by kernel_rfl))
            obtain ⟨aA11, aL11, aC11, f11, hV11⟩ := natMM_out (hw 11 (by omega) (by kernel_rfl))
            simp only [fr, dstOf]
            go_simp
            go_wp2
            first | exact ⟨_, rfl, Upd.refl _ _, clM_mk ⟨_, _, _, _, _, _, rfl, hV6, hV11⟩⟩ | exact ⟨Upd.refl _ _, clM_mk ⟨_, _, _, _, _, _, rfl, hV6, hV11⟩⟩
          | 13, _ =>
            intro u wx o ho hE hw
            injection (ho : some _ = some o) with ho
            subst ho
            have hEx : Ext Y wx := hE.undrew
            simp only [fr, dstOf]
            go_simp
            go_wp2
            first | exact ⟨_, rfl, (Upd.refl _ _).alloc _, blk4M_mk ⟨_, rfl, hEx.size, Blk.new _ _ _⟩⟩ | exact ⟨(Upd.refl _ _).alloc _, blk4M_mk ⟨_, rfl, hEx.size, Blk.new _ _ _⟩⟩
          | k + 14, h => exact absurd h (by omega)
        · intro u wx hE hJ
          have hEx : Ext Y wx := hE.undrew
          have f0 : u 0 = .agg #[.slice B22 k22 d22] := hJ 0 (by omega)
          have f1 : u 1 = .agg #[.slice B23 k23 d23] := hJ 1 (by omega)
          have f2 : u 2 = .pointer (some ⟨gr, 0, none⟩) := hJ 2 (by omega)
          have f3 : u 3 = .agg #[.slice B22 k22 d22] := hJ 3 (by omega)
          have f4 : u 4 = .pointer (some ⟨g, 2, none⟩) := hJ 4 (by omega)
          have f5 : u 5 = .agg #[.slice A2 l2 c2] := hJ 5 (by omega)
          obtain ⟨aA6, aL6, aC6, f6, hV6⟩ := natMM_out (hJ 6 (by omega))
          have f7 : u 7 = .pointer (some ⟨gr, 0, none⟩) := hJ 7 (by omega)
          have f8 : u 8 = .agg #[.slice B23 k23 d23] := hJ 8 (by omega)
          have f9 : u 9 = .pointer (some ⟨g, 3, none⟩) := hJ 9 (by omega)
          have f10 : u 10 = .agg #[.slice A3 l3 c3] := hJ 10 (by omega)
          obtain ⟨aA11, aL11, aC11, f11, hV11⟩ := natMM_out (hJ 11 (by omega))
          obtain ⟨aA12, aL12, aC12, aB12, aM12, aD12, f12, hV12, hW12⟩ := clM_out (hJ 12 (by omega))
          obtain ⟨g13, f13, hg13, hb13⟩ := blk4M_out (hJ 13 (by omega))
          clear hJ
          simp only [fr, dstOf]
          go_simp
          try simp only [List.drop_succ_cons, List.drop_zero]
          have z0 := hb13.at 0 rfl
          have z1 := hb13.at 1 rfl
          have z2 := hb13.at 2 rfl
          have z3 := hb13.at 3 rfl
          have w0 := hb13.frozen 0
          have w1 := hb13.frozen 1
          have w2 := hb13.frozen 2
          have w3 := hb13.frozen 3
          have hB4 := blk4 hb13 (.slice B22 k22 d22) (.slice B23 k23 d23) (.slice aA12 aL12 aC12) (.slice aB12 aM12 aD12)
          have hVy := nat4 (b0 := B22) (m0 := k22) (d0 := d22) (b1 := B23) (m1 := k23) (d1 := d23) (b2 := aA12) (m2 := aL12) (d2 := aC12) (b3 := aB12) (m3 := aM12) (d3 := aD12) hV12 hb13
          have hVz := nat4 (b0 := B22) (m0 := k22) (d0 := d22) (b1 := B23) (m1 := k23) (d1 := d23) (b2 := aA12) (m2 := aL12) (d2 := aC12) (b3 := aB12) (m3 := aM12) (d3 := aD12) hW12 hb13
          have hxZ := ext4 hEx hg13 (.slice B22 k22 d22) (.slice B23 k23 d23) (.slice aA12 aL12 aC12) (.slice aB12 aM12 aD12)
          obtain ⟨D2, p2, s2, hD2⟩ : ∃ a b c, (a, b, c) = (aA12, aL12, aC12) := ⟨_, _, _, rfl⟩
          obtain ⟨D3, p3, s3, hD3⟩ : ∃ a b c, (a, b, c) = (aB12, aM12, aD12) := ⟨_, _, _, rfl⟩
          injection hD2 with e1 e2
          injection e2 with e2 e3
          subst e1 e2 e3
          injection hD3 with e1 e2
          injection e2 with e2 e3
          subst e1 e2 e3
          go_wp2_with fail
          refine name_w (fun Z hZ => ?_)
          rw [← hZ] at hB4 hVy hVz hxZ
          clear hZ hV12 hW12 hb13 hEx hg13 z0 z1 z2 z3 w0 w1 w2 w3 q22 q23 y2 y3 hV6 hV11
          have b22z := b22.ext hxZ
          have b23z := b23.ext hxZ
          have hBZ := hBY.ext hxZ
          have y4 := hBZ.at 4 rfl
          have y5 := hBZ.at 5 rfl
          have hrZ := hrY.trans hxZ
          have hGZ := hGY.ext hxZ
          have hEZ := hEY.trans hxZ
          have hRZ := hRY.ext hxZ
          have h22 := hV22.ext hxZ
          have h23 := hV23.ext hxZ
          clear b22 b23 hBY hrY hGY hEY hRY hV22 hV23 hxZ
          have hFu : Fit 32 (aa ^ m4 % P) := hP.le (Nat.le_of_lt (Nat.mod_lt _ (by omega)))
          have hFv : Fit 32 (bb ^ m5 % P) := hP.le (Nat.le_of_lt (Nat.mod_lt _ (by omega)))
          obtain ⟨un, hun⟩ : ∃ y, y = aa ^ m4 % P := ⟨_, rfl⟩
          obtain ⟨vn, hvn⟩ : ∃ y, y = bb ^ m5 % P := ⟨_, rfl⟩
          rw [← hun] at hFu
          rw [← hvn] at hFv
          have Hun := hide hun
          have Hvn := hide hvn
          clear hun hvn
          refine wp_region_fg 13 [.val (.eq (.pointer (some ⟨gr, 0, none⟩))), .val (.eq (.agg #[.slice B22 k22 d22])), .val (.eq (.pointer (some ⟨g, 4, none⟩))), .val (.eq (.agg #[.slice A4 l4 c4])), .val (.p (natP (un))), .val (.eq (.pointer (some ⟨gr, 0, none⟩))), .val (.eq (.agg #[.slice B23 k23 d23])), .val (.eq (.pointer (some ⟨g, 5, none⟩))), .val (.eq (.agg #[.slice A5 l5 c5])), .val (.p (natP (vn))), .new 33 (.slice none 0 0), .new 33 (.slice none 0 0), .set 10 33 (natC (un))] [(12, 10)] (by kernel_rfl) rfl (by kernel_rfl) (by kernel_rfl) (by kernel_rfl) ?_ ?_
          · intro i hi
            match i, hi with
            | 0, _ =>
              intro u wx S o ho hE hr hd hw
              injection (ho : some _ = some o) with ho
              subst ho
              have hEx : Ext Z wx := hE.undrew
              simp only [fr, dstOf]
              go_simp
              go_wp2
              first | exact ⟨Upd.refl _ _, rfl⟩ | exact ⟨_, rfl, Upd.refl _ _, rfl⟩
            | 1, _ =>
              intro u wx S o ho hE hr hd hw
              injection (ho : some _ = some o) with ho
              subst ho
              have hEx : Ext Z wx := hE.undrew
              have cx := (b22z.ext hEx).cell
              simp only [fr, dstOf]
              go_simp
              go_wp2
              first | exact ⟨Upd.refl _ _, rfl⟩ | exact ⟨_, rfl, Upd.refl _ _, rfl⟩
            | 2, _ =>
              intro u wx S o ho hE hr hd hw
              injection (ho : some _ = some o) with ho
              subst ho
              have hEx : Ext Z wx := hE.undrew
              simp only [fr, dstOf]
              go_simp
              go_wp2
              first | exact ⟨Upd.refl _ _, rfl⟩ | exact ⟨_, rfl, Upd.refl _ _, rfl⟩
            | 3, _ =>
              intro u wx S o ho hE hr hd hw
              injection (ho : some _ = some o) with ho
              subst ho
              have hEx : Ext Z wx := hE.undrew
              have f2 : u 2 = .pointer (some ⟨g, 4, none⟩) := hw 2 (by omega) (by kernel_rfl) (by simp)
              have cx := hEx.cellv y4
              simp only [fr, dstOf]
              go_simp
              go_wp2
              first | exact ⟨Upd.refl _ _, rfl⟩ | exact ⟨_, rfl, Upd.refl _ _, rfl⟩
            | 4, _ =>
              intro u wx S o ho hE hr hd hw
              injection (ho : some _ = some o) with ho
              subst ho
              have hEx : Ext Z wx := hE.undrew
              have f0 : u 0 = .pointer (some ⟨gr, 0, none⟩) := hw 0 (by omega) (by kernel_rfl) (by simp)
              have f1 : u 1 = .agg #[.slice B22 k22 d22] := hw 1 (by omega) (by kernel_rfl) (by simp)
              have f3 : u 3 = .agg #[.slice A4 l4 c4] := hw 3 (by omega) (by kernel_rfl) (by simp)
              simp only [fr, dstOf]
              go_simp
              go_wp2_with fail
              refine (gExp_any gr P Q G H 32 _ _ _ aa m4 32 (hGZ.ext hEx) (h22.ext hEx) (n4.ext (hrZ.trans hEx)) hFa hP hF4 (by omega) (by omega)).mono ?_
              rintro e wn ⟨A20, l20, c20, rfl, hVn, hU⟩
              go_wp2_with fail
              first | exact ⟨_, rfl, hU.mono (fun _ _ h => h.elim), _, _, _, rfl, (by rw [Hun.out]; exact hVn)⟩ | exact ⟨hU.mono (fun _ _ h => h.elim), _, _, _, rfl, (by rw [Hun.out]; exact hVn)⟩
            | 5, _ =>
              intro u wx S o ho hE hr hd hw
              injection (ho : some _ = some o) with ho
              subst ho
              have hEx : Ext Z wx := hE.undrew
              simp only [fr, dstOf]
              go_simp
              go_wp2
              first | exact ⟨Upd.refl _ _, rfl⟩ | exact ⟨_, rfl, Upd.refl _ _, rfl⟩
            | 6, _ =>
              intro u wx S o ho hE hr hd hw
              injection (ho : some _ = some o) with ho
              subst ho
              have hEx : Ext Z wx := hE.undrew
              have cx := (b23z.ext hEx).cell
              simp only [fr, dstOf]
              go_simp
              go_wp2
              first | exact ⟨Upd.refl _ _, rfl⟩ | exact ⟨_, rfl, Upd.refl _ _, rfl⟩
            | 7, _ =>
              intro u wx S o ho hE hr hd hw
              injection (ho : some _ = some o) with ho
              subst ho
              have hEx : Ext Z wx := hE.undrew
              simp only [fr, dstOf]
              go_simp
              go_wp2
              first | exact ⟨Upd.refl _ _, rfl⟩ | exact ⟨_, rfl, Upd.refl _ _, rfl⟩
            | 8, _ =>
              intro u wx S o ho hE hr hd hw
              injection (ho : some _ = some o) with ho
              subst ho
              have hEx : Ext Z wx := hE.undrew
              have f7 : u 7 = .pointer (some ⟨g, 5, none⟩) := hw 7 (by omega) (by kernel_rfl) (by simp)
              have cx := hEx.cellv y5
              simp only [fr, dstOf]
              go_simp
              go_wp2
              first | exact ⟨Upd.refl _ _, rfl⟩ | exact ⟨_, rfl, Upd.refl _ _, rfl⟩
            | 9, _ =>
              intro u wx S o ho hE hr hd hw
              injection (ho : some _ = some o) with ho
              subst ho
              have hEx : Ext Z wx := hE.undrew
              have f5 : u 5 = .pointer (some ⟨gr, 0, none⟩) := hw 5 (by omega) (by kernel_rfl) (by simp)
              have f6 : u 6 = .agg #[.slice B23 k23 d23] := hw 6 (by omega) (by kernel_rfl) (by simp)
              have f8 : u 8 = .agg #[.slice A5 l5 c5] := hw 8 (by omega) (by kernel_rfl) (by simp)
              simp only [fr, dstOf]
              go_simp
              go_wp2_with fail
              refine (gExp_any gr P Q G H 32 _ _ _ bb m5 32 (hGZ.ext hEx) (h23.ext hEx) (n5.ext (hrZ.trans hEx)) hFb hP hF5 (by omega) (by omega)).mono ?_
              rintro e wn ⟨A20, l20, c20, rfl, hVn, hU⟩
              go_wp2_with fail
              first | exact ⟨_, rfl, hU.mono (fun _ _ h => h.elim), _, _, _, rfl, (by rw [Hvn.out]; exact hVn)⟩ | exact ⟨hU.mono (fun _ _ h => h.elim), _, _, _, rfl, (by rw [Hvn.out]; exact hVn)⟩
            | 10, _ =>
              intro u wx S o ho hE hr hd hw
              injection (ho : some _ = some o) with ho
              subst ho
              have hEx : Ext Z wx := hE.undrew
              simp only [fr, dstOf]
              go_simp
              go_wp2
              first | exact ⟨(Upd.refl _ _).alloc _, wx.heap.size, rfl, Bx.new _ _ _, ⟨Nat.le_refl _, by first | exact Nat.lt_succ_self _ | simp⟩, fun b hb => by first | omega | (simp at hb; omega)⟩ | exact ⟨_, rfl, (Upd.refl _ _).alloc _, wx.heap.size, rfl, Bx.new _ _ _, ⟨Nat.le_refl _, by first | exact Nat.lt_succ_self _ | simp⟩, fun b hb => by first | omega | (simp at hb; omega)⟩
            | 11, _ =>
              intro u wx S o ho hE hr hd hw
              injection (ho : some _ = some o) with ho
              subst ho
              have hEx : Ext Z wx := hE.undrew
              simp only [fr, dstOf]
              go_simp
              go_wp2
              first | exact ⟨(Upd.refl _ _).alloc _, wx.heap.size, rfl, Bx.new _ _ _, ⟨Nat.le_refl _, by first | exact Nat.lt_succ_self _ | simp⟩, fun b hb => by first | omega | (simp at hb; omega)⟩ | exact ⟨_, rfl, (Upd.refl _ _).alloc _, wx.heap.size, rfl, Bx.new _ _ _, ⟨Nat.le_refl _, by first | exact Nat.lt_succ_self _ | simp⟩, fun b hb => by first | omega | (simp at hb; omega)⟩
            | 12, _ =>
              intro u wx S o ho hE hr hd hw
              injection (ho : some _ = some o) with ho
              subst ho
              have hEx : Ext Z wx := hE.undrew
              obtain ⟨aA4, aL4, aC4, f4, hV4⟩ : FG.J 4 (.val (.p (natP (un)))) u wx (S 4) := hw 4 (by omega) (by kernel_rfl) (by simp)
              obtain ⟨g10, f10, hb10, hs10, hall10⟩ : FG.J 10 (.new 33 (.slice none 0 0)) u wx (S 10) := hw 10 (by omega) (by kernel_rfl) (by simp)
              have cg10 := hb10.cell
              have fg10 := hb10.frozen
              simp only [fr, dstOf]
              go_simp
              go_wp2
              first | exact ⟨(Upd.refl _ _).setCell (p := ⟨g10, 0, none⟩) (.inl hs10) _, undef, g10, _, (updf_ne u _ (by decide)).trans f10, hb10.set _, .inr hs10, ⟨_, _, _, rfl, hV4.far cg10⟩⟩ | exact ⟨undef, (Upd.refl _ _).setCell (p := ⟨g10, 0, none⟩) (.inl hs10) _, g10, _, (updf_ne u _ (by decide)).trans f10, hb10.set _, .inr hs10, ⟨_, _, _, rfl, hV4.far cg10⟩⟩ | exact ⟨trivial, (Upd.refl _ _).setCell (p := ⟨g10, 0, none⟩) (.inl hs10) _, undef, g10, _, (updf_ne u _ (by decide)).trans f10, hb10.set _, .inr hs10, ⟨_, _, _, rfl, hV4.far cg10⟩⟩
            | k + 13, h => exact absurd h (by omega)
          · intro u wx S hE hw hrg hdj
            have hEx : Ext Z wx := hE.undrew
            have f0 : u 0 = .pointer (some ⟨gr, 0, none⟩) := hw 0 (by omega) (by simp)
            have f1 : u 1 = .agg #[.slice B22 k22 d22] := hw 1 (by omega) (by simp)
            have f2 : u 2 = .pointer (some ⟨g, 4, none⟩) := hw 2 (by omega) (by simp)
            have f3 : u 3 = .agg #[.slice A4 l4 c4] := hw 3 (by omega) (by simp)
            obtain ⟨aA4, aL4, aC4, f4, hV4⟩ : FG.J 4 (.val (.p (natP (un)))) u wx (S 4) := hw 4 (by omega) (by simp)
            have f5 : u 5 = .pointer (some ⟨gr, 0, none⟩) := hw 5 (by omega) (by simp)
            have f6 : u 6 = .agg #[.slice B23 k23 d23] := hw 6 (by omega) (by simp)
            have f7 : u 7 = .pointer (some ⟨g, 5, none⟩) := hw 7 (by omega) (by simp)
            have f8 : u 8 = .agg #[.slice A5 l5 c5] := hw 8 (by omega) (by simp)
            obtain ⟨aA9, aL9, aC9, f9, hV9⟩ : FG.J 9 (.val (.p (natP (vn)))) u wx (S 9) := hw 9 (by omega) (by simp)
            obtain ⟨g11, f11, hb11, hs11, hall11⟩ : FG.J 11 (.new 33 (.slice none 0 0)) u wx (S 11) := hw 11 (by omega) (by simp)
            obtain ⟨g12, _, f10, hb12, hs12, ⟨aA12, aL12, aC12, rfl, hV12⟩⟩ : FG.J 12 (.set 10 33 (natC (un))) u wx (S 12) := hw 12 (by omega) (by simp)
            simp only [fr, dstOf]
            go_simp
            have cg := hb11.cell
            have fg := hb11.frozen
            have hgx : Z.heap.size ≤ g11 := (hrg 11 g11 hs11).1
            have hne : g12 ≠ g11 := fun e => absurd (hdj 11 12 g11 hs11 (e ▸ hs12)) (by omega)
            have hV25 := hV12.far (v := .slice aA9 aL9 aC9) cg
            have hV26 := hV9.far (v := .slice aA9 aL9 aC9) cg
            have b25 : Box (wx.setCell ⟨g11, 0, none⟩ (.slice aA9 aL9 aC9)) g12 33 (.slice aA12 aL12 aC12) := Bx.upd (T := fun k => k = g11) hb12 ((Upd.refl (fun k => k = g11) wx).setCell (p := ⟨g11, 0, none⟩) (.inl rfl) _) hne
            have b26 : Box (wx.setCell ⟨g11, 0, none⟩ (.slice aA9 aL9 aC9)) g11 33 (.slice aA9 aL9 aC9) := Box.set (Box.bx hb11) _
            have hxU : Ext Z (wx.setCell ⟨g11, 0, none⟩ (.slice aA9 aL9 aC9)) := hEx.setCell (p := ⟨g11, 0, none⟩) (.inr hgx) _
            obtain ⟨B25, k25, d25, hD⟩ : ∃ a b c, (a, b, c) = (aA12, aL12, aC12) := ⟨_, _, _, rfl⟩
            injection hD with e1 e2
            injection e2 with e2 e3
            subst e1 e2 e3
            obtain ⟨B26, k26, d26, hD⟩ : ∃ a b c, (a, b, c) = (aA9, aL9, aC9) := ⟨_, _, _, rfl⟩
            injection hD with e1 e2
            injection e2 with e2 e3
            subst e1 e2 e3
            clear hw hrg hdj hall11
            have hB4w := hB4.ext hxU
            have z0 := hB4w.at 0 rfl
            have z1 := hB4w.at 1 rfl
            have z2 := hB4w.at 2 rfl
            have z3 := hB4w.at 3 rfl
            have q25 := b25.cell
            have q26 := b26.cell
            go_wp2_with fail
            refine name_c (fun U hY => ?_)
            rw [← hY] at hV25 hV26 b25 b26 hxU
            clear hY cg fg hgx hne hEx
            clear z0 z1 z2 z3 q25 q26 hB4w
            have hB4u := hB4.ext hxU
            have hBU := hBZ.ext hxU
            have hrU := hrZ.trans hxU
            have hGU := hGZ.ext hxU
            have hEU := hEZ.trans hxU
            have hRU := hRZ.ext hxU
            have hVyu := hVy.ext hxU
            have hVzu := hVz.ext hxU
            have h22u := h22.ext hxU
            have h23u := h23.ext hxU
            clear b22z b23z hBZ hrZ hGZ hEZ hRZ h22 h23 hxU hB4 hVy hVz y4 y5 hV4
            have hFall : ∀ x ∈ [aa, bb, yn, zn, un, vn], Fit 32 x := by
              intro x hx
              simp only [List.mem_cons, List.mem_nil_iff, or_false] at hx
              rcases hx with rfl | rfl | rfl | rfl | rfl | rfl
              · exact hFa
              · exact hFb
              · exact hFyn
              · exact hFzn
              · exact hFu
              · exact hFv
            have HFall := hide hFall
            have hmem : [aa, bb, yn, zn, un, vn].all (memB P Q) = true := by
              have ga := gok_of Hma.out hP2 hQ64
              have gb := gok_of Hmb.out hP2 hQ64
              simp only [List.all_cons, List.all_nil, Hma.out, Hmb.out, Hyn.out, Hzn.out, Hun.out, Hvn.out, ga.mem, gb.mem]
              rfl
            have Hmem := hide hmem
            obtain ⟨ask, hask⟩ : ∃ x, x = ansN P Q [aa, bb, yn, zn, un, vn] side := ⟨_, rfl⟩
            have hkQ : ask < Q := by rw [hask]; exact ansN_lt (by omega)
            have hFk : Fit 32 ask := hQ.le (Nat.le_of_lt hkQ)
            have Hask := hide hask
            clear hFall hmem hask
            refine (dans_any gr P Q G H 32 U B22 B23 D2 D3 B25 B26 A k22 d22 k23 d23 p2 s2 p3 s3 k25 d25 k26 d26 n c aa bb yn zn un vn side hGU h22u h23u hVyu hVzu hV25 hV26 (HM.out.ext hEU) HFall.out hP hQ (by omega) (by omega) (by omega)).mono ?_
            rw [← Hask.out]
            rintro e u1 ⟨B27, k27, d27, rfl, hV27, hu1⟩
            go_wp2_with fail
            refine name_w (fun S hS => ?_)
            have hxS : Ext U S := by rw [hS]; exact hu1.alloc _
            have b27 : Box S u1.heap.size 33 (.slice B27 k27 d27) := by rw [hS]; exact Box.new _ _ _
            have h27 : NatV S (.agg #[.slice B27 k27 d27]) ask := by rw [hS]; exact hV27.ext ((Upd.refl _ _).alloc _)
            have hB4s := hB4u.ext hxS
            have hBS := hBU.ext hxS
            have hrS := hrU.trans hxS
            have hGS := hGU.ext hxS
            have hES := hEU.trans hxS
            have hRS := hRU.ext hxS
            have hVys := hVyu.ext hxS
            have hVzs := hVzu.ext hxS
            have h22s := h22u.ext hxS
            have h23s := h23u.ext hxS
            have b25s := b25.ext hxS
            have b26s := b26.ext hxS
            have h25s := hV25.ext hxS
            have h26s := hV26.ext hxS
            clear hS hV27 hu1 hB4u hBU hrU hGU hEU hRU hVyu hVzu h22u h23u b25 b26 hV25 hV26 hxS
            have hSd : Ext S S.drew := (Upd.refl _ _).drew
            have hB4d := hB4s.ext hSd
            have z0 := fun y : Wd (Ext S.drew) => y.ok.cellv (hB4d.at 0 rfl)
            have z1 := fun y : Wd (Ext S.drew) => y.ok.cellv (hB4d.at 1 rfl)
            have z2 := fun y : Wd (Ext S.drew) => y.ok.cellv (hB4d.at 2 rfl)
            have z3 := fun y : Wd (Ext S.drew) => y.ok.cellv (hB4d.at 3 rfl)
            have z4 := fun y : Wd (Ext S.drew) => y.ok.cellv (b25s.ext hSd).cell
            have z5 := fun y : Wd (Ext S.drew) => y.ok.cellv (b26s.ext hSd).cell
            have z6 := fun y : Wd (Ext S.drew) => y.ok.cellv (b27.ext hSd).cell
            refine wp_region_plan (Ext _) 12 [(false,0), (false,1), (false,3), (false,5), (false,7), (false,9), (true,2), (true,4), (true,6), (true,8), (true,10), (true,11)] (by kernel_rfl) (by kernel_rfl) (Upd.refl _ _) (fun hne => ?_)
            repeat (refine head_q rfl (fun K hK => ?_); have hK2 := hide hK; clear hK; go_simp; refine hK2.out _ ?_; clear hK2 K)
            refine head_l rfl ?_
            go_wp2_with (go_at_call 31; go_must (refine (gref_any gr P Q G H 32 _ (hGS.ext hSd) hP hQ hGf hHf (by omega)).mono ?_); rintro e v1 ⟨vg, rfl, hRG, hv1⟩)
            refine ⟨Cls (Ext _), fun _ h => h, ⟨⟨_, hv1⟩, rfl⟩, ?_⟩
            repeat (refine head_q rfl (fun K hK => ?_); have hK2 := hide hK; clear hK; go_simp; refine hK2.out _ ?_; clear hK2 K)
            refine head_l rfl ?_
            go_wp2_with (go_at_call 53; go_must (refine (dof_any _ _ _ _ _ _ _ _ _ _ _ _ aa bb yn zn 32 _ (h22s.ext (hSd.trans hv1)) (h23s.ext (hSd.trans hv1)) (hVys.ext (hSd.trans hv1)) (hVzs.ext (hSd.trans hv1)) hFa hFb hFyn hFzn (by omega)).mono ?_); rintro e v2 ⟨vc, rfl, hRC, hv2⟩; have hw2 := hv1.trans hv2)
            refine ⟨Cls (Ext _), fun _ h => h, ⟨⟨_, hw2⟩, rfl⟩, ?_⟩
            repeat (refine head_q rfl (fun K hK => ?_); have hK2 := hide hK; clear hK; go_simp; refine hK2.out _ ?_; clear hK2 K)
            refine head_l rfl ?_
            go_wp2_with (go_at_call 44; go_must (refine (gnum_any _ un 32 _ (h25s.ext (hSd.trans hw2)) hFu (by omega)).mono ?_); rintro e v3 ⟨A30, l30, c30, rfl, hRu, hv3⟩; have hw3 := hw2.trans hv3)
            refine ⟨Cls (Ext _), fun _ h => h, ⟨⟨_, hw3⟩, rfl⟩, ?_⟩
            repeat (refine head_q rfl (fun K hK => ?_); have hK2 := hide hK; clear hK; go_simp; refine hK2.out _ ?_; clear hK2 K)
            refine head_l rfl ?_
            go_wp2_with (go_at_call 44; go_must (refine (gnum_any _ vn 32 _ (h26s.ext (hSd.trans hw3)) hFv (by omega)).mono ?_); rintro e v4 ⟨A31, l31, c31, rfl, hRv, hv4⟩; have hw4 := hw3.trans hv4)
            refine ⟨Cls (Ext _), fun _ h => h, ⟨⟨_, hw4⟩, rfl⟩, ?_⟩
            repeat (refine head_q rfl (fun K hK => ?_); have hK2 := hide hK; clear hK; go_simp; refine hK2.out _ ?_; clear hK2 K)
            refine head_l rfl ?_
            go_wp2_with (go_at_call 52; go_must (refine (rans_any 1024 _ vg P Q G H vc _ _ aa bb yn zn un vn A n c side (hRG.ext ((hv2.trans hv3).trans hv4)) (hRC.ext (hv3.trans hv4)) (hRu.ext hv4) hRv (HM.out.ext (hES.trans (hSd.trans hw4))) Hmem.out hPb hQb (by omega) (by omega) (by omega) (by omega)).mono ?_); rw [← Hask.out]; rintro e v5 ⟨A32, l32, c32, rfl, hRa, hv5⟩; have hw5 := hw4.trans hv5)
            refine ⟨Cls (Ext _), fun _ h => h, ⟨⟨_, hw5⟩, rfl⟩, ?_⟩
            repeat (refine head_q rfl (fun K hK => ?_); have hK2 := hide hK; clear hK; go_simp; refine hK2.out _ ?_; clear hK2 K)
            refine head_l rfl ?_
            go_wp2_with (go_at_call 16; go_must (refine (lsame_any _ _ ask ask 32 _ (h27.ext (hSd.trans hw5)) hRa hFk hFk (by omega)).mono ?_); rw [decide_eq_true rfl]; rintro e v6 ⟨rfl, hv6⟩; have hw6 := hw5.trans hv6)
            refine ⟨Cls (Ext _), fun _ h => h, ⟨⟨_, hw6⟩, rfl⟩, ?_⟩
            repeat (refine head_q rfl (fun K hK => ?_); have hK2 := hide hK; clear hK; go_simp; refine hK2.out _ ?_; clear hK2 K)
            have hxM := hSd.trans hw6
            clear z0 z1 z2 z3 z4 z5 z6 hB4d hRG hRC hRu hRv hRa hv1 hv2 hv3 hv4 hv5 hv6 hw2 hw3 hw4 hw5 hw6 hSd
            refine head_nil ?_
            try simp only [List.drop_succ_cons, List.drop_zero]
            go_wp2_with fail
            refine name_w (fun M hM2 => ?_)
            subst hM2
            have hBM := hBS.ext hxM
            have x2 := hBM.at 2 rfl
            have x3 := hBM.at 3 rfl
            have x4 := hBM.at 4 rfl
            have x5 := hBM.at 5 rfl
            have b27m := b27.ext hxM
            have hrM := hrS.trans hxM
            have hGM := hGS.ext hxM
            have hEM := hES.trans hxM
            have hRM := hRS.ext hxM
            have h27m := h27.ext hxM
            have hB4m := hB4s.ext hxM
            have hVym := hVys.ext hxM
            have hVzm := hVzs.ext hxM
            have h22m := h22s.ext hxM
            have h23m := h23s.ext hxM
            clear hBS b27 hrS hGS hES hRS h27 hB4s hVys hVzs h22s h23s b25s b26s h25s h26s hxM HFall Hmem
            have hfiQ : (m4 + ask * m2 % Q) % Q < Q := Nat.mod_lt _ (by omega)
            have hseQ : (m5 + ask * m3 % Q) % Q < Q := Nat.mod_lt _ (by omega)
            have hFm2 : Fit 32 (ask * m2 % Q) := hQ.le (Nat.le_of_lt (Nat.mod_lt _ (by omega)))
            have hFm3 : Fit 32 (ask * m3 % Q) := hQ.le (Nat.le_of_lt (Nat.mod_lt _ (by omega)))
            obtain ⟨fi, hfi⟩ : ∃ x, x = (m4 + ask * m2 % Q) % Q := ⟨_, rfl⟩
            obtain ⟨se, hse⟩ : ∃ x, x = (m5 + ask * m3 % Q) % Q := ⟨_, rfl⟩
            rw [← hfi] at hfiQ
            rw [← hse] at hseQ
            have hFfi : Fit 32 fi := hQ.le (Nat.le_of_lt hfiQ)
            have hFse : Fit 32 se := hQ.le (Nat.le_of_lt hseQ)
            have Hfi := hide hfi
            have Hse := hide hse
            clear hfi hse
            refine wp_region_fg 21 [.val (.eq (.pointer (some ⟨gq, 0, none⟩))), .val (.eq (.pointer (some ⟨g, 4, none⟩))), .val (.eq (.agg #[.slice A4 l4 c4])), .val (.eq (.pointer (some ⟨gq, 0, none⟩))), .val (.eq (.agg #[.slice B27 k27 d27])), .val (.eq (.pointer (some ⟨g, 2, none⟩))), .val (.eq (.agg #[.slice A2 l2 c2])), .val (.p (natP (ask * m2 % Q))), .val (.p (natP (fi))), .val (.eq (.pointer (some ⟨gq, 0, none⟩))), .val (.eq (.pointer (some ⟨g, 5, none⟩))), .val (.eq (.agg #[.slice A5 l5 c5])), .val (.eq (.pointer (some ⟨gq, 0, none⟩))), .val (.eq (.agg #[.slice B27 k27 d27])), .val (.eq (.pointer (some ⟨g, 3, none⟩))), .val (.eq (.agg #[.slice A3 l3 c3])), .val (.p (natP (ask * m3 % Q))), .val (.p (natP (se))), .new 33 (.slice none 0 0), .new 33 (.slice none 0 0), .set 18 33 (natC (fi))] [(20, 18)] (by kernel_rfl) rfl (by kernel_rfl) (by kernel_rfl) (by kernel_rfl) ?_ ?_
            · intro i hi
              match i, hi with
              | 0, _ =>
                intro u wx S o ho hE hr hd hw
                injection (ho : some _ = some o) with ho
                subst ho
                have hEx : Ext M wx := hE.undrew
                simp only [fr, dstOf]
                go_simp
                go_wp2
                first | exact ⟨Upd.refl _ _, rfl⟩ | exact ⟨_, rfl, Upd.refl _ _, rfl⟩
              | 1, _ =>
                intro u wx S o ho hE hr hd hw
                injection (ho : some _ = some o) with ho
                subst ho
                have hEx : Ext M wx := hE.undrew
                simp only [fr, dstOf]
                go_simp
                go_wp2
                first | exact ⟨Upd.refl _ _, rfl⟩ | exact ⟨_, rfl, Upd.refl _ _, rfl⟩
              | 2, _ =>
                intro u wx S o ho hE hr hd hw
                injection (ho : some _ = some o) with ho
                subst ho
                have hEx : Ext M wx := hE.undrew
                have f1 : u 1 = .pointer (some ⟨g, 4, none⟩) := hw 1 (by omega) (by kernel_rfl) (by simp)
                have cx := hEx.cellv x4
                simp only [fr, dstOf]
                go_simp
                go_wp2
                first | exact ⟨Upd.refl _ _, rfl⟩ | exact ⟨_, rfl, Upd.refl _ _, rfl⟩
              | 3, _ =>
                intro u wx S o ho hE hr hd hw
                injection (ho : some _ = some o) with ho
                subst ho
                have hEx : Ext M wx := hE.undrew
                simp only [fr, dstOf]
                go_simp
                go_wp2
                first | exact ⟨Upd.refl _ _, rfl⟩ | exact ⟨_, rfl, Upd.refl _ _, rfl⟩
              | 4, _ =>
                intro u wx S o ho hE hr hd hw
                injection (ho : some _ = some o) with ho
                subst ho
                have hEx : Ext M wx := hE.undrew
                have cx := (b27m.ext hEx).cell
                simp only [fr, dstOf]
                go_simp
                go_wp2
                first | exact ⟨Upd.refl _ _, rfl⟩ | exact ⟨_, rfl, Upd.refl _ _, rfl⟩
              | 5, _ =>
                intro u wx S o ho hE hr hd hw
                injection (ho : some _ = some o) with ho
                subst ho
                have hEx : Ext M wx := hE.undrew
                simp only [fr, dstOf]
                go_simp
                go_wp2
                first | exact ⟨Upd.refl _ _, rfl⟩ | exact ⟨_, rfl, Upd.refl _ _, rfl⟩
              | 6, _ =>
                intro u wx S o ho hE hr hd hw
                injection (ho : some _ = some o) with ho
                subst ho
                have hEx : Ext M wx := hE.undrew
                have f5 : u 5 = .pointer (some ⟨g, 2, none⟩) := hw 5 (by omega) (by kernel_rfl) (by simp)
                have cx := hEx.cellv x2
                simp only [fr, dstOf]
                go_simp
                go_wp2
                first | exact ⟨Upd.refl _ _, rfl⟩ | exact ⟨_, rfl, Upd.refl _ _, rfl⟩
              | 7, _ =>
                intro u wx S o ho hE hr hd hw
                injection (ho : some _ = some o) with ho
                subst ho
                have hEx : Ext M wx := hE.undrew
                have f3 : u 3 = .pointer (some ⟨gq, 0, none⟩) := hw 3 (by omega) (by kernel_rfl) (by simp)
                have f4 : u 4 = .agg #[.slice B27 k27 d27] := hw 4 (by omega) (by kernel_rfl) (by simp)
                have f6 : u 6 = .agg #[.slice A2 l2 c2] := hw 6 (by omega) (by kernel_rfl) (by simp)
                simp only [fr, dstOf]
                go_simp
                go_wp2_with fail
                refine (mmul_any _ _ gq ask m2 Q 32 _ (hRM.ext hEx) (h27m.ext hEx) (n2.ext (hrM.trans hEx)) hFk hF2 hQ (by omega)).mono ?_
                rintro e wn ⟨A20, l20, c20, rfl, hVn, hU⟩
                go_wp2_with fail
                first | exact ⟨_, rfl, hU.mono (fun _ _ h => h.elim), _, _, _, rfl, hVn⟩ | exact ⟨hU.mono (fun _ _ h => h.elim), _, _, _, rfl, hVn⟩
              | 8, _ =>
                intro u wx S o ho hE hr hd hw
                injection (ho : some _ = some o) with ho
                subst ho
                have hEx : Ext M wx := hE.undrew
                have f0 : u 0 = .pointer (some ⟨gq, 0, none⟩) := hw 0 (by omega) (by kernel_rfl) (by simp)
                have f2 : u 2 = .agg #[.slice A4 l4 c4] := hw 2 (by omega) (by kernel_rfl) (by simp)
                obtain ⟨aA7, aL7, aC7, f7, hV7⟩ : FG.J 7 (.val (.p (natP (ask * m2 % Q)))) u wx (S 7) := hw 7 (by omega) (by kernel_rfl) (by simp)
                simp only [fr, dstOf]
                go_simp
                go_wp2_with fail
                refine (madd_any _ _ gq m4 (ask * m2 % Q) Q 32 _ (hRM.ext hEx) (n4.ext (hrM.trans hEx)) hV7 hF4 hFm2 hQ (by omega)).mono ?_
                rintro e wn ⟨A20, l20, c20, rfl, hVn, hU⟩
                go_wp2_with fail
                first | exact ⟨_, rfl, hU.mono (fun _ _ h => h.elim), _, _, _, rfl, (by rw [Hfi.out]; exact hVn)⟩ | exact ⟨hU.mono (fun _ _ h => h.elim), _, _, _, rfl, (by rw [Hfi.out]; exact hVn)⟩
              | 9, _ =>
                intro u wx S o ho hE hr hd hw
                injection (ho : some _ = some o) with ho
                subst ho
                have hEx : Ext M wx := hE.undrew
                simp only [fr, dstOf]
                go_simp
                go_wp2
                first | exact ⟨Upd.refl _ _, rfl⟩ | exact ⟨_, rfl, Upd.refl _ _, rfl⟩
              | 10, _ =>
                intro u wx S o ho hE hr hd hw
                injection (ho : some _ = some o) with ho
                subst ho
                have hEx : Ext M wx := hE.undrew
                simp only [fr, dstOf]
                go_simp
                go_wp2
                first | exact ⟨Upd.refl _ _, rfl⟩ | exact ⟨_, rfl, Upd.refl _ _, rfl⟩
              | 11, _ =>
                intro u wx S o ho hE hr hd hw
                injection (ho : some _ = some o) with ho
                subst ho
                have hEx : Ext M wx := hE.undrew
                have f10 : u 10 = .pointer (some ⟨g, 5, none⟩) := hw 10 (by omega) (by kernel_rfl) (by simp)
                have cx := hEx.cellv x5
                simp only [fr, dstOf]
                go_simp
                go_wp2
                first | exact ⟨Upd.refl _ _, rfl⟩ | exact ⟨_, rfl, Upd.refl _ _, rfl⟩
              | 12, _ =>
                intro u wx S o ho hE hr hd hw
                injection (ho : some _ = some o) with ho
                subst ho
                have hEx : Ext M wx := hE.undrew
                simp only [fr, dstOf]
                go_simp
                go_wp2
                first | exact ⟨Upd.refl _ _, rfl⟩ | exact ⟨_, rfl, Upd.refl _ _, rfl⟩
              | 13, _ =>
                intro u wx S o ho hE hr hd hw
                injection (ho : some _ = some o) with ho
                subst ho
                have hEx : Ext M wx := hE.undrew
                have cx := (b27m.ext hEx).cell
                simp only [fr, dstOf]
                go_simp
                go_wp2
                first | exact ⟨Upd.refl _ _, rfl⟩ | exact ⟨_, rfl, Upd.refl _ _, rfl⟩
              | 14, _ =>
                intro u wx S o ho hE hr hd hw
                injection (ho : some _ = some o) with ho
                subst ho
                have hEx : Ext M wx := hE.undrew
                simp only [fr, dstOf]
                go_simp
                go_wp2
                first | exact ⟨Upd.refl _ _, rfl⟩ | exact ⟨_, rfl, Upd.refl _ _, rfl⟩
              | 15, _ =>
                intro u wx S o ho hE hr hd hw
                injection (ho : some _ = some o) with ho
                subst ho
                have hEx : Ext M wx := hE.undrew
                have f14 : u 14 = .pointer (some ⟨g, 3, none⟩) := hw 14 (by omega) (by kernel_rfl) (by simp)
                have cx := hEx.cellv x3
                simp only [fr, dstOf]
                go_simp
                go_wp2
                first | exact ⟨Upd.refl _ _, rfl⟩ | exact ⟨_, rfl, Upd.refl _ _, rfl⟩
              | 16, _ =>
                intro u wx S o ho hE hr hd hw
                injection (ho : some _ = some o) with ho
                subst ho
                have hEx : Ext M wx := hE.undrew
                have f12 : u 12 = .pointer (some ⟨gq, 0, none⟩) := hw 12 (by omega) (by kernel_rfl) (by simp)
                have f13 : u 13 = .agg #[.slice B27 k27 d27] := hw 13 (by omega) (by kernel_rfl) (by simp)
                have f15 : u 15 = .agg #[.slice A3 l3 c3] := hw 15 (by omega) (by kernel_rfl) (by simp)
                simp only [fr, dstOf]
                go_simp
                go_wp2_with fail
                refine (mmul_any _ _ gq ask m3 Q 32 _ (hRM.ext hEx) (h27m.ext hEx) (n3.ext (hrM.trans hEx)) hFk hF3 hQ (by omega)).mono ?_
                rintro e wn ⟨A20, l20, c20, rfl, hVn, hU⟩
                go_wp2_with fail
                first | exact ⟨_, rfl, hU.mono (fun _ _ h => h.elim), _, _, _, rfl, hVn⟩ | exact ⟨hU.mono (fun _ _ h => h.elim), _, _, _, rfl, hVn⟩
              | 17, _ =>
                intro u wx S o ho hE hr hd hw
                injection (ho : some _ = some o) with ho
                subst ho
                have hEx : Ext M wx := hE.undrew
                have f9 : u 9 = .pointer (some ⟨gq, 0, none⟩) := hw 9 (by omega) (by kernel_rfl) (by simp)
                have f11 : u 11 = .agg #[.slice A5 l5 c5] := hw 11 (by omega) (by kernel_rfl) (by simp)
                obtain ⟨aA16, aL16, aC16, f16, hV16⟩ : FG.J 16 (.val (.p (natP (ask * m3 % Q)))) u wx (S 16) := hw 16 (by omega) (by kernel_rfl) (by simp)
                simp only [fr, dstOf]
                go_simp
                go_wp2_with fail
                refine (madd_any _ _ gq m5 (ask * m3 % Q) Q 32 _ (hRM.ext hEx) (n5.ext (hrM.trans hEx)) hV16 hF5 hFm3 hQ (by omega)).mono ?_
                rintro e wn ⟨A20, l20, c20, rfl, hVn, hU⟩
                go_wp2_with fail
                first | exact ⟨_, rfl, hU.mono (fun _ _ h => h.elim), _, _, _, rfl, (by rw [Hse.out]; exact hVn)⟩ | exact ⟨hU.mono (fun _ _ h => h.elim), _, _, _, rfl, (by rw [Hse.out]; exact hVn)⟩
              | 18, _ =>
                intro u wx S o ho hE hr hd hw
                injection (ho : some _ = some o) with ho
                subst ho
                have hEx : Ext M wx := hE.undrew
                simp only [fr, dstOf]
                go_simp
                go_wp2
                first | exact ⟨(Upd.refl _ _).alloc _, wx.heap.size, rfl, Bx.new _ _ _, ⟨Nat.le_refl _, by first | exact Nat.lt_succ_self _ | simp⟩, fun b hb => by first | omega | (simp at hb; omega)⟩ | exact ⟨_, rfl, (Upd.refl _ _).alloc _, wx.heap.size, rfl, Bx.new _ _ _, ⟨Nat.le_refl _, by first | exact Nat.lt_succ_self _ | simp⟩, fun b hb => by first | omega | (simp at hb; omega)⟩
              | 19, _ =>
                intro u wx S o ho hE hr hd hw
                injection (ho : some _ = some o) with ho
                subst ho
                have hEx : Ext M wx := hE.undrew
                simp only [fr, dstOf]
                go_simp
                go_wp2
                first | exact ⟨(Upd.refl _ _).alloc _, wx.heap.size, rfl, Bx.new _ _ _, ⟨Nat.le_refl _, by first | exact Nat.lt_succ_self _ | simp⟩, fun b hb => by first | omega | (simp at hb; omega)⟩ | exact ⟨_, rfl, (Upd.refl _ _).alloc _, wx.heap.size, rfl, Bx.new _ _ _, ⟨Nat.le_refl _, by first | exact Nat.lt_succ_self _ | simp⟩, fun b hb => by first | omega | (simp at hb; omega)⟩
              | 20, _ =>
                intro u wx S o ho hE hr hd hw
                injection (ho : some _ = some o) with ho
                subst ho
                have hEx : Ext M wx := hE.undrew
                obtain ⟨aA8, aL8, aC8, f8, hV8⟩ : FG.J 8 (.val (.p (natP (fi)))) u wx (S 8) := hw 8 (by omega) (by kernel_rfl) (by simp)
                obtain ⟨g18, f18, hb18, hs18, hall18⟩ : FG.J 18 (.new 33 (.slice none 0 0)) u wx (S 18) := hw 18 (by omega) (by kernel_rfl) (by simp)
                have cg18 := hb18.cell
                have fg18 := hb18.frozen
                simp only [fr, dstOf]
                go_simp
                go_wp2
                first | exact ⟨(Upd.refl _ _).setCell (p := ⟨g18, 0, none⟩) (.inl hs18) _, undef, g18, _, (updf_ne u _ (by decide)).trans f18, hb18.set _, .inr hs18, ⟨_, _, _, rfl, hV8.far cg18⟩⟩ | exact ⟨undef, (Upd.refl _ _).setCell (p := ⟨g18, 0, none⟩) (.inl hs18) _, g18, _, (updf_ne u _ (by decide)).trans f18, hb18.set _, .inr hs18, ⟨_, _, _, rfl, hV8.far cg18⟩⟩ | exact ⟨trivial, (Upd.refl _ _).setCell (p := ⟨g18, 0, none⟩) (.inl hs18) _, undef, g18, _, (updf_ne u _ (by decide)).trans f18, hb18.set _, .inr hs18, ⟨_, _, _, rfl, hV8.far cg18⟩⟩
              | k + 21, h => exact absurd h (by omega)
            · intro u wx S hE hw hrg hdj
              have hEx : Ext M wx := hE.undrew
              have f0 : u 0 = .pointer (some ⟨gq, 0, none⟩) := hw 0 (by omega) (by simp)
              have f1 : u 1 = .pointer (some ⟨g, 4, none⟩) := hw 1 (by omega) (by simp)
              have f2 : u 2 = .agg #[.slice A4 l4 c4] := hw 2 (by omega) (by simp)
              have f3 : u 3 = .pointer (some ⟨gq, 0, none⟩) := hw 3 (by omega) (by simp)
              have f4 : u 4 = .agg #[.slice B27 k27 d27] := hw 4 (by omega) (by simp)
              have f5 : u 5 = .pointer (some ⟨g, 2, none⟩) := hw 5 (by omega) (by simp)
              have f6 : u 6 = .agg #[.slice A2 l2 c2] := hw 6 (by omega) (by simp)
              obtain ⟨aA7, aL7, aC7, f7, hV7⟩ : FG.J 7 (.val (.p (natP (ask * m2 % Q)))) u wx (S 7) := hw 7 (by omega) (by simp)
              obtain ⟨aA8, aL8, aC8, f8, hV8⟩ : FG.J 8 (.val (.p (natP (fi)))) u wx (S 8) := hw 8 (by omega) (by simp)
              have f9 : u 9 = .pointer (some ⟨gq, 0, none⟩) := hw 9 (by omega) (by simp)
              have f10 : u 10 = .pointer (some ⟨g, 5, none⟩) := hw 10 (by omega) (by simp)
              have f11 : u 11 = .agg #[.slice A5 l5 c5] := hw 11 (by omega) (by simp)
              have f12 : u 12 = .pointer (some ⟨gq, 0, none⟩) := hw 12 (by omega) (by simp)
              have f13 : u 13 = .agg #[.slice B27 k27 d27] := hw 13 (by omega) (by simp)
              have f14 : u 14 = .pointer (some ⟨g, 3, none⟩) := hw 14 (by omega) (by simp)
              have f15 : u 15 = .agg #[.slice A3 l3 c3] := hw 15 (by omega) (by simp)
              obtain ⟨aA16, aL16, aC16, f16, hV16⟩ : FG.J 16 (.val (.p (natP (ask * m3 % Q)))) u wx (S 16) := hw 16 (by omega) (by simp)
              obtain ⟨aA17, aL17, aC17, f17, hV17⟩ : FG.J 17 (.val (.p (natP (se)))) u wx (S 17) := hw 17 (by omega) (by simp)
              obtain ⟨g19, f19, hb19, hs19, hall19⟩ : FG.J 19 (.new 33 (.slice none 0 0)) u wx (S 19) := hw 19 (by omega) (by simp)
              obtain ⟨g20, _, f18, hb20, hs20, ⟨aA20, aL20, aC20, rfl, hV20⟩⟩ : FG.J 20 (.set 18 33 (natC (fi))) u wx (S 20) := hw 20 (by omega) (by simp)
              simp only [fr, dstOf]
              go_simp
              have cg := hb19.cell
              have fg := hb19.frozen
              have hgx : M.heap.size ≤ g19 := (hrg 19 g19 hs19).1
              have hne : g20 ≠ g19 := fun e => absurd (hdj 19 20 g19 hs19 (e ▸ hs20)) (by omega)
              have hV28 := hV20.far (v := .slice aA17 aL17 aC17) cg
              have hV29 := hV17.far (v := .slice aA17 aL17 aC17) cg
              have b28 : Box (wx.setCell ⟨g19, 0, none⟩ (.slice aA17 aL17 aC17)) g20 33 (.slice aA20 aL20 aC20) := Bx.upd (T := fun k => k = g19) hb20 ((Upd.refl (fun k => k = g19) wx).setCell (p := ⟨g19, 0, none⟩) (.inl rfl) _) hne
              have b29 : Box (wx.setCell ⟨g19, 0, none⟩ (.slice aA17 aL17 aC17)) g19 33 (.slice aA17 aL17 aC17) := Box.set (Box.bx hb19) _
              have hxK : Ext M (wx.setCell ⟨g19, 0, none⟩ (.slice aA17 aL17 aC17)) := hEx.setCell (p := ⟨g19, 0, none⟩) (.inr hgx) _
              obtain ⟨B28, k28, d28, hD⟩ : ∃ a b c, (a, b, c) = (aA20, aL20, aC20) := ⟨_, _, _, rfl⟩
              injection hD with e1 e2
              injection e2 with e2 e3
              subst e1 e2 e3
              obtain ⟨B29, k29, d29, hD⟩ : ∃ a b c, (a, b, c) = (aA17, aL17, aC17) := ⟨_, _, _, rfl⟩
              injection hD with e1 e2
              injection e2 with e2 e3
              subst e1 e2 e3
              clear hw hrg hdj hall19
              go_wp2_with fail
              refine name_c (fun K hY => ?_)
              rw [← hY] at hV28 hV29 b28 b29 hxK
              clear hY cg fg hgx hne hEx
              have hBK := hBM.ext hxK
              have b27k := b27m.ext hxK
              have hrK := hrM.trans hxK
              have hGK := hGM.ext hxK
              have hEK := hEM.trans hxK
              have hRK := hRM.ext hxK
              have h27k := h27m.ext hxK
              have hB4k := hB4m.ext hxK
              have hVyk := hVym.ext hxK
              have hVzk := hVzm.ext hxK
              have h22k := h22m.ext hxK
              have h23k := h23m.ext hxK
              clear hBM b27m hrM hGM hEM hRM h27m hB4m hVym hVzm h22m h23m hxK x2 x3 x4 x5 hV7 hV16 hFm2 hFm3
              refine (gref_any gr P Q G H 32 K hGK hP hQ hGf hHf (by omega)).mono ?_
              rintro e k1 ⟨vg, rfl, hRG, hk1⟩
              have hRG0 := hRG
              obtain ⟨C1, i1, j1, C2, i2, j2, C3, i3, j3, C4, i4, j4, rfl, -⟩ := hRG0
              go_wp2_with fail
              refine name_w (fun N0 hN0 => ?_)
              have hxN : Ext K N0 := by rw [hN0]; exact hk1.alloc _
              have b30 : Blk N0 k1.heap.size 51 #[.slice C1 i1 j1, .slice C2 i2 j2, .slice C3 i3 j3, .slice C4 i4 j4] := by rw [hN0]; exact Blk.new _ _ _
              have hRGn : RGrpV N0 (.agg #[.slice C1 i1 j1, .slice C2 i2 j2, .slice C3 i3 j3, .slice C4 i4 j4]) P Q G H := by rw [hN0]; exact hRG.ext ((Upd.refl _ _).alloc _)
              clear hN0 hk1 hRG
              have hNd : Ext N0 N0.drew := (Upd.refl _ _).drew
              have hKd := hxN.trans hNd
              have y0 := fun y : Wd (Ext N0.drew) => y.ok.cellv ((b30.ext hNd).at 0 rfl)
              have y1 := fun y : Wd (Ext N0.drew) => y.ok.cellv ((b30.ext hNd).at 1 rfl)
              have y2 := fun y : Wd (Ext N0.drew) => y.ok.cellv ((b30.ext hNd).at 2 rfl)
              have y3 := fun y : Wd (Ext N0.drew) => y.ok.cellv ((b30.ext hNd).at 3 rfl)
              have y4 := fun y : Wd (Ext N0.drew) => y.ok.cellv (b27k.ext hKd).cell
              have y5 := fun y : Wd (Ext N0.drew) => y.ok.cellv (b28.ext hKd).cell
              have hba : bytelen ask ≤ byteSz Q := byteSz_mono (Nat.le_of_lt hkQ)
              have hbs : bytelen fi ≤ byteSz Q := byteSz_mono (Nat.le_of_lt hfiQ)
              have hfa : blen ask ≤ 1000000 := Nat.le_trans hFk.blen (by omega)
              have hff : blen fi ≤ 1000000 := Nat.le_trans hFfi.blen (by omega)
              obtain ⟨z8, hz8⟩ : ∃ z, z = byteSz Q := ⟨_, rfl⟩
              have Hz8 := hide hz8
              have hz8m : z8 ≤ 128 := by omega
              clear hz8
              refine wp_region_plan (Ext _) 7 [(false,0), (false,1), (false,4), (false,5), (true,2), (true,3), (true,6)] (by kernel_rfl) (by kernel_rfl) (Upd.refl _ _) (fun hne => ?_)
              repeat (refine head_q rfl (fun K hK => ?_); have hK2 := hide hK; clear hK; go_simp; refine hK2.out _ ?_; clear hK2 K)
              refine head_l rfl ?_
              go_wp2_with (go_at_call 44; go_must (refine (gnum_any _ ask 32 _ (h27k.ext hKd) hFk (by omega)).mono ?_); rintro e u1 ⟨E1, p1, s1, rfl, hR21, hu1⟩)
              refine ⟨Cls (Ext _), fun _ h => h, ⟨⟨_, hu1⟩, rfl⟩, ?_⟩
              repeat (refine head_q rfl (fun K hK => ?_); have hK2 := hide hK; clear hK; go_simp; refine hK2.out _ ?_; clear hK2 K)
              refine head_l rfl ?_
              go_wp2_with (go_at_call 43; go_must (refine (rfixed_any _ _ P Q G H _ ask (hRGn.ext (hNd.trans hu1)) hR21 (by omega) hfa hba).mono ?_); rw [← Hz8.out]; rintro e u2 ⟨E2, r2, rfl, hO22, hu2⟩; have hu2g := hu1.trans hu2)
              refine ⟨Cls (Ext _), fun _ h => h, ⟨⟨_, hu2g⟩, rfl⟩, ?_⟩
              repeat (refine head_q rfl (fun K hK => ?_); have hK2 := hide hK; clear hK; go_simp; refine hK2.out _ ?_; clear hK2 K)
              refine head_l rfl ?_
              go_wp2_with (go_at_call 44; go_must (refine (gnum_any _ fi 32 _ (hV28.ext (hKd.trans hu2g)) hFfi (by omega)).mono ?_); rintro e u3 ⟨E3, p4, s4, rfl, hR23, hu3⟩; have hu3g := hu2g.trans hu3)
              refine ⟨Cls (Ext _), fun _ h => h, ⟨⟨_, hu3g⟩, rfl⟩, ?_⟩
              repeat (refine head_q rfl (fun K hK => ?_); have hK2 := hide hK; clear hK; go_simp; refine hK2.out _ ?_; clear hK2 K)
              clear y0 y1 y2 y3 y4 y5
              refine head_nil ?_
              try simp only [List.drop_succ_cons, List.drop_zero]
              go_wp2_with fail
              refine (rfixed_any _ _ P Q G H _ fi (hRGn.ext (hNd.trans hu3g)) hR23 (by omega) hff hbs).mono ?_
              rw [← Hz8.out]
              rintro e u4 ⟨E4, r4, rfl, hO24, hu4⟩
              have hl22 : (toB ask z8).length = z8 := toB_length _ _
              have hl24 : (toB fi z8).length = z8 := toB_length _ _
              have hO22' := hO22.ext (hu3.trans hu4)
              have hu4g := hu3g.trans hu4
              have hZ4 := hNd.trans hu4g
              obtain ⟨N, hN⟩ : ∃ N, N = z8 + z8 := ⟨_, rfl⟩
              have hlN : (toB ask z8 ++ toB fi z8).length = N := by rw [List.length_append, hl22, hl24, hN]
              have Hl22 := hide hl22
              have Hl24 := hide hl24
              have HlN := hide hlN
              have hNm : N ≤ 1000 := by omega
              have hO22b := hO22'.mono (B' := N0.heap.size) (Nat.le_trans hNd.size hu1.size)
              clear hN hl22 hl24 hlN hO22 hO22' hu1 hu2 hu3 hu4 hu2g hu3g hR21 hR23 hba hbs hfa hff
              go_wp2_with (at_builtin; go_must (refine wpList_apd by8 one8 Try.el8 (toB ask z8) (toB fi z8) (toB ask z8 ++ toB fi z8) N rfl HlN.out (by omega) (by unfold maxLen; omega) rfl rfl rfl Hl22.out hO22b rfl Hl24.out hO24.sl hZ4.size ?_); intro A25 c25 u5 hO25 hU25 hin25)
              have hZ5 : Ext N0 u5 := upd_new hU25 hZ4 (fun q hq => (hO22b.in_ hq).1)
              have hpsig := hide (Own.pt hO25 HlN.out)
              have hK5 := hxN.trans hZ5
              clear hO25 hU25 hin25 hO22b hO24 hZ4 hu4g hNd hKd b30 hRGn hZ5 hxN
              refine name_w (fun T hT => ?_)
              subst hT
              have hTd : Ext T T.drew := (Upd.refl _ _).drew
              have hKT := hK5.trans hTd
              have hB4t := hB4k.ext hKT
              have z0 := fun y : Wd (Ext T.drew) => y.ok.cellv (hB4t.at 0 rfl)
              have z1 := fun y : Wd (Ext T.drew) => y.ok.cellv (hB4t.at 1 rfl)
              have z2 := fun y : Wd (Ext T.drew) => y.ok.cellv (hB4t.at 2 rfl)
              have z3 := fun y : Wd (Ext T.drew) => y.ok.cellv (hB4t.at 3 rfl)
              have z4 := fun y : Wd (Ext T.drew) => y.ok.cellv (b28.ext hKT).cell
              have z5 := fun y : Wd (Ext T.drew) => y.ok.cellv (b29.ext hKT).cell
              obtain ⟨bv, hbv⟩ : ∃ t, t = dverB P Q aa bb yn zn side (toB ask z8 ++ toB fi z8) := ⟨_, rfl⟩
              have Hbv := hide hbv
              obtain ⟨zc, hzc⟩ : ∃ z, z = cmpI fi se := ⟨_, rfl⟩
              have hbc : fi = se → bv = true := fun e => by
                rw [hbv, Hyn.out, Hzn.out, Hz8.out]
                refine sound_ver Hma.out Hmb.out hP2 hQ64 hkQ hfiQ (p := m4) (x := m2) (r := m5) (y := m3) ?_ ?_ ?_
                · rw [Hfi.out, Nat.mod_mod, Nat.add_mod, Nat.mod_mod, ← Nat.add_mod]
                · rw [e, Hse.out, Nat.mod_mod, Nat.add_mod, Nat.mod_mod, ← Nat.add_mod]
                · rw [Hask.out, Hyn.out, Hzn.out, Hun.out, Hvn.out]
              have Hzc := hide hzc
              clear hbv hzc
              go_cut [173] (fun s wx => s = .bool false ∧ Ext T wx)
              case first =>
                by_cases hfs : fi = se
                · obtain rfl : bv = true := hbc hfs
                  obtain rfl : zc = 0 := by rw [Hzc.out, hfs]; unfold cmpI; rw [if_neg (by omega)]; rw [if_pos rfl]
                  refine wp_region_plan (Ext _) 15 [(false,0), (false,1), (false,2), (false,3), (false,5), (false,6), (true,4), (true,7), (false,8), (false,9), (false,10), (false,11), (false,12), (true,13), (false,14)] (by kernel_rfl) (by kernel_rfl) (Upd.refl _ _) (fun hne => ?_)
                  repeat (refine head_q rfl (fun K hK => ?_); have hK2 := hide hK; clear hK; go_simp; refine hK2.out _ ?_; clear hK2 K)
                  refine head_l rfl ?_
                  go_wp2_with (go_at_call 50; go_must (refine (dver_any gr P Q G H 32 _ _ _ _ _ A A25 _ _ _ _ _ _ _ _ n c N c25 aa bb yn zn side (toB ask z8 ++ toB fi z8) (hGK.ext hKT) (h22k.ext hKT) (h23k.ext hKT) (hVyk.ext hKT) (hVzk.ext hKT) (HM.out.ext (hEK.trans hKT)) ⟨hpsig.out.2.2.2.ext hTd, hpsig.out.1, hpsig.out.2.1, hpsig.out.2.2.1⟩ hFa hFb hFyn hFzn hP hQ hP2 hQ64 hz128 (by omega) (by omega) (by omega)).mono ?_); rw [← Hbv.out]; rintro e v1 ⟨rfl, hv1⟩)
                  refine ⟨Cls (Ext _), fun _ h => h, ⟨⟨_, hv1⟩, rfl⟩, ?_⟩
                  repeat (refine head_q rfl (fun K hK => ?_); have hK2 := hide hK; clear hK; go_simp; refine hK2.out _ ?_; clear hK2 K)
                  refine head_l rfl ?_
                  go_wp2_with (go_at_call 27; go_must (refine (cmp_any _ _ fi se 32 _ (hV28.ext (hKT.trans hv1)) (hV29.ext (hKT.trans hv1)) hFfi hFse (by omega)).mono ?_); rw [← Hzc.out]; rintro e v2 ⟨rfl, hv2⟩; have hv2g := hv1.trans hv2)
                  refine ⟨Cls (Ext _), fun _ h => h, ⟨⟨_, hv2g⟩, rfl⟩, ?_⟩
                  repeat (refine head_q rfl (fun K hK => ?_); have hK2 := hide hK; clear hK; go_simp; refine hK2.out _ ?_; clear hK2 K)
                  refine head_l rfl ?_
                  go_wp2_with fail
                  refine ⟨Cls (Ext _), fun _ h => h, ⟨⟨_, hv2g⟩, rfl⟩, ?_⟩
                  repeat (refine head_q rfl (fun K hK => ?_); have hK2 := hide hK; clear hK; go_simp; refine hK2.out _ ?_; clear hK2 K)
                  have hG := hTd.trans hv2g
                  refine head_nil ?_
                  try simp only [List.drop_succ_cons, List.drop_zero]
                  go_wp2_with fail
                  go_meet
                  exact ⟨rfl, hG⟩
                · have hz0 : ¬ zc = 0 := by rw [Hzc.out]; unfold cmpI; split <;> omega
                  have hzb : (zc == 0) = false := beq_eq_false_iff_ne.2 hz0
                  clear hbc
                  cases bv with
                  | false =>
                    refine wp_region_plan (Ext _) 15 [(false,0), (false,1), (false,2), (false,3), (false,5), (false,6), (true,4), (true,7), (false,8), (false,9), (false,10), (false,11), (false,12), (true,13), (false,14)] (by kernel_rfl) (by kernel_rfl) (Upd.refl _ _) (fun hne => ?_)
                    repeat (refine head_q rfl (fun K hK => ?_); have hK2 := hide hK; clear hK; go_simp; refine hK2.out _ ?_; clear hK2 K)
                    refine head_l rfl ?_
                    go_wp2_with (go_at_call 50; go_must (refine (dver_any gr P Q G H 32 _ _ _ _ _ A A25 _ _ _ _ _ _ _ _ n c N c25 aa bb yn zn side (toB ask z8 ++ toB fi z8) (hGK.ext hKT) (h22k.ext hKT) (h23k.ext hKT) (hVyk.ext hKT) (hVzk.ext hKT) (HM.out.ext (hEK.trans hKT)) ⟨hpsig.out.2.2.2.ext hTd, hpsig.out.1, hpsig.out.2.1, hpsig.out.2.2.1⟩ hFa hFb hFyn hFzn hP hQ hP2 hQ64 hz128 (by omega) (by omega) (by omega)).mono ?_); rw [← Hbv.out]; rintro e v1 ⟨rfl, hv1⟩)
                    refine ⟨Cls (Ext _), fun _ h => h, ⟨⟨_, hv1⟩, rfl⟩, ?_⟩
                    repeat (refine head_q rfl (fun K hK => ?_); have hK2 := hide hK; clear hK; go_simp; refine hK2.out _ ?_; clear hK2 K)
                    refine head_l rfl ?_
                    go_wp2_with (go_at_call 27; go_must (refine (cmp_any _ _ fi se 32 _ (hV28.ext (hKT.trans hv1)) (hV29.ext (hKT.trans hv1)) hFfi hFse (by omega)).mono ?_); rw [← Hzc.out]; rintro e v2 ⟨rfl, hv2⟩; have hv2g := hv1.trans hv2)
                    refine ⟨Cls (Ext _), fun _ h => h, ⟨⟨_, hv2g⟩, rfl⟩, ?_⟩
                    repeat (refine head_q rfl (fun K hK => ?_); have hK2 := hide hK; clear hK; go_simp; refine hK2.out _ ?_; clear hK2 K)
                    refine head_l rfl ?_
                    go_wp2_with fail
                    refine ⟨Cls (Ext _), fun _ h => h, ⟨⟨_, hv2g⟩, rfl⟩, ?_⟩
                    repeat (refine head_q rfl (fun K hK => ?_); have hK2 := hide hK; clear hK; go_simp; refine hK2.out _ ?_; clear hK2 K)
                    have hG := hTd.trans hv2g
                    refine head_nil ?_
                    try simp only [List.drop_succ_cons, List.drop_zero]
                    go_wp2_with fail
                    go_meet
                    exact ⟨rfl, hG⟩
                  | true =>
                    refine wp_region_plan (Ext _) 15 [(false,0), (false,1), (false,2), (false,3), (false,5), (false,6), (true,4), (true,7), (false,8), (false,9), (false,10), (false,11), (false,12), (true,13), (false,14)] (by kernel_rfl) (by kernel_rfl) (Upd.refl _ _) (fun hne => ?_)
                    repeat (refine head_q rfl (fun K hK => ?_); have hK2 := hide hK; clear hK; go_simp; refine hK2.out _ ?_; clear hK2 K)
                    refine head_l rfl ?_
                    go_wp2_with (go_at_call 50; go_must (refine (dver_any gr P Q G H 32 _ _ _ _ _ A A25 _ _ _ _ _ _ _ _ n c N c25 aa bb yn zn side (toB ask z8 ++ toB fi z8) (hGK.ext hKT) (h22k.ext hKT) (h23k.ext hKT) (hVyk.ext hKT) (hVzk.ext hKT) (HM.out.ext (hEK.trans hKT)) ⟨hpsig.out.2.2.2.ext hTd, hpsig.out.1, hpsig.out.2.1, hpsig.out.2.2.1⟩ hFa hFb hFyn hFzn hP hQ hP2 hQ64 hz128 (by omega) (by omega) (by omega)).mono ?_); rw [← Hbv.out]; rintro e v1 ⟨rfl, hv1⟩)
                    refine ⟨Cls (Ext _), fun _ h => h, ⟨⟨_, hv1⟩, rfl⟩, ?_⟩
                    repeat (refine head_q rfl (fun K hK => ?_); have hK2 := hide hK; clear hK; go_simp; refine hK2.out _ ?_; clear hK2 K)
                    refine head_l rfl ?_
                    go_wp2_with (go_at_call 27; go_must (refine (cmp_any _ _ fi se 32 _ (hV28.ext (hKT.trans hv1)) (hV29.ext (hKT.trans hv1)) hFfi hFse (by omega)).mono ?_); rw [← Hzc.out]; rintro e v2 ⟨rfl, hv2⟩; have hv2g := hv1.trans hv2)
                    refine ⟨Cls (Ext _), fun _ h => h, ⟨⟨_, hv2g⟩, rfl⟩, ?_⟩
                    repeat (refine head_q rfl (fun K hK => ?_); have hK2 := hide hK; clear hK; go_simp; refine hK2.out _ ?_; clear hK2 K)
                    refine head_l rfl ?_
                    go_wp2_with (go_at_call 27; go_must (refine (cmp_any _ _ fi se 32 _ (hV28.ext (hKT.trans hv2g)) (hV29.ext (hKT.trans hv2g)) hFfi hFse (by omega)).mono ?_); rw [← Hzc.out]; rintro e v3 ⟨rfl, hv3⟩; have hv3g := hv2g.trans hv3)
                    refine ⟨Cls (Ext _), fun _ h => h, ⟨⟨_, hv3g⟩, rfl⟩, ?_⟩
                    repeat (refine head_q rfl (fun K hK => ?_); have hK2 := hide hK; clear hK; go_simp; refine hK2.out _ ?_; clear hK2 K)
                    have hG := hTd.trans hv3g
                    refine head_nil ?_
                    try simp only [List.drop_succ_cons, List.drop_zero]
                    go_wp2_with fail
                    go_meet
                    exact ⟨rfl, hG⟩
              case rest =>
                obtain ⟨rfl, hTW⟩ := hcut
                have hKW := hK5.trans hTW
                have hBW := hBK.ext hKW
                have z2 := hBW.at 2 rfl
                have z3 := hBW.at 3 rfl
                go_wp2_with fail
                clear z2 z3
                refine name_c (fun W hW => ?_)
                subst hW
                have hrW := hrK.trans hKW
                have hEW := hEK.trans hKW
                have hRW := hRK.ext hKW
                have h27w := h27k.ext hKW
                have b27w := b27k.ext hKW
                have b28w := b28.ext hKW
                have b29w := b29.ext hKW
                have hV28w := hV28.ext hKW
                have hV29w := hV29.ext hKW
                clear hTW hKW hBK b27k hrK hGK hEK hRK h27k hB4k hVyk hVzk h22k h23k b28 b29 hV28 hV29 hK5 Hbv hbc hpsig hFyn hFzn hFu hFv
                obtain ⟨zx, hzx⟩ : ∃ z, z = cmpI m2 m3 := ⟨_, rfl⟩
                refine (cmp_any _ _ m2 m3 32 W (n2.ext hrW) (n3.ext hrW) hF2 hF3 (by omega)).mono ?_
                rw [← hzx]
                rintro e x1 ⟨rfl, hx1⟩
                by_cases hxy : m2 = m3
                case pos =>
                  obtain rfl : zx = 0 := by rw [hzx, hxy]; unfold cmpI; rw [if_neg (by omega)]; rw [if_pos rfl]
                  have hiff : fi = se ↔ m4 = m5 := by rw [Hfi.out, Hse.out, hxy]; exact add_same hq4 hq5
                  clear hzx
                  go_wp2_with fail
                  refine name_w (fun V hV => ?_)
                  subst hV
                  have hVd : Ext V V.drew := (Upd.refl _ _).drew
                  have hWV := hx1.trans hVd
                  have z4 := fun y : Wd (Ext V.drew) => y.ok.cellv ((hBW.ext hWV).at 4 rfl)
                  have z5 := fun y : Wd (Ext V.drew) => y.ok.cellv ((hBW.ext hWV).at 5 rfl)
                  have z6 := fun y : Wd (Ext V.drew) => y.ok.cellv (b28w.ext hWV).cell
                  have z7 := fun y : Wd (Ext V.drew) => y.ok.cellv (b29w.ext hWV).cell
                  obtain ⟨zp, hzp⟩ : ∃ z, z = cmpI m4 m5 := ⟨_, rfl⟩
                  have Hzp := hide hzp
                  clear hzp hxy
                  by_cases hpr : m4 = m5
                  · obtain rfl : zp = 0 := by rw [Hzp.out, hpr]; unfold cmpI; rw [if_neg (by omega)]; rw [if_pos rfl]
                    obtain rfl : zc = 0 := by rw [Hzc.out, hiff.2 hpr]; unfold cmpI; rw [if_neg (by omega)]; rw [if_pos rfl]
                    clear hpr hiff
                    refine wp_region_plan (Ext _) 11 [(false,0), (false,1), (false,4), (false,5), (false,6), (false,7), (true,2), (false,3), (true,8), (false,9), (false,10)] (by kernel_rfl) (by kernel_rfl) (Upd.refl _ _) (fun hne => ?_)
                    repeat (refine head_q rfl (fun K hK => ?_); have hK2 := hide hK; clear hK; go_simp; refine hK2.out _ ?_; clear hK2 K)
                    refine head_l rfl ?_
                    go_wp2_with (go_at_call 27; go_must (refine (cmp_any _ _ fi se 32 _ (hV28w.ext hWV) (hV29w.ext hWV) hFfi hFse (by omega)).mono ?_); rw [← Hzc.out]; rintro e v1 ⟨rfl, hv1⟩)
                    refine ⟨Cls (Ext _), fun _ h => h, ⟨⟨_, hv1⟩, rfl⟩, ?_⟩
                    repeat (refine head_q rfl (fun K hK => ?_); have hK2 := hide hK; clear hK; go_simp; refine hK2.out _ ?_; clear hK2 K)
                    refine head_l rfl ?_
                    go_wp2_with (go_at_call 27; go_must (refine (cmp_any _ _ m4 m5 32 _ (n4.ext (hrW.trans (hWV.trans hv1))) (n5.ext (hrW.trans (hWV.trans hv1))) hF4 hF5 (by omega)).mono ?_); rw [← Hzp.out]; rintro e v2 ⟨rfl, hv2⟩; have hv2g := hv1.trans hv2)
                    refine ⟨Cls (Ext _), fun _ h => h, ⟨⟨_, hv2g⟩, rfl⟩, ?_⟩
                    repeat (refine head_q rfl (fun K hK => ?_); have hK2 := hide hK; clear hK; go_simp; refine hK2.out _ ?_; clear hK2 K)
                    have hG := hEW.trans (hWV.trans hv2g)
                    refine head_nil ?_
                    try simp only [List.drop_succ_cons, List.drop_zero]
                    go_wp2_with fail
                    go_ret
                    exact ⟨rfl, hG⟩
                  · have hzp0 : ¬ zp = 0 := by rw [Hzp.out]; unfold cmpI; split <;> omega
                    have hzpb : (zp == 0) = false := beq_eq_false_iff_ne.2 hzp0
                    have hzc0 : ¬ zc = 0 := by rw [Hzc.out]; have := mt hiff.1 hpr; unfold cmpI; split <;> omega
                    have hzcb : (zc == 0) = false := beq_eq_false_iff_ne.2 hzc0
                    clear hpr hiff
                    refine wp_region_plan (Ext _) 11 [(false,0), (false,1), (false,4), (false,5), (false,6), (false,7), (true,2), (false,3), (true,8), (false,9), (false,10)] (by kernel_rfl) (by kernel_rfl) (Upd.refl _ _) (fun hne => ?_)
                    repeat (refine head_q rfl (fun K hK => ?_); have hK2 := hide hK; clear hK; go_simp; refine hK2.out _ ?_; clear hK2 K)
                    refine head_l rfl ?_
                    go_wp2_with (go_at_call 27; go_must (refine (cmp_any _ _ fi se 32 _ (hV28w.ext hWV) (hV29w.ext hWV) hFfi hFse (by omega)).mono ?_); rw [← Hzc.out]; rintro e v1 ⟨rfl, hv1⟩)
                    refine ⟨Cls (Ext _), fun _ h => h, ⟨⟨_, hv1⟩, rfl⟩, ?_⟩
                    repeat (refine head_q rfl (fun K hK => ?_); have hK2 := hide hK; clear hK; go_simp; refine hK2.out _ ?_; clear hK2 K)
                    refine head_l rfl ?_
                    go_wp2_with (go_at_call 27; go_must (refine (cmp_any _ _ m4 m5 32 _ (n4.ext (hrW.trans (hWV.trans hv1))) (n5.ext (hrW.trans (hWV.trans hv1))) hF4 hF5 (by omega)).mono ?_); rw [← Hzp.out]; rintro e v2 ⟨rfl, hv2⟩; have hv2g := hv1.trans hv2)
                    refine ⟨Cls (Ext _), fun _ h => h, ⟨⟨_, hv2g⟩, rfl⟩, ?_⟩
                    repeat (refine head_q rfl (fun K hK => ?_); have hK2 := hide hK; clear hK; go_simp; refine hK2.out _ ?_; clear hK2 K)
                    have hG := hEW.trans (hWV.trans hv2g)
                    refine head_nil ?_
                    try simp only [List.drop_succ_cons, List.drop_zero]
                    go_wp2_with fail
                    go_ret
                    exact ⟨rfl, hG⟩
                have hzx0 : ¬ zx = 0 := by rw [hzx]; unfold cmpI; split <;> omega
                have hzxb : (zx == 0) = false := beq_eq_false_iff_ne.2 hzx0
                have hsub := subm_pos (Q := Q) hq3 hq2 (fun e => hxy e.symm)
                obtain ⟨down, hdQ, hdown⟩ := inv_ex HPr.out hsub.1 hsub.2
                have hiff := lucky_iff (p := m4) (r := m5) (show 1 < Q by omega) hkQ hdown
                rw [← Hfi.out, ← Hse.out] at hiff
                obtain ⟨df, hdf⟩ : ∃ x, x = subm m3 m2 Q := ⟨_, rfl⟩
                rw [← hdf] at hsub hdown
                have hFdf : Fit 32 df := hQ.le (Nat.le_of_lt hsub.2)
                have hFdn : Fit 32 down := hQ.le (Nat.le_of_lt hdQ)
                have Hdf := hide hdf
                have Hdown := hide hdown
                have hs45Q : subm m4 m5 Q < Q := Nat.mod_lt _ (by omega)
                have hluQ : subm m4 m5 Q * down % Q < Q := Nat.mod_lt _ (by omega)
                obtain ⟨s45, hs45⟩ : ∃ x, x = subm m4 m5 Q := ⟨_, rfl⟩
                rw [← hs45] at hs45Q hluQ hiff
                obtain ⟨lu, hlu⟩ : ∃ x, x = s45 * down % Q := ⟨_, rfl⟩
                rw [← hlu] at hluQ hiff
                have hFs45 : Fit 32 s45 := hQ.le (Nat.le_of_lt hs45Q)
                have hFlu : Fit 32 lu := hQ.le (Nat.le_of_lt hluQ)
                have Hs45 := hide hs45
                have Hlu := hide hlu
                clear hdf hdown hsub hs45 hlu hzx
                have z2 := (hBW.ext hx1).at 2 rfl
                have z3 := (hBW.ext hx1).at 3 rfl
                go_wp2_with fail
                clear z2 z3
                refine (msub_any _ _ gq m3 m2 Q 32 _ (hRW.ext hx1) (n3.ext (hrW.trans hx1)) (n2.ext (hrW.trans hx1)) hF3 hF2 hQ (by omega)).mono ?_
                rw [← Hdf.out]
                rintro e x2 ⟨E1, p1, s1, rfl, hVdf, hx2⟩
                have hw2 := hx1.trans hx2
                go_wp2_with fail
                refine (minv_any _ gq df down Q 32 _ (hRW.ext hw2) hVdf hFdf hQ (by omega) (by omega) hdQ Hdown.out).mono ?_
                rintro e x3 ⟨E2, p2', s2', rfl, hVdn, hx3⟩
                go_wp2_with fail
                refine name_w (fun V hV => ?_)
                have hWV : Ext W V := by rw [hV]; exact (hw2.trans hx3).alloc _
                have b32 : Box V x3.heap.size 33 (.slice E2 p2' s2') := by rw [hV]; exact Box.new _ _ _
                have hV32 : NatV V (.agg #[.slice E2 p2' s2']) down := by rw [hV]; exact hVdn.ext ((Upd.refl _ _).alloc _)
                clear hV hx1 hx2 hw2 hx3 hVdf hVdn
                have hBV := hBW.ext hWV
                have z4 := hBV.at 4 rfl
                have z5 := hBV.at 5 rfl
                refine wp_region_fg 10 [.val (.eq (.pointer (some ⟨gq, 0, none⟩))), .val (.eq (.pointer (some ⟨gq, 0, none⟩))), .val (.eq (.pointer (some ⟨g, 4, none⟩))), .val (.eq (.agg #[.slice A4 l4 c4])), .val (.eq (.pointer (some ⟨g, 5, none⟩))), .val (.eq (.agg #[.slice A5 l5 c5])), .val (.p (natP (s45))), .val (.eq (.agg #[.slice E2 p2' s2'])), .val (.p (natP (lu))), .new 33 (.slice none 0 0)] [] (by kernel_rfl) rfl (by kernel_rfl) (by kernel_rfl) (by kernel_rfl) ?_ ?_
                · intro i hi
                  match i, hi with
                  | 0, _ =>
                    intro u wx S o ho hE hr hd hw
                    injection (ho : some _ = some o) with ho
                    subst ho
                    have hEx : Ext V wx := hE.undrew
                    simp only [fr, dstOf]
                    go_simp
                    go_wp2
                    first | exact ⟨Upd.refl _ _, rfl⟩ | exact ⟨_, rfl, Upd.refl _ _, rfl⟩
                  | 1, _ =>
                    intro u wx S o ho hE hr hd hw
                    injection (ho : some _ = some o) with ho
                    subst ho
                    have hEx : Ext V wx := hE.undrew
                    simp only [fr, dstOf]
                    go_simp
                    go_wp2
                    first | exact ⟨Upd.refl _ _, rfl⟩ | exact ⟨_, rfl, Upd.refl _ _, rfl⟩
                  | 2, _ =>
                    intro u wx S o ho hE hr hd hw
                    injection (ho : some _ = some o) with ho
                    subst ho
                    have hEx : Ext V wx := hE.undrew
                    simp only [fr, dstOf]
                    go_simp
                    go_wp2
                    first | exact ⟨Upd.refl _ _, rfl⟩ | exact ⟨_, rfl, Upd.refl _ _, rfl⟩
                  | 3, _ =>
                    intro u wx S o ho hE hr hd hw
                    injection (ho : some _ = some o) with ho
                    subst ho
                    have hEx : Ext V wx := hE.undrew
                    have f2 : u 2 = .pointer (some ⟨g, 4, none⟩) := hw 2 (by omega) (by kernel_rfl) (by simp)
                    have cx := hEx.cellv z4
                    simp only [fr, dstOf]
                    go_simp
                    go_wp2
                    first | exact ⟨Upd.refl _ _, rfl⟩ | exact ⟨_, rfl, Upd.refl _ _, rfl⟩
                  | 4, _ =>
                    intro u wx S o ho hE hr hd hw
                    injection (ho : some _ = some o) with ho
                    subst ho
                    have hEx : Ext V wx := hE.undrew
                    simp only [fr, dstOf]
                    go_simp
                    go_wp2
                    first | exact ⟨Upd.refl _ _, rfl⟩ | exact ⟨_, rfl, Upd.refl _ _, rfl⟩
                  | 5, _ =>
                    intro u wx S o ho hE hr hd hw
                    injection (ho : some _ = some o) with ho
                    subst ho
                    have hEx : Ext V wx := hE.undrew
                    have f4 : u 4 = .pointer (some ⟨g, 5, none⟩) := hw 4 (by omega) (by kernel_rfl) (by simp)
                    have cx := hEx.cellv z5
                    simp only [fr, dstOf]
                    go_simp
                    go_wp2
                    first | exact ⟨Upd.refl _ _, rfl⟩ | exact ⟨_, rfl, Upd.refl _ _, rfl⟩
                  | 6, _ =>
                    intro u wx S o ho hE hr hd hw
                    injection (ho : some _ = some o) with ho
                    subst ho
                    have hEx : Ext V wx := hE.undrew
                    have f1 : u 1 = .pointer (some ⟨gq, 0, none⟩) := hw 1 (by omega) (by kernel_rfl) (by simp)
                    have f3 : u 3 = .agg #[.slice A4 l4 c4] := hw 3 (by omega) (by kernel_rfl) (by simp)
                    have f5 : u 5 = .agg #[.slice A5 l5 c5] := hw 5 (by omega) (by kernel_rfl) (by simp)
                    simp only [fr, dstOf]
                    go_simp
                    go_wp2_with fail
                    refine (msub_any _ _ gq m4 m5 Q 32 _ (hRW.ext (hWV.trans hEx)) (n4.ext (hrW.trans (hWV.trans hEx))) (n5.ext (hrW.trans (hWV.trans hEx))) hF4 hF5 hQ (by omega)).mono ?_
                    rintro e wn ⟨A20, l20, c20, rfl, hVn, hU⟩
                    go_wp2_with fail
                    first | exact ⟨_, rfl, hU.mono (fun _ _ h => h.elim), _, _, _, rfl, (by rw [Hs45.out]; exact hVn)⟩ | exact ⟨hU.mono (fun _ _ h => h.elim), _, _, _, rfl, (by rw [Hs45.out]; exact hVn)⟩
                  | 7, _ =>
                    intro u wx S o ho hE hr hd hw
                    injection (ho : some _ = some o) with ho
                    subst ho
                    have hEx : Ext V wx := hE.undrew
                    have cx := (b32.ext hEx).cell
                    simp only [fr, dstOf]
                    go_simp
                    go_wp2
                    first | exact ⟨Upd.refl _ _, rfl⟩ | exact ⟨_, rfl, Upd.refl _ _, rfl⟩
                  | 8, _ =>
                    intro u wx S o ho hE hr hd hw
                    injection (ho : some _ = some o) with ho
                    subst ho
                    have hEx : Ext V wx := hE.undrew
                    have f0 : u 0 = .pointer (some ⟨gq, 0, none⟩) := hw 0 (by omega) (by kernel_rfl) (by simp)
                    obtain ⟨aA6, aL6, aC6, f6, hV6⟩ : FG.J 6 (.val (.p (natP (s45)))) u wx (S 6) := hw 6 (by omega) (by kernel_rfl) (by simp)
                    have f7 : u 7 = .agg #[.slice E2 p2' s2'] := hw 7 (by omega) (by kernel_rfl) (by simp)
                    simp only [fr, dstOf]
                    go_simp
                    go_wp2_with fail
                    refine (mmul_any _ _ gq s45 down Q 32 _ (hRW.ext (hWV.trans hEx)) hV6 (hV32.ext hEx) hFs45 hFdn hQ (by omega)).mono ?_
                    rintro e wn ⟨A20, l20, c20, rfl, hVn, hU⟩
                    go_wp2_with fail
                    first | exact ⟨_, rfl, hU.mono (fun _ _ h => h.elim), _, _, _, rfl, (by rw [Hlu.out]; exact hVn)⟩ | exact ⟨hU.mono (fun _ _ h => h.elim), _, _, _, rfl, (by rw [Hlu.out]; exact hVn)⟩
                  | 9, _ =>
                    intro u wx S o ho hE hr hd hw
                    injection (ho : some _ = some o) with ho
                    subst ho
                    have hEx : Ext V wx := hE.undrew
                    simp only [fr, dstOf]
                    go_simp
                    go_wp2
                    first | exact ⟨(Upd.refl _ _).alloc _, wx.heap.size, rfl, Bx.new _ _ _, ⟨Nat.le_refl _, by first | exact Nat.lt_succ_self _ | simp⟩, fun b hb => by first | omega | (simp at hb; omega)⟩ | exact ⟨_, rfl, (Upd.refl _ _).alloc _, wx.heap.size, rfl, Bx.new _ _ _, ⟨Nat.le_refl _, by first | exact Nat.lt_succ_self _ | simp⟩, fun b hb => by first | omega | (simp at hb; omega)⟩
                  | k + 10, h => exact absurd h (by omega)
                · intro u wx S hE hw hrg hdj
                  have hEx : Ext V wx := hE.undrew
                  have f0 : u 0 = .pointer (some ⟨gq, 0, none⟩) := hw 0 (by omega) (by simp)
                  have f1 : u 1 = .pointer (some ⟨gq, 0, none⟩) := hw 1 (by omega) (by simp)
                  have f2 : u 2 = .pointer (some ⟨g, 4, none⟩) := hw 2 (by omega) (by simp)
                  have f3 : u 3 = .agg #[.slice A4 l4 c4] := hw 3 (by omega) (by simp)
                  have f4 : u 4 = .pointer (some ⟨g, 5, none⟩) := hw 4 (by omega) (by simp)
                  have f5 : u 5 = .agg #[.slice A5 l5 c5] := hw 5 (by omega) (by simp)
                  obtain ⟨aA6, aL6, aC6, f6, hV6⟩ : FG.J 6 (.val (.p (natP (s45)))) u wx (S 6) := hw 6 (by omega) (by simp)
                  have f7 : u 7 = .agg #[.slice E2 p2' s2'] := hw 7 (by omega) (by simp)
                  obtain ⟨aA8, aL8, aC8, f8, hV8⟩ : FG.J 8 (.val (.p (natP (lu)))) u wx (S 8) := hw 8 (by omega) (by simp)
                  obtain ⟨g9, f9, hb9, hs9, hall9⟩ : FG.J 9 (.new 33 (.slice none 0 0)) u wx (S 9) := hw 9 (by omega) (by simp)
                  simp only [fr, dstOf]
                  go_simp
                  have cg := hb9.cell
                  have fg := hb9.frozen
                  have hgx : V.heap.size ≤ g9 := (hrg 9 g9 hs9).1
                  have hVlu := hV8.far (v := .slice aA8 aL8 aC8) cg
                  have b34 : Box (wx.setCell ⟨g9, 0, none⟩ (.slice aA8 aL8 aC8)) g9 33 (.slice aA8 aL8 aC8) := Box.set (Box.bx hb9) _
                  have hVY : Ext V (wx.setCell ⟨g9, 0, none⟩ (.slice aA8 aL8 aC8)) := hEx.setCell (p := ⟨g9, 0, none⟩) (.inr hgx) _
                  clear hw hrg hdj hall9
                  go_wp2_with fail
                  refine name_w (fun Y9 hY => ?_)
                  rw [← hY] at hVlu b34 hVY
                  clear hY cg fg hgx hEx
                  have hYd : Ext Y9 Y9.drew := (Upd.refl _ _).drew
                  have hWY := hWV.trans (hVY.trans hYd)
                  have y0 := fun y : Wd (Ext Y9.drew) => y.ok.cellv (b28w.ext hWY).cell
                  have y1 := fun y : Wd (Ext Y9.drew) => y.ok.cellv (b29w.ext hWY).cell
                  have y2 := fun y : Wd (Ext Y9.drew) => y.ok.cellv (b27w.ext hWY).cell
                  have y3 := fun y : Wd (Ext Y9.drew) => y.ok.cellv (b34.ext hYd).cell
                  obtain ⟨zp, hzp⟩ : ∃ z, z = cmpI ask lu := ⟨_, rfl⟩
                  have Hzp := hide hzp
                  clear hzp
                  by_cases hpr : ask = lu
                  · obtain rfl : zp = 0 := by rw [Hzp.out, hpr]; unfold cmpI; rw [if_neg (by omega)]; rw [if_pos rfl]
                    obtain rfl : zc = 0 := by rw [Hzc.out, hiff.2 hpr]; unfold cmpI; rw [if_neg (by omega)]; rw [if_pos rfl]
                    clear hpr hiff
                    refine wp_region_plan (Ext _) 13 [(false,0), (false,1), (false,2), (false,3), (false,4), (false,7), (false,8), (true,5), (false,6), (true,9), (false,10), (false,11), (false,12)] (by kernel_rfl) (by kernel_rfl) (Upd.refl _ _) (fun hne => ?_)
                    repeat (refine head_q rfl (fun K hK => ?_); have hK2 := hide hK; clear hK; go_simp; refine hK2.out _ ?_; clear hK2 K)
                    refine head_l rfl ?_
                    go_wp2_with (go_at_call 27; go_must (refine (cmp_any _ _ fi se 32 _ (hV28w.ext hWY) (hV29w.ext hWY) hFfi hFse (by omega)).mono ?_); rw [← Hzc.out]; rintro e v1 ⟨rfl, hv1⟩)
                    refine ⟨Cls (Ext _), fun _ h => h, ⟨⟨_, hv1⟩, rfl⟩, ?_⟩
                    repeat (refine head_q rfl (fun K hK => ?_); have hK2 := hide hK; clear hK; go_simp; refine hK2.out _ ?_; clear hK2 K)
                    refine head_l rfl ?_
                    go_wp2_with (go_at_call 27; go_must (refine (cmp_any _ _ ask lu 32 _ (h27w.ext (hWY.trans hv1)) (hVlu.ext (hYd.trans hv1)) hFk hFlu (by omega)).mono ?_); rw [← Hzp.out]; rintro e v2 ⟨rfl, hv2⟩; have hv2g := hv1.trans hv2)
                    refine ⟨Cls (Ext _), fun _ h => h, ⟨⟨_, hv2g⟩, rfl⟩, ?_⟩
                    repeat (refine head_q rfl (fun K hK => ?_); have hK2 := hide hK; clear hK; go_simp; refine hK2.out _ ?_; clear hK2 K)
                    have hG := hEW.trans (hWY.trans hv2g)
                    refine head_nil ?_
                    try simp only [List.drop_succ_cons, List.drop_zero]
                    go_wp2_with fail
                    go_ret
                    exact ⟨rfl, hG⟩
                  · have hzp0 : ¬ zp = 0 := by rw [Hzp.out]; unfold cmpI; split <;> omega
                    have hzpb : (zp == 0) = false := beq_eq_false_iff_ne.2 hzp0
                    have hzc0 : ¬ zc = 0 := by rw [Hzc.out]; have := mt hiff.1 hpr; unfold cmpI; split <;> omega
                    have hzcb : (zc == 0) = false := beq_eq_false_iff_ne.2 hzc0
                    clear hpr hiff
                    refine wp_region_plan (Ext _) 13 [(false,0), (false,1), (false,2), (false,3), (false,4), (false,7), (false,8), (true,5), (false,6), (true,9), (false,10), (false,11), (false,12)] (by kernel_rfl) (by kernel_rfl) (Upd.refl _ _) (fun hne => ?_)
                    repeat (refine head_q rfl (fun K hK => ?_); have hK2 := hide hK; clear hK; go_simp; refine hK2.out _ ?_; clear hK2 K)
                    refine head_l rfl ?_
                    go_wp2_with (go_at_call 27; go_must (refine (cmp_any _ _ fi se 32 _ (hV28w.ext hWY) (hV29w.ext hWY) hFfi hFse (by omega)).mono ?_); rw [← Hzc.out]; rintro e v1 ⟨rfl, hv1⟩)
                    refine ⟨Cls (Ext _), fun _ h => h, ⟨⟨_, hv1⟩, rfl⟩, ?_⟩
                    repeat (refine head_q rfl (fun K hK => ?_); have hK2 := hide hK; clear hK; go_simp; refine hK2.out _ ?_; clear hK2 K)
                    refine head_l rfl ?_
                    go_wp2_with (go_at_call 27; go_must (refine (cmp_any _ _ ask lu 32 _ (h27w.ext (hWY.trans hv1)) (hVlu.ext (hYd.trans hv1)) hFk hFlu (by omega)).mono ?_); rw [← Hzp.out]; rintro e v2 ⟨rfl, hv2⟩; have hv2g := hv1.trans hv2)
                    refine ⟨Cls (Ext _), fun _ h => h, ⟨⟨_, hv2g⟩, rfl⟩, ?_⟩
                    repeat (refine head_q rfl (fun K hK => ?_); have hK2 := hide hK; clear hK; go_simp; refine hK2.out _ ?_; clear hK2 K)
                    have hG := hEW.trans (hWY.trans hv2g)
                    refine head_nil ?_
                    try simp only [List.drop_succ_cons, List.drop_zero]
                    go_wp2_with fail
                    go_ret
                    exact ⟨rfl, hG⟩
theorem dsound_any (z : Int) (v0 v1 v2 v3 v4 v5 : Nat) (A : Option Addr) (n c : Nat) (side : List (BitVec 8)) (w : World) (hv : ∀ x ∈ [v0, v1, v2, v3, v4, v5], x < 18446744073709551616) (hM : Pt.ok w ⟨A, n, c, side⟩) :
    Calls Try.prog 10 #[.int .i64 z, .int .u64 (v0 : Nat), .int .u64 (v1 : Nat), .int .u64 (v2 : Nat), .int .u64 (v3 : Nat), .int .u64 (v4 : Nat), .int .u64 (v5 : Nat), .slice A n c] w fun e w' => e = .returned (.bool true) ∧ Ext w w' := by
  by_cases hn : n ≤ 300
  · obtain ⟨r, hr, hnum⟩ := gnums_any z
    exact dsound_good z r hr v0 v1 v2 v3 v4 v5 A n c side w (fun w' => hnum none 0 0 w') hv hM hn
  · exact dsound_few z v0 v1 v2 v3 v4 v5 A n c w (by omega)
end Go.Proofs.Ytoekbomfepedcaa
