/- A chain of steps: Check, Prime, walked. -/
import Derived.Test.YtoekbomfepedcaaCertE
namespace Go.Proofs.Ytoekbomfepedcaa
set_option linter.unusedSimpArgs false
set_option linter.unusedVariables false
open Go.RowKit
open Nt Pk
attribute [local go_sem] steady steadyUpon Cls same_cell anyW
attribute [local irreducible] wpHead wpTree wpHeadR
structure St where
  N : Nat
  b : Nat
  ps : List Nat
instance : Inhabited St := ⟨⟨0, 0, []⟩⟩
/-- A slice of steps. -/
def StepL (w : World) (A : Option Addr) (ss : List St) : Prop := ∀ i, i < ss.length → ∃ b o A1 l1 c1 A2 l2 c2 A3 n3 c3, A = some ⟨b, o, none⟩ ∧
  w.cell? ⟨b, o + i * 3, none⟩ = some (.slice A1 l1 c1) ∧ w.cell? ⟨b, o + i * 3 + 1, none⟩ = some (.slice A2 l2 c2) ∧ w.cell? ⟨b, o + i * 3 + 2, none⟩ = some (.slice A3 n3 c3) ∧
  NatV w (.agg #[.slice A1 l1 c1]) (gat ss i).N ∧ NatV w (.agg #[.slice A2 l2 c2]) (gat ss i).b ∧ NatL w A3 (gat ss i).ps ∧ (gat ss i).ps.length = n3 ∧ n3 ≤ c3 ∧ c3 ≤ maxLen
theorem StepL.ext {w w' : World} {A : Option Addr} {ss : List St} (h : StepL w A ss) (hu : Ext w w') : StepL w' A ss := fun i hi => by
  obtain ⟨b, o, A1, l1, c1, A2, l2, c2, A3, n3, c3, h0, h1, h2, h3, h4, h5, h6, h7⟩ := h i hi
  exact ⟨b, o, A1, l1, c1, A2, l2, c2, A3, n3, c3, h0, hu.cellv h1, hu.cellv h2, hu.cellv h3, h4.ext hu, h5.ext hu, h6.ext hu, h7⟩
def FitS (K : Nat) (s : St) : Prop := Fit K s.N ∧ Fit K s.b ∧ FitL K s.ps ∧ s.ps.length ≤ 100
def longB (s : St) : Bool := decide (1024 < blen s.N) || (decide (1024 < blen s.b) || s.ps.any fun p => decide (1024 < blen p))
def holdAll : List Nat → List St → Bool
  | _, [] => true
  | bs, s :: r => holdsB s.N s.b s.ps bs && holdAll (bs ++ [s.N]) r
def checkE (ss : List St) : Int := if 64 < ss.length ∨ ss.any longB = true then 4 else if holdAll [] ss = true then 0 else 8
theorem any_take {α : Type} [Inhabited α] (f : α → Bool) {xs : List α} {k : Nat} (h : k < xs.length) : (xs.take (k + 1)).any f = ((xs.take k).any f || f (gat xs k)) := by
  rw [List.take_succ_eq_append_getElem h, List.any_append, gat_lt h]
  simp
theorem any_at {α : Type} [Inhabited α] (f : α → Bool) {xs : List α} {k : Nat} (h : k < xs.length) (e : f (gat xs k) = true) : xs.any f = true := by
  rw [List.any_eq_true]
  exact ⟨xs[k], List.getElem_mem h, by rw [← gat_lt h]; exact e⟩
theorem longB_list (s : St) : longB s = (s.N :: s.b :: s.ps).any fun p => decide (1024 < blen p) := by
  unfold longB
  simp
theorem Try.n_elN : ElemI Try.prog 35 33 (.agg #[.slice none 0 0]) 24 := ⟨by kernel_rfl, by kernel_rfl, rfl⟩
theorem svt_one (t : Tri) : (svt t).oneCell' = true := rfl
theorem Own.lit_at {α : Type} (f : α → Value) {w : World} {B g : Nat} (e : TypeId) (xs : List α) (hB : B ≤ w.heap.size) (hm : xs.length ≤ maxLen) (hg : w.heap.size = g) : Own (w.alloc (.cells (xs.map f).toArray e)) B e (some ⟨g, 0, none⟩) xs.length (xs.map f) := by
  subst hg
  exact Own.lit f w e xs hB hm
theorem name_l2 {P : Program} {ops : Array Oper} {l : List Oper} {Q : Exit → Act → World → Prop} {a : Act} {W : World} (h : ∀ W', W' = W → wpList P ops Q l a W') : wpList P ops Q l a W := h W rfl
set_option maxRecDepth 100000 in
set_option maxHeartbeats 8000000 in
theorem ccheck_any (A : Option Addr) (n c K : Nat) (ss : List St) (w : World) (hL : StepL w A ss) (hn : ss.length = n) (hn2 : n ≤ 1000) (hF : ∀ i, i < ss.length → FitS K (gat ss i)) (hK1 : 1 ≤ K) (hK : K ≤ 1000) :
    Calls Try.prog 100 #[.slice A n c] w fun e w' => e = .returned (.int .i64 (checkE ss)) ∧ Ext w w' := by
  obtain ⟨t, ht⟩ : ∃ t, t = checkE ss := ⟨_, rfl⟩
  rw [← ht]
  have Ht := hide ht
  have Hn := hide hn
  have HL := hide hL
  clear ht hn hL
  go_enter Try.func100, Try.ntmps100
  by_cases h64 : 64 < n
  · have h64I : (64 : Int) < (n : Int) := by omega
    obtain rfl : t = 4 := Ht.out.trans (by unfold checkE; rw [if_pos (.inl (by rw [Hn.out]; exact h64))])
    go_wp2_with fail
    go_ret
    exact ⟨rfl, Upd.refl _ _⟩
  have h64I : ¬ (64 : Int) < (n : Int) := by omega
  go_wp2_with fail
  go_loopw [15] (fun i wr => ∃ j : Nat, j ≤ n ∧ i = .int .i64 (j : Int) ∧ (ss.take j).any longB = false ∧ Ext w wr) (fun i _ => n - (intOf i).toNat)
  case atStart => exact ⟨0, Nat.zero_le _, rfl, rfl, Upd.refl _ _⟩
  case round =>
    obtain ⟨j, hj, rfl, hno, hE⟩ := hrel
    have Hno := hide hno
    clear hno
    by_cases hlt : j < n
    · have hltI : (j : Int) < (n : Int) := by omega
      obtain ⟨b, o, A1, l1, c1, A2, l2, c2, A3, n3, c3, rfl, q0, q1, q2, hV1, hV2, hV3, hn3, hn3c, hc3⟩ := (HL.out.ext hE) j (by rw [Hn.out]; exact hlt)
      obtain ⟨s, hs⟩ : ∃ s, s = gat ss j := ⟨_, rfl⟩
      obtain ⟨hFN, hFb, hFp, hpl⟩ := hF j (by rw [Hn.out]; exact hlt)
      rw [← hs] at hV1 hV2 hV3 hn3 hFN hFb hFp hpl
      have Hs := hide hs
      clear hs
      obtain ⟨ts, hts, hSts, hNts⟩ := hV3
      have htl : ts.length = n3 := hts.trans hn3
      have hn3b : n3 ≤ 100 := by omega
      have Htl := hide htl
      clear hts htl
      go_wp2_with (at_builtin; go_must (refine name_l2 (fun W hW => ?_)); go_must (have hEW : Ext wr W := (by rw [hW]; exact ((Upd.refl _ _).alloc _).alloc _)); go_must (have hOW : Own W wr.heap.size 33 (some ⟨wr.heap.size + 1, 0, none⟩) 2 ([((A1, l1, c1) : Tri), (A2, l2, c2)].map svt) := (by rw [hW]; exact Own.lit_at svt _ _ (by simp) (show 2 ≤ maxLen by unfold maxLen; decide) (by simp))); have HW := hide hW; clear hW; go_must (refine wpList_apd svt svt_one Try.n_elN [((A1, l1, c1) : Tri), (A2, l2, c2)] ts ([((A1, l1, c1) : Tri), (A2, l2, c2)] ++ ts) (2 + n3) rfl (by rw [List.length_append, Htl.out]; rfl) (by omega) (by unfold maxLen; omega) rfl rfl rfl rfl hOW rfl Htl.out (hSts.ext hEW) hEW.size ?_); intro A4 c4 w2 hO4 hU4 hin4)
      have hE2 : Ext wr w2 := Upd.fresh hU4 hEW (fun k hk => (hOW.in_ hk).1)
      obtain ⟨ns, hns⟩ : ∃ ns, ns = s.N :: s.b :: s.ps := ⟨_, rfl⟩
      have hnl : ns.length = 2 + n3 := by rw [hns, List.length_cons, List.length_cons, hn3]; omega
      have hLn : NatL w2 A4 ns := by
        refine ⟨_, by rw [List.length_append, Htl.out, hnl]; rfl, hO4.sl, fun i hi => ?_⟩
        rw [hns] at hi ⊢
        match i, hi with
        | 0, _ => exact hV1.ext hE2
        | 1, _ => exact hV2.ext hE2
        | k + 2, h =>
          have hk : k < s.ps.length := by simpa using h
          have e1 : gat ([((A1, l1, c1) : Tri), (A2, l2, c2)] ++ ts) (k + 2) = gat ts k := gat_append_right (by simp)
          rw [e1]
          exact (hNts k hk).ext hE2
      have hFn : ∀ i, i < ns.length → Fit K (gat ns i) := fun i hi => by
        rw [hns] at hi ⊢
        match i, hi with
        | 0, _ => exact hFN
        | 1, _ => exact hFb
        | k + 2, h => exact hFp k (by simpa using h)
      have hlg : longB s = ns.any fun p => decide (1024 < blen p) := by rw [hns]; exact longB_list s
      have Hlg := hide hlg
      have Hnl := hide hnl
      have HLn := hide hLn
      have hE3 := hE.trans hE2
      clear hns hlg hnl hLn hO4 hU4 hin4 hEW hOW HW hV1 hV2 hSts hNts q0 q1 q2 hE2 hE
      go_loopw [28] (fun i wr => ∃ q : Nat, q ≤ 2 + n3 ∧ i = .int .i64 (q : Int) ∧ ((ns.take q).any fun p => decide (1024 < blen p)) = false ∧ Ext w2 wr) (fun i _ => 2 + n3 - (intOf i).toNat)
      case atStart => exact ⟨0, Nat.zero_le _, rfl, rfl, Upd.refl _ _⟩
      case round =>
        obtain ⟨q, hq, rfl, hnq, hEq⟩ := hrel
        have Hnq := hide hnq
        clear hnq
        by_cases hqn : q < 2 + n3
        · have hqI : (q : Int) < 2 + (n3 : Int) := by omega
          have hqI2 : (q : Int) < ((2 + n3 : Nat) : Int) := by omega
          obtain ⟨b4, o4, Q, lQ, cQ, rfl, hcq, hVq⟩ := (HLn.out.ext hEq).at (i := q) (by rw [Hnl.out]; exact hqn)
          obtain ⟨x, hx⟩ : ∃ x, x = gat ns q := ⟨_, rfl⟩
          have hFx : Fit K x := by rw [hx]; exact hFn q (by rw [Hnl.out]; exact hqn)
          rw [← hx] at hVq
          have Hx := hide hx
          clear hx
          go_wp2_with fail
          refine name_c (fun W hW => ?_)
          have hEW : Ext wr W := by rw [hW]; exact (Upd.refl _ _).alloc _
          clear hW hcq
          refine (clong_any _ x K _ (hVq.ext hEW) hFx (by omega)).mono ?_
          rintro e w5 ⟨rfl, hU5⟩
          have hE5 := (hEq.trans hEW).trans hU5
          clear hEW hU5 hVq hEq
          by_cases hxl : 1024 < blen x
          · rw [decide_eq_true hxl]
            obtain rfl : t = 4 := Ht.out.trans (by
              unfold checkE
              rw [if_pos (.inr (any_at longB (k := j) (by rw [Hn.out]; exact hlt) (by rw [← Hs.out, Hlg.out]; exact any_at _ (k := q) (by rw [Hnl.out]; exact hqn) (by rw [← Hx.out]; exact decide_eq_true hxl))))])
            clear hxl
            go_wp2_with fail
            go_ret
            exact ⟨rfl, hE3.trans hE5⟩
          · rw [decide_eq_false hxl]
            have Hxl := hide hxl
            clear hxl
            go_wp2_with fail
            go_roundw
            case rel => exact ⟨q + 1, by omega, by go_num, by rw [any_take _ (by rw [Hnl.out]; exact hqn), Hnq.out, ← Hx.out, decide_eq_false Hxl.out]; rfl, hE5⟩
            case measure => simp [intOf]; omega
        · obtain rfl : q = 2 + n3 := by omega
          have hall : longB s = false := by
            have := Hnq.out
            rw [List.take_of_length_le (by rw [Hnl.out]; omega)] at this
            rw [Hlg.out, this]
          have Hall := hide hall
          clear hall
          go_wp2_with fail
          go_roundw
          case rel => exact ⟨j + 1, by omega, by go_num, by rw [any_take _ (by rw [Hn.out]; exact hlt), Hno.out, ← Hs.out, Hall.out]; rfl, hE3.trans hEq⟩
          case measure => simp [intOf]; omega
    · obtain rfl : j = n := by omega
      have hltI : ¬ (j : Int) < (j : Int) := by omega
      have hnolong : ss.any longB = false := by have := Hno.out; rwa [List.take_of_length_le (by rw [Hn.out]; omega)] at this
      have hte : checkE ss = if holdAll [] ss = true then 0 else 8 := by
        unfold checkE
        rw [if_neg (fun h => h.elim (fun h => by rw [Hn.out] at h; omega) (fun h => by rw [hnolong] at h; cases h))]
      have Hte := hide (Ht.out.trans hte)
      clear hte hnolong
      go_wp2_with fail
      go_loopw [7, 38] (fun bv i wr => ∃ (q lq : Nat) (D : Option Addr) (cD : Nat) (tb : List Tri), q ≤ j ∧ lq = q ∧ i = .int .i64 (q : Int) ∧ bv = .slice D lq cD ∧ tb.length = lq ∧ Own wr w.heap.size 33 D cD (tb.map svt) ∧ (∀ i, i < lq → NatV w (.agg #[svt (gat tb i)]) (gat ss i).N) ∧ holdAll [] ss = holdAll ((ss.take q).map St.N) (ss.drop q) ∧ Ext w wr) (fun _ i _ => j - (intOf i).toNat)
      case atStart => exact ⟨0, 0, none, 0, [], Nat.zero_le _, rfl, rfl, rfl, rfl, Own.nil, fun i hi => absurd hi (by omega), rfl, hE⟩
      case round =>
        clear hE
        obtain ⟨q, lq, D, cD, tb, hq, hlq, rfl, rfl, htb, hOb, hNb, hho, hE⟩ := hrel
        subst hlq
        have Hho := hide hho
        have Htb := hide htb
        clear hho htb
        by_cases hqj : lq < j
        · have hqI : (lq : Int) < (j : Int) := by omega
          obtain ⟨b, o, A1, l1, c1, A2, l2, c2, A3, n3, c3, rfl, q0, q1, q2, hV1, hV2, hV3, hn3, hn3c, hc3⟩ := HL.out lq (by rw [Hn.out]; exact hqj)
          replace q0 := hE.cellv q0
          replace q1 := hE.cellv q1
          replace q2 := hE.cellv q2
          replace hV2 := hV2.ext hE
          replace hV3 := hV3.ext hE
          obtain ⟨s, hs⟩ : ∃ s, s = gat ss lq := ⟨_, rfl⟩
          obtain ⟨hFN, hFb, hFp, hpl⟩ := hF lq (by rw [Hn.out]; exact hqj)
          obtain ⟨bs, hbs⟩ : ∃ bs, bs = (ss.take lq).map St.N := ⟨_, rfl⟩
          have hbl : bs.length = lq := by rw [hbs, List.length_map, List.length_take, Hn.out]; omega
          have hbg : ∀ i, i < lq → gat bs i = (gat ss i).N := fun i hi => by
            have h1 : i < ss.length := by rw [Hn.out]; omega
            rw [hbs, gat_lt (by rw [List.length_map, List.length_take]; omega), List.getElem_map, List.getElem_take, gat_lt h1]
          have hLb : NatL wr D bs := ⟨tb, by rw [hbl]; exact Htb.out, hOb.sl, fun i hi => by rw [hbg i (by omega)]; exact (hNb i (by omega)).ext hE⟩
          have hFbs : FitL K bs := fun i hi => by rw [hbg i (by omega)]; exact (hF i (by rw [Hn.out]; omega)).1
          rw [← hs] at hV1 hV2 hV3 hn3 hFN hFb hFp hpl
          have hdrop : ss.drop lq = s :: ss.drop (lq + 1) := by
            rw [hs, gat_lt (by rw [Hn.out]; exact hqj)]
            exact List.drop_eq_getElem_cons (by rw [Hn.out]; exact hqj)
          have htake : (ss.take (lq + 1)).map St.N = bs ++ [s.N] := by rw [List.take_succ_eq_append_getElem (by rw [Hn.out]; exact hqj), List.map_append, hbs, hs, gat_lt (by rw [Hn.out]; exact hqj)]; rfl
          have hho := Hho.out
          rw [← hbs, hdrop] at hho
          have Hho2 := hide hho
          have Htake := hide htake
          have Hs := hide hs
          clear hs hbs hdrop htake hho hbg
          go_wp2_with fail
          refine name_c (fun W hW => ?_)
          have hEW : Ext wr W := by rw [hW]; exact (Upd.refl _ _).alloc _
          have s9 : Three W wr.heap.size 37 (.slice A1 l1 c1) (.slice A2 l2 c2) (.slice A3 n3 c3) := by rw [hW]; exact Three.new _ _ _ _ _
          clear hW q0 q1 q2
          refine (choldsB_any A1 A2 A3 D l1 c1 l2 c2 n3 c3 lq cD s.N s.b K s.ps bs _ ((hV1.ext hE).ext hEW) (hV2.ext hEW) (hV3.ext hEW) hn3 hn3c hc3 (hLb.ext hEW) hbl (by omega) hFN hFb hFp hFbs hK1 hK).mono ?_
          rintro e w5 ⟨rfl, hU5⟩
          have hE5 := hEW.trans hU5
          replace s9 := s9.ext hU5
          have hOb5 := hOb.ext hE5
          have HV1 := hide hV1
          have hEw := hE.trans hE5
          clear hLb hEW hU5 hV1 hV2 hV3 hOb
          cases hh : holdsB s.N s.b s.ps bs with
          | false =>
            obtain rfl : t = 8 := Hte.out.trans (by
              have := Hho2.out
              rw [holdAll, hh, Bool.false_and] at this
              rw [if_neg (by rw [this]; decide)])
            clear hh
            go_wp2_with fail
            go_ret
            exact ⟨rfl, hEw⟩
          | true =>
            have Hhh := hide hh
            have k0 := s9.cell0
            clear hh
            go_wp2_with (at_builtin; refine name_l2 (fun W hW => ?_); have hEW : Ext w5 W := (by rw [hW]; exact (Upd.refl _ _).alloc _); have hSW : Sl svt W (some ⟨w5.heap.size, 0, none⟩) [((A1, l1, c1) : Tri)] := (by rw [hW]; exact Sl.new svt w5 33 [((A1, l1, c1) : Tri)]); have HW := hide hW; clear hW; go_must (refine wpList_apd svt svt_one Try.n_elN tb [((A1, l1, c1) : Tri)] (tb ++ [((A1, l1, c1) : Tri)]) (lq + 1) rfl (by rw [List.length_append, Htb.out]; rfl) (by omega) (by unfold maxLen; omega) rfl rfl rfl Htb.out (hOb5.ext hEW) rfl rfl hSW (hEw.trans hEW).size ?_); intro A6 c6 w6 hO6 hU6 hin6)
            have hE6 : Ext w w6 := Upd.fresh hU6 (hEw.trans hEW) (fun k hk => (hOb5.in_ hk).1)
            have hN6 : ∀ i, i < lq + 1 → NatV w (.agg #[svt (gat (tb ++ [((A1, l1, c1) : Tri)]) i)]) (gat ss i).N := fun i hi => by
              by_cases h : i < lq
              · rw [gat_append_left (by rw [Htb.out]; exact h)]
                exact hNb i h
              · obtain rfl : i = lq := by omega
                rw [gat_append_right (by rw [Htb.out]; exact Nat.le_refl _), Htb.out, Nat.sub_self, ← Hs.out]
                exact HV1.out
            have HN6 := hide hN6
            have HE6 := hide hE6
            have HO6 := hide hO6
            clear hN6 hE6 hO6 hU6 hin6 hOb5 hSW hEW HW k0 hNb
            go_roundw
            case rel => exact ⟨lq + 1, lq + 1, A6, c6, tb ++ [((A1, l1, c1) : Tri)], hqj, rfl, by go_num, rfl, by rw [List.length_append, Htb.out]; rfl, HO6.out, HN6.out, by rw [Htake.out, Hho2.out, holdAll, Hhh.out, Bool.true_and], HE6.out⟩
            case measure => simp [intOf]; omega
        · obtain rfl : lq = j := by omega
          have hqI : ¬ (lq : Int) < (lq : Int) := by omega
          obtain rfl : t = 0 := Hte.out.trans (by
            have := Hho.out
            rw [List.drop_of_length_le (by rw [Hn.out]; omega), holdAll] at this
            rw [if_pos this])
          go_wp2_with fail
          go_ret
          exact ⟨rfl, hE⟩
end Go.Proofs.Ytoekbomfepedcaa
