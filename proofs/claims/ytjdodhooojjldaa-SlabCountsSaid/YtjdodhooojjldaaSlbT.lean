/- The law on lasting faces, walked. -/
import Derived.Test.YtjdodhooojjldaaSlbS
namespace Go.Proofs.Ytjdodhooojjldaa
set_option linter.unusedSimpArgs false
set_option linter.unusedVariables false
open Go.RowKit
open Sha
attribute [local go_sem] steady steadyUpon Cls same_cell anyW by8 str_eq
attribute [local irreducible] wpHead wpTree wpHeadR
theorem u64_mod32 (z : Int) : ∃ K : Nat, (IntKind.u64.wrap z).tmod 32 = (K : Int) ∧ K < 32 := by
  have hw0 : 0 ≤ IntKind.u64.wrap z := by
    unfold IntKind.wrap
    simp [IntKind.signed, IntKind.bits]
    omega
  rw [Int.tmod_eq_emod_of_nonneg hw0]
  exact ⟨(IntKind.u64.wrap z % 32).toNat, by omega, by omega⟩
theorem sodo (w0 : World) (g gl : Nat) (x : Slv) (d : Dee) (cs : Array Value) (hcs : cs = #[.int .i64 d.kind, .int .i64 d.at_, .int .i64 d.N, by8 d.X, .slice d.A d.l d.c]) (w : World) (h : SlO w0 w g gl x) (hx : x.fit 900000) (hok : DeeOk w d)
    (hsep : ∀ i, i < d.ss.length → 0 < (gat d.ss i).l → ∀ k, inA (gat d.ss i).A k → k ≠ g ∧ k ≠ gl) :
    Calls Try.prog 31 #[.pointer (some ⟨g, 0, none⟩), .agg cs] w fun e w' => e = .returned (.tuple #[]) ∧ SlO w0 w' g gl (x.done d) ∧ Upd (fun k => k = g ∨ k = gl) w w' := by
  obtain ⟨⟨D, f, hS0⟩, hE⟩ := h
  refine (sdo_any _ D g gl f x d cs hcs w hS0 hx hok hsep hE.size).mono ?_
  rintro e w' ⟨rfl, D', f', hS', hU, -⟩
  exact ⟨rfl, SlO.step (B := 0) hE hS0 hS' hU, hU⟩
theorem DeeOk.ext {w w' : World} {d : Dee} (h : DeeOk w d) (hu : Ext w w') : DeeOk w' d := ⟨h.wk, h.wa, h.wn, h.scars.ext hu, h.len, h.cap, h.max⟩
theorem DeeOk.sep {w : World} {d : Dee} (h : DeeOk w d) {g gl : Nat} (hg : w.heap.size ≤ g) (hgl : w.heap.size ≤ gl) : ∀ i, i < d.ss.length → 0 < (gat d.ss i).l → ∀ k, inA (gat d.ss i).A k → k ≠ g ∧ k ≠ gl := fun i hi h0 k hk => by
  obtain ⟨-, -, -, -, -, hok⟩ := h.scars i hi
  obtain ⟨b0, o0, e0, h1, -⟩ := hok.row.open_ (by rw [hok.len]; exact h0)
  have : k = b0 := by rw [e0] at hk; simpa [inA] using hk.symm
  omega
theorem Slv.done_fit {x : Slv} {k : Nat} (h : x.fit k) (hl : x.secs.length = 32) {d : Dee} (hn : (Lit.int .i64 d.N).wf = true) : (x.done d).fit (k + 32) := by
  have hn2 : d.N ≤ 9223372036854775807 := by
    simp [Lit.wf, IntKind.min, IntKind.max, IntKind.signed, IntKind.bits] at hn
    omega
  unfold Slv.done
  split
  · exact Slv.fit_up (Slv.inked_fit h _ _) (by omega)
  · split
    · have := Slv.burnt_fit h
      rwa [hl] at this
    · split
      · exact Slv.fit_up (Slv.supplied_fit h hn2) (by omega)
      · split
        · exact Slv.fit_up (Slv.woken_fit h _) (by omega)
        · exact Slv.fit_up h (by omega)
theorem Slv.Has.done {x : Slv} {N at_ : Nat} {bs : List B8} (h : x.Has N at_ bs) (hat : at_ < N) {d : Dee} (hd : d.kind ≠ 0 ∨ d.at_ ≠ (at_ : Int)) : (x.done d).Has N at_ bs := by
  unfold Slv.done
  split
  · rename_i h0
    exact h.inked hat (hd.resolve_left (fun h => h h0)) _
  · split
    · exact h.burnt hat
    · split
      · exact h.supplied _
      · split
        · exact h.woken hat _
        · exact h
theorem lasts_start {p : Nat} (hp : p < 32) (x : B8) : ((Slv.new 32).inked p (pl64 x)).fit 1 ∧ (Slv.new 32).inkE p 64 = 0 ∧ ((Slv.new 32).inked p (pl64 x)).burnE = 0 ∧ (((Slv.new 32).inked p (pl64 x)).burnt).fit 33 ∧ (((Slv.new 32).inked p (pl64 x)).burnt).Has 32 p (pl64 x) := by
  have hl0 : (Slv.new 32).secs.length = 32 := by simp [Slv.new]
  have e0 : (Slv.new 32).endless = true := rfl
  obtain ⟨e1, s1⟩ := Slv.inked_endless e0 (n := p) (by omega) (pl64_len x)
  have f1 := Slv.inked_fit (Slv.new_fit 32) (p : Int) (pl64 x)
  have hl1 := Slv.inked_len (Slv.new 32) (p : Int) (pl64 x)
  obtain ⟨hb, e3, s3⟩ := Slv.burnt_endless e1 (by omega)
  have f3 := Slv.burnt_fit f1
  have hl3 := Slv.burnt_len ((Slv.new 32).inked p (pl64 x))
  refine ⟨f1, Slv.inkE_endless e0 (by omega) (by omega), hb, Slv.fit_up f3 (by omega), by omega, ?_⟩
  rw [s3 p (by omega), s1, gat_setp _ _ _ _ (by omega), if_pos rfl]
  rfl
set_option maxRecDepth 100000 in
set_option maxHeartbeats 2000000 in
theorem slasts_any (at0 : Int) (x : B8) (A : Option Addr) (n c : Nat) (ds : List Dee) (w : World) (hL : DeeL w A ds) (hn : ds.length = n) (hm : n ≤ maxLen) :
    Calls Try.prog 5 #[.int .i64 at0, .int .u8 (n8 x), .slice A n c] w fun e w' => e = .returned (.bool true) ∧ Ext w w' := by
  have HL := hide hL
  have Hn := hide hn
  have Hm := hide hm
  have hn9 : n ≤ 9223372036854775807 := by unfold maxLen at hm; omega
  clear hL hn hm
  obtain ⟨p, hp, hp32⟩ := u64_mod32 at0
  obtain ⟨F1, hE1, hE2, F2, hH⟩ := lasts_start hp32 x
  have HF := hide (And.intro F1 F2)
  have HE1 := hide hE1
  have HE2 := hide hE2
  have HH := hide hH
  clear F1 F2 hE1 hE2 hH
  go_enter Try.func5, Try.ntmps5
  go_wp2_with fail
  refine (sonew 32 (by decide) (by decide) w).mono ?_
  rintro e w1 ⟨g, gl, rfl, hg, hgl, h1⟩
  replace h1 : SlO w w1 g gl (Slv.new 32) := h1
  go_wp2_with fail
  refine (slives_any w1).mono ?_
  rintro e w2 ⟨rfl, hE2⟩
  replace h1 := h1.keep hE2
  clear hE2
  go_wp2_with fail
  refine (sfew_any A n c ds w2 (fun i hi => by
    obtain ⟨b, o, e, hc, hok⟩ := HL.out i hi
    exact ⟨b, o, e, fun j hj => by
      have hcj := hc j hj
      match j, hj with
      | 0, _ => exact h1.ext.cellv hcj
      | 1, _ => exact h1.ext.cellv hcj
      | 2, _ => exact h1.ext.cellv hcj
      | 3, _ => exact h1.ext.cellv hcj
      | 4, _ => exact h1.ext.cellv hcj, hok.ext h1.ext⟩) Hn.out Hm.out).mono ?_
  rintro e w3 ⟨t, rfl, hF, hE3⟩
  replace h1 := h1.keep hE3
  clear hE3
  cases t with
  | false =>
    go_wp2_with fail
    refine (slives_any w3).mono ?_
    rintro e w4 ⟨rfl, hE4⟩
    have hEf := h1.ext.trans hE4
    clear h1 hE4
    go_wp2_with fail
    go_ret
    exact ⟨rfl, hEf⟩
  | true =>
    have HFd := hide (hF rfl)
    clear hF
    go_wp2_with fail
    refine (splain_any x _ rfl w3).mono ?_
    rintro e w4 ⟨A4, c4, rfl, hO4, hE4⟩
    replace h1 := h1.keep hE4
    go_wp2_with fail
    refine (soink w g gl (Slv.new 32) p A4 64 c4 (pl64 x) w4 h1 (Slv.fit_up (Slv.new_fit 32) (by omega)) hO4.sl (pl64_len _) (by omega)).mono ?_
    rintro e w5 ⟨rfl, h5, -⟩
    rw [HE1.out]
    clear h1 hO4 hE4
    go_wp2_with fail
    refine (soburn w g gl _ w5 h5 (Slv.fit_up HF.out.1 (by omega))).mono ?_
    rintro e w6 ⟨rfl, h6, -⟩
    rw [HE2.out]
    clear h5
    go_wp2_with fail
    go_loopw [46] (fun i wr => ∃ (k : Nat) (y : Slv), k ≤ n ∧ i = .int .i64 (k : Int) ∧ SlO w wr g gl y ∧ Hid (y.fit (33 + k * 32) ∧ y.Has 32 p (pl64 x))) (fun i _ => n - (Go.RowKit.intOf i).toNat)
    case atStart => exact ⟨0, _, Nat.zero_le _, rfl, h6, hide ⟨HF.out.2, HH.out⟩⟩
    case round =>
      clear h6
      obtain ⟨k, y, hk, rfl, hS, HY⟩ := hrel
      have hn60 : n ≤ 60 := by have := HFd.out.1; rw [Hn.out] at this; exact this
      by_cases hlt : k < n
      case neg =>
        obtain rfl : k = n := by omega
        have hltI : ¬ ((k : Int) < (k : Int)) := by omega
        go_wp2_with fail
        refine (sowake0 w g gl y wr hS).mono ?_
        rintro e w8 ⟨rfl, h8, -⟩
        have h8H := HY.out.2.woken hp32 []
        have hlk : (y.woken []).look (p : Int) = 0 := Slv.look_endless rfl (by omega) (by rw [h8H.len]; omega)
        have hfc : faceOf (gat (y.woken []).secs p) = pl64 x := by rw [h8H.face]; rfl
        have Hlk := hide hlk
        have Hfc := hide hfc
        clear h8H hlk hfc hS
        go_wp2_with fail
        refine (soface w g gl _ p w8 h8).mono ?_
        rintro e w9 ⟨hE9, -, h9⟩
        obtain ⟨A9, c9, rfl, hO9⟩ := h9 Hlk.out
        rw [show (p : Int).toNat = p from rfl, Hfc.out] at hO9
        replace h8 := h8.keep hE9
        clear h9 hE9
        have ht9 := str_cls (c := c9) (hO9.sl.ext (Upd.refl _ w9).drew) (pl64_len x)
        go_wp2_with fail
        refine wp_region_plan (Ext _) 10 [(false,0), (false,1), (false,2), (false,3), (false,4), (false,5), (true,6), (false,7), (false,8), (false,9)] (by kernel_rfl) (by kernel_rfl) (Upd.refl _ _) (fun hne => ?_)
        repeat (refine head_q rfl (fun K hK => ?_); have hK2 := hide hK; clear hK; go_simp; refine hK2.out _ ?_; clear hK2 K)
        refine head_l rfl ?_
        go_wp2_with (go_at_call 29; go_must (refine (splain_any x _ rfl _).mono ?_); rintro e wy ⟨Ay, cy, rfl, hOy, hEy⟩)
        refine ⟨Cls (Ext _), cls_narrow hEy, ⟨⟨_, Upd.refl _ _⟩, rfl⟩, ?_⟩
        have ht4 := str_cls (c := cy) hOy.sl (pl64_len x)
        repeat (refine head_q rfl (fun K hK => ?_); have hK2 := hide hK; clear hK; go_simp; refine hK2.out _ ?_; clear hK2 K)
        refine head_nil ?_
        try simp only [List.drop_succ_cons, List.drop_zero]
        have hEf := (h8.ext.drew).trans hEy
        clear ht9 ht4
        go_wp2_with fail
        go_ret
        exact ⟨rfl, hEf⟩
      have hltI : (k : Int) < (n : Int) := by omega
      obtain ⟨b, o, rfl, hc, hok⟩ := HL.out k (by rw [Hn.out]; exact hlt)
      obtain ⟨d, hd⟩ : ∃ d, d = gat ds k := ⟨_, rfl⟩
      rw [← hd] at hc hok
      have hE := hS.ext
      have c0 : wr.cell? ⟨b, o + k * 5, none⟩ = some (.int .i64 d.kind) := hE.cellv (hc 0 (by omega))
      have c1 : wr.cell? ⟨b, o + k * 5 + 1, none⟩ = some (.int .i64 d.at_) := hE.cellv (hc 1 (by omega))
      have c2 : wr.cell? ⟨b, o + k * 5 + 2, none⟩ = some (.int .i64 d.N) := hE.cellv (hc 2 (by omega))
      have c3 : wr.cell? ⟨b, o + k * 5 + 3, none⟩ = some (by8 d.X) := hE.cellv (hc 3 (by omega))
      have c4 : wr.cell? ⟨b, o + k * 5 + 4, none⟩ = some (.slice d.A d.l d.c) := hE.cellv (hc 4 (by omega))
      unfold by8 at c3
      have Hok := hide (hok.ext hE)
      have Hsep := hide (hok.sep hg hgl)
      have hfit : (y.done d).fit (33 + (k + 1) * 32) := Slv.fit_up (Slv.done_fit HY.out.1 HY.out.2.len hok.wn) (by omega)
      have Hfit := hide hfit
      clear hd hc hok hE hfit
      by_cases hsk : d.kind = 0 ∧ d.at_ = (p : Int)
      · obtain ⟨hk0, ha0⟩ := hsk
        have hk0b : (d.kind != 0) = false := by rw [hk0]; rfl
        have ha0b : (d.at_ != (p : Int)) = false := by rw [ha0]; simp
        go_wp2_with fail
        go_roundw
        case rel => exact ⟨k + 1, y, by omega, by go_num, hS.keep (by repeat (first | (with_reducible exact Upd.refl _ _) | (with_reducible assumption) | (refine Upd.setCell ?_ (.inr (by first | exact Nat.le_refl _ | (dsimp only; omega) | (simp; done) | (simp; omega))) _) | (with_reducible refine Upd.alloc ?_ _) | (with_reducible refine Upd.drew ?_) | (with_reducible refine Upd.trans ?_ (by with_reducible assumption)))), hide ⟨Slv.fit_up HY.out.1 (by omega), HY.out.2⟩⟩
        case measure => simp [Go.RowKit.intOf]; omega
      have hd2 : d.kind ≠ 0 ∨ d.at_ ≠ (p : Int) := by
        by_cases h : d.kind = 0
        · exact .inr (fun h2 => hsk ⟨h, h2⟩)
        · exact .inl h
      have HH2 := hide (HY.out.2.done hp32 hd2)
      clear hsk
      by_cases hk0 : d.kind = 0
      · have ha1 : d.at_ ≠ (p : Int) := hd2.resolve_left (fun h => h hk0)
        have hk0b : (d.kind != 0) = false := by rw [hk0]; rfl
        have hb1 : (d.at_ != (p : Int)) = true := by simpa using ha1
        clear hd2
        go_wp2_with fail
        refine (sodo w g gl y d _ (by rw [hk0]; rfl) (wr.alloc (.cells #[.int .i64 0, .int .i64 d.at_, .int .i64 d.N, .int .u8 (n8 d.X), .slice d.A d.l d.c] 52)) (hS.keep ((Upd.refl _ _).alloc _)) (Slv.fit_up HY.out.1 (by omega)) (Hok.out.ext ((Upd.refl _ _).alloc _)) Hsep.out).mono ?_
        rintro e w7 ⟨rfl, h7, -⟩
        go_wp2_with fail
        go_roundw
        case rel => exact ⟨k + 1, y.done d, by omega, by go_num, h7, hide ⟨Hfit.out, HH2.out⟩⟩
        case measure => simp [Go.RowKit.intOf]; omega
      · have hk0b : (d.kind != 0) = true := by simpa using hk0
        clear hd2
        go_wp2_with fail
        refine (sodo w g gl y d _ rfl (wr.alloc (.cells #[.int .i64 d.kind, .int .i64 d.at_, .int .i64 d.N, .int .u8 (n8 d.X), .slice d.A d.l d.c] 52)) (hS.keep ((Upd.refl _ _).alloc _)) (Slv.fit_up HY.out.1 (by omega)) (Hok.out.ext ((Upd.refl _ _).alloc _)) Hsep.out).mono ?_
        rintro e w7 ⟨rfl, h7, -⟩
        go_wp2_with fail
        go_roundw
        case rel => exact ⟨k + 1, y.done d, by omega, by go_num, h7, hide ⟨Hfit.out, HH2.out⟩⟩
        case measure => simp [Go.RowKit.intOf]; omega
end Go.Proofs.Ytjdodhooojjldaa
