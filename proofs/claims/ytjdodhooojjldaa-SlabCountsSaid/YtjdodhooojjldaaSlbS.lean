/- The law on scars, walked. -/
import Derived.Test.YtjdodhooojjldaaSlbL
namespace Go.Proofs.Ytjdodhooojjldaa
set_option linter.unusedSimpArgs false
set_option linter.unusedVariables false
open Go.RowKit
open Sha
attribute [local go_sem] steady steadyUpon Cls same_cell anyW by8 str_eq
attribute [local irreducible] wpHead wpTree wpHeadR
theorem u64_mod16 (z : Int) : ∃ K : Nat, (IntKind.u64.wrap z).tmod 16 = (K : Int) ∧ K < 16 := by
  have hw0 : 0 ≤ IntKind.u64.wrap z := by
    unfold IntKind.wrap
    simp [IntKind.signed, IntKind.bits]
    omega
  rw [Int.tmod_eq_emod_of_nonneg hw0]
  exact ⟨(IntKind.u64.wrap z % 16).toNat, by omega, by omega⟩
theorem soinked (w0 : World) (g gl : Nat) (x : Slv) (w : World) (h : SlO w0 w g gl x) (h0 : (inkedK x x.secs.length).length = 0) :
    Calls Try.prog 37 #[.pointer (some ⟨g, 0, none⟩)] w (RetInked w 0) := by
  obtain ⟨⟨D, f, hS0⟩, hE⟩ := h
  have := sinked_any _ D g gl f x w hS0
  rwa [h0] at this
/-! ### plainly -/
def scX (p q : Nat) (x y : B8) : Slv := (((((Slv.new 16).inked p (pl64 x)).inked q (pl64 x)).burnt).inked p (pl64 y))
theorem sc_plain {p q : Nat} (hp : p < 16) (hq : q < 16) (x y : B8) : ((Slv.new 16).inked p (pl64 x)).fit 1 ∧ (((Slv.new 16).inked p (pl64 x)).inked q (pl64 x)).fit 2 ∧ ((((Slv.new 16).inked p (pl64 x)).inked q (pl64 x)).burnt).fit 18 ∧
    (scX p q x y).secs.length = 16 ∧ gat (scX p q x y).secs p = (some (pl64 x), some (pl64 y)) ∧ (q ≠ p → gat (scX p q x y).secs q = (some (pl64 x), none)) := by
  have hl0 : (Slv.new 16).secs.length = 16 := by simp [Slv.new]
  have e0 : (Slv.new 16).endless = true := rfl
  obtain ⟨e1, s1⟩ := Slv.inked_endless e0 (n := p) (by omega) (pl64_len x)
  have f1 := Slv.inked_fit (Slv.new_fit 16) (p : Int) (pl64 x)
  have hl1 := Slv.inked_len (Slv.new 16) (p : Int) (pl64 x)
  obtain ⟨e2, s2⟩ := Slv.inked_endless e1 (n := q) (by omega) (pl64_len x)
  have f2 := Slv.inked_fit f1 (q : Int) (pl64 x)
  have hl2 := Slv.inked_len ((Slv.new 16).inked p (pl64 x)) (q : Int) (pl64 x)
  obtain ⟨-, e3, s3⟩ := Slv.burnt_endless e2 (by omega)
  have f3 := Slv.burnt_fit f2
  have hl3 := Slv.burnt_len (((Slv.new 16).inked p (pl64 x)).inked q (pl64 x))
  obtain ⟨-, s4⟩ := Slv.inked_endless e3 (n := p) (by omega) (pl64_len y)
  have hl4 := Slv.inked_len ((((Slv.new 16).inked p (pl64 x)).inked q (pl64 x)).burnt) (p : Int) (pl64 y)
  have g1 : ∀ j, j < 16 → gat ((Slv.new 16).inked p (pl64 x)).secs j = if p = j then (none, some (pl64 x)) else (none, none) := fun j hj => by
    rw [s1, gat_setp _ _ _ _ (by omega)]
    have : ∀ j, j < 16 → gat (Slv.new 16).secs j = (none, none) := fun j hj => gat_rep hj
    rw [this p hp, this j hj]
  have g2 : ∀ j, j < 16 → j = p ∨ j = q → gat (((Slv.new 16).inked p (pl64 x)).inked q (pl64 x)).secs j = (none, some (pl64 x)) := fun j hj h => by
    rw [s2, gat_setp _ _ _ _ (by omega), g1 q hq, g1 j hj]
    by_cases h1 : q = j
    · rw [if_pos h1]
      split <;> rfl
    · rw [if_neg h1, if_pos (by omega)]
  have g3 : ∀ j, j < 16 → j = p ∨ j = q → gat ((((Slv.new 16).inked p (pl64 x)).inked q (pl64 x)).burnt).secs j = (some (pl64 x), none) := fun j hj h => by
    rw [s3 j (by omega), g2 j hj h]
    rfl
  refine ⟨f1, f2, Slv.fit_up f3 (by omega), by unfold scX; omega, ?_, fun hne => ?_⟩
  · unfold scX
    rw [s4, gat_setp _ _ _ _ (by omega), if_pos rfl, g3 p hp (.inl rfl)]
  · unfold scX
    rw [s4, gat_setp _ _ _ _ (by omega), if_neg (by omega), g3 q hq (.inr rfl)]
theorem woken_ink (x : Slv) (l : List (Int × List B8)) {i : Nat} (h : i < x.secs.length) : (gat (x.woken l).secs i).2 = none := by
  rw [x.woken_at l h]
  unfold wokeSec
  split <;> rfl
theorem woken_inked (x : Slv) (l : List (Int × List B8)) (N : Nat) (h : x.secs.length = N) : (inkedK (x.woken l) N).length = 0 := by
  have : ∀ k, k ≤ N → inkedK (x.woken l) k = [] := fun k => by
    induction k with
    | zero => intro _; rfl
    | succ k ih => intro hk; rw [inkedK_succ, woken_ink x l (by omega), ih (by omega)]; rfl
  rw [this N (Nat.le_refl _)]
  rfl
set_option maxRecDepth 100000 in
set_option maxHeartbeats 2000000 in
theorem sscars_any (at0 ot0 : Int) (x y : B8) (sc : Bool) (A : Option Addr) (n c : Nat) (bs : List B8) (w : World) (hS : Sl by8 w A bs) (hn : bs.length = n) (hc : n ≤ c) (hm : c ≤ maxLen) :
    Calls Try.prog 7 #[.int .i64 at0, .int .i64 ot0, .int .u8 (n8 x), .int .u8 (n8 y), .bool sc, .slice A n c] w fun e w' => e = .returned (.bool true) ∧ Ext w w' := by
  have HS := hide hS
  have Hn := hide hn
  have Hm := hide (And.intro hc hm)
  have hn9 : n ≤ 9223372036854775807 := by unfold maxLen at hm; omega
  clear hS hn hc hm
  obtain ⟨p, hp, hp16⟩ := u64_mod16 at0
  obtain ⟨q, hq, hq16⟩ := u64_mod16 ot0
  obtain ⟨F1, F2, F3, hl4, hgp, hgq⟩ := sc_plain hp16 hq16 x y
  have HF := hide (And.intro F1 (And.intro F2 F3))
  have Hl4 := hide hl4
  have Hgp := hide hgp
  have Hgq := hide hgq
  clear F1 F2 F3 hl4 hgp hgq
  go_enter Try.func7, Try.ntmps7
  go_wp2_with fail
  refine (sonew 16 (by decide) (by decide) w).mono ?_
  rintro e w1 ⟨g, gl, rfl, hg, hgl, h1⟩
  replace h1 : SlO w w1 g gl (Slv.new 16) := h1
  go_wp2_with fail
  refine (slives_any w1).mono ?_
  rintro e w2 ⟨rfl, hE2⟩
  replace h1 := h1.keep hE2
  clear hE2
  by_cases hbig : 1000 < n
  · have hbigI : (1000 : Int) < (n : Int) := by omega
    go_wp2_with fail
    refine (slives_any w2).mono ?_
    rintro e w3 ⟨rfl, hE3⟩
    have hEf := h1.ext.trans hE3
    clear h1 hE3
    go_wp2_with fail
    go_ret
    exact ⟨rfl, hEf⟩
  have hbigI : ¬ (1000 : Int) < (n : Int) := by omega
  go_wp2_with fail
  refine (splain_any x _ rfl w2).mono ?_
  rintro e w3 ⟨A3, c3, rfl, hO3, hE3⟩
  replace h1 := h1.keep hE3
  go_wp2_with fail
  refine (soink w g gl (Slv.new 16) p A3 64 c3 (pl64 x) w3 h1 (Slv.fit_up (Slv.new_fit 16) (by omega)) hO3.sl (pl64_len _) (by omega)).mono ?_
  rintro e w4 ⟨rfl, h4, -⟩
  clear h1 hO3 hE3
  go_wp2_with fail
  refine (splain_any x _ rfl w4).mono ?_
  rintro e w5 ⟨A5, c5, rfl, hO5, hE5⟩
  replace h4 := h4.keep hE5
  go_wp2_with fail
  refine (soink w g gl _ q A5 64 c5 (pl64 x) w5 h4 (Slv.fit_up HF.out.1 (by omega)) hO5.sl (pl64_len _) (by omega)).mono ?_
  rintro e w6 ⟨rfl, h6, -⟩
  clear h4 hO5 hE5
  go_wp2_with fail
  refine (soburn w g gl _ w6 h6 (Slv.fit_up HF.out.2.1 (by omega))).mono ?_
  rintro e w7 ⟨rfl, h7, -⟩
  clear h6
  go_wp2_with fail
  refine (splain_any y _ rfl w7).mono ?_
  rintro e w8 ⟨A8, c8, rfl, hO8, hE8⟩
  replace h7 := h7.keep hE8
  go_wp2_with fail
  refine (soink w g gl _ p A8 64 c8 (pl64 y) w8 h7 (Slv.fit_up HF.out.2.2 (by omega)) hO8.sl (pl64_len _) (by omega)).mono ?_
  rintro e w9 ⟨rfl, h9, -⟩
  replace h9 : SlO w w9 g gl (scX p q x y) := h9
  have H9 := hide h9
  clear h7 hO8 hE8
  go_wp2_with fail
  refine (splain_any x _ rfl w9).mono ?_
  rintro e wa ⟨Aa, ca, rfl, hOa, hEa⟩
  replace h9 := h9.keep hEa
  have hgl9 : g < w9.heap.size ∧ gl < w9.heap.size := by
    obtain ⟨⟨D, f, hD⟩, -⟩ := H9.out
    exact ⟨hD.cells.lt, hD.rows.lt⟩
  have hfc : ∀ l : List (Int × List B8), faceOf (gat ((scX p q x y).woken l).secs p) = (match lastScar l p with | some b => onto zero64B b | none => pl64 x) ∧ (q ≠ p → faceOf (gat ((scX p q x y).woken l).secs q) = pl64 x) := fun l => by
    rw [Slv.woken_at _ _ (by rw [Hl4.out]; exact hp16), Slv.woken_at _ _ (by rw [Hl4.out]; exact hq16), Hgp.out]
    refine ⟨?_, fun hne => by rw [Hgq.out hne]; rfl⟩
    cases lastScar l p <;> rfl
  cases sc with
  | false =>
    go_wp2_with fail
    refine (sowake0 w g gl _ wa h9).mono ?_
    rintro e wb ⟨rfl, hb, hUb⟩
    have hSa : Sl by8 wb Aa (pl64 x) := hOa.sl.upd hUb (fun k o e hk => by
      have := (hOa.in_ (k := k) (by rw [e]; simp [inA])).1
      rcases hk with rfl | rfl
      · omega
      · omega)
    clear hOa h9 hUb
    -- wb world, hb the slab, (scX p q x y).woken [] its state, Aa ca the wanted slice, pl64 x its bytes, hSa Sl of it, hfc [] faces: at p, at q
    have HW := hide hSa
    have hfp : Hid (faceOf (gat ((scX p q x y).woken []).secs p) = pl64 x) := hide (hfc []).1
    have hfq := hide (hfc []).2
    have hlk : ∀ j : Nat, j < 16 → ((scX p q x y).woken []).look (j : Int) = 0 := fun j hj => Slv.look_endless rfl (by omega) (by rw [Slv.woken_len, Hl4.out]; omega)
    have Hlk := hide hlk
    clear hlk
    go_wp2_with fail
    refine (soface w g gl ((scX p q x y).woken []) p wb hb).mono ?_
    rintro e wm ⟨hEm, -, hm⟩
    obtain ⟨Am, cm, rfl, hOm⟩ := hm (Hlk.out p hp16)
    rw [show (p : Int).toNat = p from rfl, hfp.out] at hOm
    have h6 := (hb).keep hEm
    clear hm
    go_wp2_with fail
    refine (soface w g gl ((scX p q x y).woken []) q wm h6).mono ?_
    rintro e wn ⟨hEn, -, hn⟩
    obtain ⟨An, cn, rfl, hOn⟩ := hn (Hlk.out q hq16)
    have h7 := h6.keep hEn
    have hSm := hOm.sl.ext hEn
    have hSw := HW.out.ext (hEm.trans hEn)
    have hSn := hOn.sl
    have hl6 : (pl64 x).length = 64 := by first | exact pl64_len _ | (rw [onto_length]; exact pl64_len _)
    rw [show (q : Int).toNat = q from rfl] at hSn
    clear hn hEm hEn hOm hOn h6
    have ht1 := str_cls (c := cm) (hSm.ext (Upd.refl _ wn).drew) hl6
    have ht2 := str_cls (c := ca) (hSw.ext (Upd.refl _ wn).drew) hl6
    have hik : (inkedK ((scX p q x y).woken []) ((scX p q x y).woken []).secs.length).length = 0 := by rw [Slv.woken_len, Hl4.out]; exact woken_inked (scX p q x y) _ 16 Hl4.out
    have h7d := h7.keep (Upd.refl _ wn).drew
    by_cases hpq : q = p
    · subst hpq
      have ht3 : True := trivial
      clear hSn
      go_wp2_with fail
      refine wp_region_plan (Ext _) 32 [(false,0), (false,1), (false,2), (false,3), (false,4), (false,5), (false,6), (false,7), (false,8), (false,9), (false,10), (false,11), (false,12), (false,13), (false,14), (false,15), (false,16), (false,17), (false,18), (false,19), (false,20), (true,21), (false,22), (false,23), (false,24), (false,25), (false,26), (false,27), (true,28), (false,29), (false,30), (false,31)] (by kernel_rfl) (by kernel_rfl) (Upd.refl _ _) (fun hne => ?_)
      repeat (refine head_q rfl (fun K hK => ?_); have hK2 := hide hK; clear hK; go_simp; refine hK2.out _ ?_; clear hK2 K)
      refine head_l rfl ?_
      go_wp2_with fail
      refine ⟨Cls (Ext _), fun _ h => h, ⟨⟨_, (Upd.refl _ _)⟩, rfl⟩, ?_⟩
      repeat (refine head_q rfl (fun K hK => ?_); have hK2 := hide hK; clear hK; go_simp; refine hK2.out _ ?_; clear hK2 K)
      refine head_l rfl ?_
      go_wp2_with (go_at_call 37; go_must (refine (soinked w g gl _ _ h7d hik).mono ?_); rintro e wz ⟨Az, cz, rfl, hEz⟩)
      refine ⟨Cls (Ext _), cls_narrow hEz, ⟨⟨_, Upd.refl _ _⟩, rfl⟩, ?_⟩
      repeat (refine head_q rfl (fun K hK => ?_); have hK2 := hide hK; clear hK; go_simp; refine hK2.out _ ?_; clear hK2 K)
      refine head_nil ?_
      try simp only [List.drop_succ_cons, List.drop_zero]
      have hEf := h7d.ext.trans hEz
      clear ht1 ht2 hik h7d
      go_wp2_with fail
      go_ret
      exact ⟨rfl, hEf⟩
    · rw [hfq.out hpq] at hSn
      have hpqI : ((q : Int) == (p : Int)) = false := beq_eq_false_iff_ne.2 (by omega)
      have hpqJ : ¬ (q : Int) = (p : Int) := by omega
      have ht3 := str_cls (c := cn) (hSn.ext (Upd.refl _ wn).drew) (pl64_len x)
      go_wp2_with fail
      refine wp_region_plan (Ext _) 32 [(false,0), (false,1), (false,2), (false,3), (false,4), (false,5), (false,6), (false,7), (false,8), (false,9), (false,10), (false,11), (false,12), (false,13), (false,14), (false,15), (false,16), (false,17), (false,18), (false,19), (false,20), (true,21), (false,22), (false,23), (false,24), (false,25), (false,26), (false,27), (true,28), (false,29), (false,30), (false,31)] (by kernel_rfl) (by kernel_rfl) (Upd.refl _ _) (fun hne => ?_)
      repeat (refine head_q rfl (fun K hK => ?_); have hK2 := hide hK; clear hK; go_simp; refine hK2.out _ ?_; clear hK2 K)
      refine head_l rfl ?_
      go_wp2_with (go_at_call 29; go_must (refine (splain_any x _ rfl _).mono ?_); rintro e wy ⟨Ay, cy, rfl, hOy, hEy⟩)
      refine ⟨Cls (Ext _), cls_narrow hEy, ⟨⟨_, Upd.refl _ _⟩, rfl⟩, ?_⟩
      have ht4 := str_cls (c := cy) hOy.sl (pl64_len x)
      repeat (refine head_q rfl (fun K hK => ?_); have hK2 := hide hK; clear hK; go_simp; refine hK2.out _ ?_; clear hK2 K)
      refine head_l rfl ?_
      go_wp2_with (go_at_call 37; go_must (refine (soinked w g gl _ _ (h7d.keep hEy) hik).mono ?_); rintro e wz ⟨Az, cz, rfl, hEz⟩)
      refine ⟨Cls (Ext _), cls_narrow hEz, ⟨⟨_, Upd.refl _ _⟩, rfl⟩, ?_⟩
      repeat (refine head_q rfl (fun K hK => ?_); have hK2 := hide hK; clear hK; go_simp; refine hK2.out _ ?_; clear hK2 K)
      refine head_nil ?_
      try simp only [List.drop_succ_cons, List.drop_zero]
      have hEf := (h7d.ext.trans hEy).trans hEz
      clear ht1 ht2 ht3 ht4 hik h7d
      go_wp2_with fail
      go_ret
      exact ⟨rfl, hEf⟩
  | true =>
    go_wp2_with fail
    refine (splain_any 77 _ rfl wa).mono ?_
    rintro e wb ⟨Ab, cb, rfl, hOb, hEb⟩
    replace h9 := h9.keep hEb
    go_wp2_with fail
    have hbb : Blk (wb.alloc (.cells #[.int .i64 p, .slice A n c, .int .i64 q, .slice Ab 64 cb, .int .i64 p, .slice A n c] 62)) wb.heap.size 62 #[.int .i64 p, .slice A n c, .int .i64 q, .slice Ab 64 cb, .int .i64 p, .slice A n c] := Blk.new _ _ _
    have hEl : Ext wb (wb.alloc (.cells #[.int .i64 p, .slice A n c, .int .i64 q, .slice Ab 64 cb, .int .i64 p, .slice A n c] 62)) := (Upd.refl _ _).alloc _
    have hwf : ∀ j : Nat, j < 16 → (Lit.int .i64 (j : Int)).wf = true := fun j hj => by simp [Lit.wf, IntKind.min, IntKind.max, IntKind.signed, IntKind.bits]; omega
    have hcb := hOb.cap
    rw [List.length_map, pl64_len] at hcb
    have ok0 : ScaOk (wb.alloc (.cells #[.int .i64 p, .slice A n c, .int .i64 q, .slice Ab 64 cb, .int .i64 p, .slice A n c] 62)) ⟨p, A, n, c, bs⟩ := ⟨HS.out.ext (h9.ext.trans hEl), Hn.out, Hm.out.1, Hm.out.2, hwf p hp16⟩
    have ok1 : ScaOk (wb.alloc (.cells #[.int .i64 p, .slice A n c, .int .i64 q, .slice Ab 64 cb, .int .i64 p, .slice A n c] 62)) ⟨q, Ab, 64, cb, pl64 77⟩ := ⟨hOb.sl.ext hEl, pl64_len _, hcb.1, hcb.2, hwf q hq16⟩
    have hL : ScaL (wb.alloc (.cells #[.int .i64 p, .slice A n c, .int .i64 q, .slice Ab 64 cb, .int .i64 p, .slice A n c] 62)) (some ⟨wb.heap.size, 0, none⟩) [⟨p, A, n, c, bs⟩, ⟨q, Ab, 64, cb, pl64 77⟩, ⟨p, A, n, c, bs⟩] := fun i hi => by
      match i, hi with
      | 0, _ => exact ⟨_, _, rfl, hbb.at 0 rfl, hbb.at 1 rfl, ok0⟩
      | 1, _ => exact ⟨_, _, rfl, hbb.at 2 rfl, hbb.at 3 rfl, ok1⟩
      | 2, _ => exact ⟨_, _, rfl, hbb.at 4 rfl, hbb.at 5 rfl, ok0⟩
    have hA9 : 0 < n → ∀ k, inA A k → k ≠ g ∧ k ≠ gl := fun h0 k hk => by
      obtain ⟨b0, o0, e0, h1, -⟩ := HS.out.open_ (by rw [Hn.out]; exact h0)
      have : k = b0 := by rw [e0] at hk; simpa [inA] using hk.symm
      omega
    have hwb : w9.heap.size ≤ wa.heap.size := hEa.size
    have hB9 : ∀ k, inA Ab k → k ≠ g ∧ k ≠ gl := fun k hk => by
      have := (hOb.in_ hk).1
      omega
    have hsep : ∀ i, i < ([⟨p, A, n, c, bs⟩, ⟨q, Ab, 64, cb, pl64 77⟩, ⟨p, A, n, c, bs⟩] : List Sca).length → 0 < (gat ([⟨p, A, n, c, bs⟩, ⟨q, Ab, 64, cb, pl64 77⟩, ⟨p, A, n, c, bs⟩] : List Sca) i).l → ∀ k, inA (gat ([⟨p, A, n, c, bs⟩, ⟨q, Ab, 64, cb, pl64 77⟩, ⟨p, A, n, c, bs⟩] : List Sca) i).A k → k ≠ g ∧ k ≠ gl := fun i hi h0 k hk => by
      match i, hi with
      | 0, _ => exact hA9 h0 k hk
      | 1, _ => exact hB9 k hk
      | 2, _ => exact hA9 h0 k hk
    refine (sowake w g gl _ _ 3 3 _ _ (h9.keep hEl) hL rfl (by decide) hsep).mono ?_
    rintro e wc ⟨rfl, hc, hUc⟩
    clear hbb hEl hwf hcb ok0 ok1 hL hA9 hB9 hsep hOb hEb hUc h9 hOa
    go_wp2_with fail
    refine (splain_any 0 _ rfl wc).mono ?_
    rintro e wd ⟨Ad, cd, rfl, hOd, hEd⟩
    obtain ⟨gd, rfl, hgd, hgdl⟩ := hOd.open_ (by rw [List.length_map, pl64_len]; decide)
    have HEd := hide hEd
    have HOd := hide hOd
    have hcx := hc.ext.trans hEd
    clear hEd
    clear hOd
    go_wp2_with (refine wpList_copy_onto by8 one8 (pl64 0) bs rfl rfl Try.under_bs Try.sz8 rfl rfl (HS.out.ext hcx) Hn.out (show (pl64 0).length = 64 by kernel_rfl) HOd.out ?_; intro we hOe hUe)
    have hee : SlO w we g gl ((scX p q x y).woken [((p : Int), bs), ((q : Int), pl64 77), ((p : Int), bs)]) := hc.keep (upd_new hUe HEd.out (fun k hk => by have : k = gd := hk; omega))
    have hfd : faceOf (gat ((scX p q x y).woken [((p : Int), bs), ((q : Int), pl64 77), ((p : Int), bs)]).secs p) = onto (pl64 0) bs ∧ (q ≠ p → faceOf (gat ((scX p q x y).woken [((p : Int), bs), ((q : Int), pl64 77), ((p : Int), bs)]).secs q) = pl64 x) := by
      have h := hfc [((p : Int), bs), ((q : Int), pl64 77), ((p : Int), bs)]
      have hl : lastScar [((p : Int), bs), ((q : Int), pl64 77), ((p : Int), bs)] p = some bs := by simp [lastScar]
      rw [hl] at h
      exact h
    have hSe := hOe.sl
    clear hOe hUe hc
    -- we world, hee the slab, (scX p q x y).woken [((p : Int), bs), ((q : Int), pl64 77), ((p : Int), bs)] its state, (some ⟨gd, 0, none⟩) cd the wanted slice, onto (pl64 0) bs its bytes, hSe Sl of it, hfd faces: at p, at q
    have HW := hide hSe
    have hfp : Hid (faceOf (gat ((scX p q x y).woken [((p : Int), bs), ((q : Int), pl64 77), ((p : Int), bs)]).secs p) = onto (pl64 0) bs) := hide (hfd).1
    have hfq := hide (hfd).2
    have hlk : ∀ j : Nat, j < 16 → ((scX p q x y).woken [((p : Int), bs), ((q : Int), pl64 77), ((p : Int), bs)]).look (j : Int) = 0 := fun j hj => Slv.look_endless rfl (by omega) (by rw [Slv.woken_len, Hl4.out]; omega)
    have Hlk := hide hlk
    clear hlk
    go_wp2_with fail
    refine (soface w g gl ((scX p q x y).woken [((p : Int), bs), ((q : Int), pl64 77), ((p : Int), bs)]) p we hee).mono ?_
    rintro e wm ⟨hEm, -, hm⟩
    obtain ⟨Am, cm, rfl, hOm⟩ := hm (Hlk.out p hp16)
    rw [show (p : Int).toNat = p from rfl, hfp.out] at hOm
    have h6 := (hee).keep hEm
    clear hm
    go_wp2_with fail
    refine (soface w g gl ((scX p q x y).woken [((p : Int), bs), ((q : Int), pl64 77), ((p : Int), bs)]) q wm h6).mono ?_
    rintro e wn ⟨hEn, -, hn⟩
    obtain ⟨An, cn, rfl, hOn⟩ := hn (Hlk.out q hq16)
    have h7 := h6.keep hEn
    have hSm := hOm.sl.ext hEn
    have hSw := HW.out.ext (hEm.trans hEn)
    have hSn := hOn.sl
    have hl6 : (onto (pl64 0) bs).length = 64 := by first | exact pl64_len _ | (rw [onto_length]; exact pl64_len _)
    rw [show (q : Int).toNat = q from rfl] at hSn
    clear hn hEm hEn hOm hOn h6
    have ht1 := str_cls (c := cm) (hSm.ext (Upd.refl _ wn).drew) hl6
    have ht2 := str_cls (c := cd) (hSw.ext (Upd.refl _ wn).drew) hl6
    have hik : (inkedK ((scX p q x y).woken [((p : Int), bs), ((q : Int), pl64 77), ((p : Int), bs)]) ((scX p q x y).woken [((p : Int), bs), ((q : Int), pl64 77), ((p : Int), bs)]).secs.length).length = 0 := by rw [Slv.woken_len, Hl4.out]; exact woken_inked (scX p q x y) _ 16 Hl4.out
    have h7d := h7.keep (Upd.refl _ wn).drew
    by_cases hpq : q = p
    · subst hpq
      have ht3 : True := trivial
      clear hSn
      go_wp2_with fail
      refine wp_region_plan (Ext _) 32 [(false,0), (false,1), (false,2), (false,3), (false,4), (false,5), (false,6), (false,7), (false,8), (false,9), (false,10), (false,11), (false,12), (false,13), (false,14), (false,15), (false,16), (false,17), (false,18), (false,19), (false,20), (true,21), (false,22), (false,23), (false,24), (false,25), (false,26), (false,27), (true,28), (false,29), (false,30), (false,31)] (by kernel_rfl) (by kernel_rfl) (Upd.refl _ _) (fun hne => ?_)
      repeat (refine head_q rfl (fun K hK => ?_); have hK2 := hide hK; clear hK; go_simp; refine hK2.out _ ?_; clear hK2 K)
      refine head_l rfl ?_
      go_wp2_with fail
      refine ⟨Cls (Ext _), fun _ h => h, ⟨⟨_, (Upd.refl _ _)⟩, rfl⟩, ?_⟩
      repeat (refine head_q rfl (fun K hK => ?_); have hK2 := hide hK; clear hK; go_simp; refine hK2.out _ ?_; clear hK2 K)
      refine head_l rfl ?_
      go_wp2_with (go_at_call 37; go_must (refine (soinked w g gl _ _ h7d hik).mono ?_); rintro e wz ⟨Az, cz, rfl, hEz⟩)
      refine ⟨Cls (Ext _), cls_narrow hEz, ⟨⟨_, Upd.refl _ _⟩, rfl⟩, ?_⟩
      repeat (refine head_q rfl (fun K hK => ?_); have hK2 := hide hK; clear hK; go_simp; refine hK2.out _ ?_; clear hK2 K)
      refine head_nil ?_
      try simp only [List.drop_succ_cons, List.drop_zero]
      have hEf := h7d.ext.trans hEz
      clear ht1 ht2 hik h7d
      go_wp2_with fail
      go_ret
      exact ⟨rfl, hEf⟩
    · rw [hfq.out hpq] at hSn
      have hpqI : ((q : Int) == (p : Int)) = false := beq_eq_false_iff_ne.2 (by omega)
      have hpqJ : ¬ (q : Int) = (p : Int) := by omega
      have ht3 := str_cls (c := cn) (hSn.ext (Upd.refl _ wn).drew) (pl64_len x)
      go_wp2_with fail
      refine wp_region_plan (Ext _) 32 [(false,0), (false,1), (false,2), (false,3), (false,4), (false,5), (false,6), (false,7), (false,8), (false,9), (false,10), (false,11), (false,12), (false,13), (false,14), (false,15), (false,16), (false,17), (false,18), (false,19), (false,20), (true,21), (false,22), (false,23), (false,24), (false,25), (false,26), (false,27), (true,28), (false,29), (false,30), (false,31)] (by kernel_rfl) (by kernel_rfl) (Upd.refl _ _) (fun hne => ?_)
      repeat (refine head_q rfl (fun K hK => ?_); have hK2 := hide hK; clear hK; go_simp; refine hK2.out _ ?_; clear hK2 K)
      refine head_l rfl ?_
      go_wp2_with (go_at_call 29; go_must (refine (splain_any x _ rfl _).mono ?_); rintro e wy ⟨Ay, cy, rfl, hOy, hEy⟩)
      refine ⟨Cls (Ext _), cls_narrow hEy, ⟨⟨_, Upd.refl _ _⟩, rfl⟩, ?_⟩
      have ht4 := str_cls (c := cy) hOy.sl (pl64_len x)
      repeat (refine head_q rfl (fun K hK => ?_); have hK2 := hide hK; clear hK; go_simp; refine hK2.out _ ?_; clear hK2 K)
      refine head_l rfl ?_
      go_wp2_with (go_at_call 37; go_must (refine (soinked w g gl _ _ (h7d.keep hEy) hik).mono ?_); rintro e wz ⟨Az, cz, rfl, hEz⟩)
      refine ⟨Cls (Ext _), cls_narrow hEz, ⟨⟨_, Upd.refl _ _⟩, rfl⟩, ?_⟩
      repeat (refine head_q rfl (fun K hK => ?_); have hK2 := hide hK; clear hK; go_simp; refine hK2.out _ ?_; clear hK2 K)
      refine head_nil ?_
      try simp only [List.drop_succ_cons, List.drop_zero]
      have hEf := (h7d.ext.trans hEy).trans hEz
      clear ht1 ht2 ht3 ht4 hik h7d
      go_wp2_with fail
      go_ret
      exact ⟨rfl, hEf⟩
end Go.Proofs.Ytjdodhooojjldaa
