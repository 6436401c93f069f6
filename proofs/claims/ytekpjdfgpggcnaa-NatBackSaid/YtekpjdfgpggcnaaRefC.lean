/- The document's differences and order of rows of truths, walked: Sub, Cmp. -/
import Derived.Test.YtekpjdfgpggcnaaRefB
namespace Go.Proofs.Ytekpjdfgpggcnaa
set_option linter.unusedSimpArgs false
set_option linter.unusedVariables false
open Go.RowKit
open Nt
attribute [local go_sem] steady steadyUpon Cls same_cell

theorem rsub_next {xs ys zs : List Bool} {k c c' : Nat} {b : Bool} (hz : zs.length = k) (h : vf 2 (dig d1 zs) k + vf 2 (dig d1 ys) k = vf 2 (dig d1 xs) k + c * 2 ^ k) (hs : d1 b + dig d1 ys k + c = dig d1 xs k + c' * 2) :
    vf 2 (dig d1 (zs ++ [b])) (k + 1) + vf 2 (dig d1 ys) (k + 1) = vf 2 (dig d1 xs) (k + 1) + c' * 2 ^ (k + 1) := by
  refine sub_step (w := c) ?_ ?_
  · rw [vf_append_left (by omega)]; exact h
  · rw [dig_append_right (by omega), hz, Nat.sub_self]
    exact hs
theorem rsub_end {xs ys zs : List Bool} {k c : Nat} (hz : zs.length = k) (h : vf 2 (dig d1 zs) k + vf 2 (dig d1 ys) k = vf 2 (dig d1 xs) k + c * 2 ^ k) (hx : xs.length = k) (hab : numOf 2 d1 ys ≤ numOf 2 d1 xs) (hyl : ys.length ≤ k) : numOf 2 d1 zs = numOf 2 d1 xs - numOf 2 d1 ys := by
  have hy : vf 2 (dig d1 ys) k = numOf 2 d1 ys := vf_out rfl hyl
  have hx' : vf 2 (dig d1 xs) k = numOf 2 d1 xs := by unfold numOf; rw [hx]
  have hc := sub_end h (fun i _ => d1_lt _) (by rw [hy, hx']; exact hab)
  rw [hc, Nat.zero_mul, Nat.add_zero, hy, hx'] at h
  have : numOf 2 d1 zs = vf 2 (dig d1 zs) k := by unfold numOf; rw [hz]
  omega
theorem len_le_of {xs ys : List Bool} (hT : Trd (dig d1 ys) ys.length) (h : numOf 2 d1 ys ≤ numOf 2 d1 xs) : ys.length ≤ xs.length := by
  rcases Nat.lt_or_ge xs.length ys.length with h1 | h1
  · have := Trd.len_lt (β := 2) (f := dig d1 xs) (g := dig d1 ys) (by decide) (fun i _ => d1_lt _) hT h1
    unfold numOf at h
    omega
  · exact h1

set_option maxRecDepth 100000 in
set_option maxHeartbeats 1000000 in
theorem rsub_new (va vb : Value) (a b k : Nat) (w : World) (hVa : RefV w va a) (hVb : RefV w vb b) (hFa : blen a ≤ k) (hk : k ≤ 10000000) (hab : b ≤ a) :
    Calls Try.prog 38 #[va, vb] w (RetN1 w (a - b)) := by
  obtain ⟨A, la, ca, xs, rfl, hlx, hca, hma, hSa, hTa, hna⟩ := hVa.open_
  obtain ⟨B, lb, cb, ys, rfl, hly, hcb, hmb, hSb, hTb, hnb⟩ := hVb.open_
  have hla : la ≤ k := by have := bits_len (hlx ▸ hTa); rw [hna, hlx] at this; omega
  have hlb : lb ≤ la := by
    have := len_le_of (xs := xs) (ys := ys) (by rw [hly]; exact hTb) (by rw [hna, hnb]; exact hab)
    omega
  have HSa := hide hSa
  have HSb := hide hSb
  have Hna := hide hna
  have Hnb := hide hnb
  have Hlx := hide hlx
  have Hly := hide hly
  have Hab := hide hab
  clear hVa hVb hTa hTb hSa hSb hna hnb hFa hlx hly hab
  go_enter Try.func38, Try.ntmps38
  go_wp2
  go_loopw [5, 6, 7] (fun o cr i wr => ∃ (j cy : Nat) (zs : List Bool) (Z : Option Addr) (cz : Nat), j ≤ la ∧ i = .int .i64 j ∧ cr = .int .i64 (cy : Nat) ∧ cy ≤ 1 ∧ o = .slice Z j cz ∧ zs.length = j ∧ Own wr w.heap.size 4 Z cz (zs.map Value.bool) ∧ vf 2 (dig d1 zs) j + vf 2 (dig d1 ys) j = vf 2 (dig d1 xs) j + cy * 2 ^ j ∧ Ext w wr) (fun _ _ i _ => la - (intOf i).toNat)
  case atStart => exact ⟨0, 0, [], _, _, Nat.zero_le _, rfl, rfl, Nat.zero_le _, rfl, rfl, ⟨rfl, .inr ⟨w.heap.size, 0, #[], rfl, Nat.le_refl _, heap_alloc_new w _, Nat.le_refl _, Nat.zero_le _, rfl, rfl⟩⟩, rfl, (Upd.refl _ _).alloc _⟩
  case round =>
    obtain ⟨j, cy, zs, Z, cz, hj, rfl, rfl, hcy, rfl, hzl, hO, hv, hE⟩ := hrel
    have Hzl := hide hzl
    have Hv := hide hv
    clear hzl hv
    by_cases h1 : j < la
    · obtain ⟨x, hx⟩ : ∃ x, dig d1 xs j = x := ⟨_, rfl⟩
      obtain ⟨y, hy⟩ : ∃ y, dig d1 ys j = y := ⟨_, rfl⟩
      have hx1 : x ≤ 1 := by rw [← hx]; exact d1_le _
      have hy1 : y ≤ 1 := by rw [← hy]; exact d1_le _
      have Hx := hide hx
      have Hy := hide hy
      clear hx hy
      have hcases : (x : Int) - (y : Int) - (cy : Int) = -2 ∨ (x : Int) - (y : Int) - (cy : Int) = -1 ∨ (x : Int) - (y : Int) - (cy : Int) = 0 ∨ (x : Int) - (y : Int) - (cy : Int) = 1 := by omega
      rcases hcases with hd | hd | hd | hd
      · skip
        -- (-2) the difference, false the bit, 1 the new borrow
        have hs := hide (rsub_next (b := false) (c' := 1) Hzl.out Hv.out (by rw [Hx.out, Hy.out]; simp only [d1_true, d1_false]; omega))
        go_wp2_with fail
        refine (at_any A la ca xs j _ Hlx.out (by omega) (by omega) (HSa.out.ext hE)).mono ?_
        rintro e w' ⟨rfl, rfl⟩
        rw [Hx.out]
        go_wp2_with fail
        refine (at_any B lb cb ys j _ Hly.out (by omega) (by omega) (HSb.out.ext hE)).mono ?_
        rintro e w' ⟨rfl, rfl⟩
        rw [Hy.out]
        go_wp2_with (at_builtin; go_must (refine wpList_apd Value.bool one1 Try.n_el1 zs [false] (zs ++ [false]) (j + 1) rfl (by rw [List.length_append, Hzl.out]; rfl) (by omega) (by unfold maxLen; omega) rfl rfl rfl Hzl.out (hO.ext ((Upd.refl _ _).alloc _)) rfl rfl (Sl.new Value.bool _ _ [false]) (by have := hE.size; simp; omega) ?_); intro Z2 c2 w3 hO3 hU3 hin3)
        go_roundw
        case rel => exact ⟨j + 1, 1, zs ++ [false], _, _, by omega, by go_num, rfl, by omega, rfl, by rw [List.length_append, Hzl.out]; rfl, hO3, hs.out, Upd.fresh hU3 (hE.alloc _) (fun i hi => (hO.in_ hi).1)⟩
        case measure => simp [intOf]; omega
      · skip
        -- (-1) the difference, true the bit, 1 the new borrow
        have hs := hide (rsub_next (b := true) (c' := 1) Hzl.out Hv.out (by rw [Hx.out, Hy.out]; simp only [d1_true, d1_false]; omega))
        go_wp2_with fail
        refine (at_any A la ca xs j _ Hlx.out (by omega) (by omega) (HSa.out.ext hE)).mono ?_
        rintro e w' ⟨rfl, rfl⟩
        rw [Hx.out]
        go_wp2_with fail
        refine (at_any B lb cb ys j _ Hly.out (by omega) (by omega) (HSb.out.ext hE)).mono ?_
        rintro e w' ⟨rfl, rfl⟩
        rw [Hy.out]
        go_wp2_with (at_builtin; go_must (refine wpList_apd Value.bool one1 Try.n_el1 zs [true] (zs ++ [true]) (j + 1) rfl (by rw [List.length_append, Hzl.out]; rfl) (by omega) (by unfold maxLen; omega) rfl rfl rfl Hzl.out (hO.ext ((Upd.refl _ _).alloc _)) rfl rfl (Sl.new Value.bool _ _ [true]) (by have := hE.size; simp; omega) ?_); intro Z2 c2 w3 hO3 hU3 hin3)
        go_roundw
        case rel => exact ⟨j + 1, 1, zs ++ [true], _, _, by omega, by go_num, rfl, by omega, rfl, by rw [List.length_append, Hzl.out]; rfl, hO3, hs.out, Upd.fresh hU3 (hE.alloc _) (fun i hi => (hO.in_ hi).1)⟩
        case measure => simp [intOf]; omega
      · skip
        -- 0 the difference, false the bit, 0 the new borrow
        have hs := hide (rsub_next (b := false) (c' := 0) Hzl.out Hv.out (by rw [Hx.out, Hy.out]; simp only [d1_true, d1_false]; omega))
        go_wp2_with fail
        refine (at_any A la ca xs j _ Hlx.out (by omega) (by omega) (HSa.out.ext hE)).mono ?_
        rintro e w' ⟨rfl, rfl⟩
        rw [Hx.out]
        go_wp2_with fail
        refine (at_any B lb cb ys j _ Hly.out (by omega) (by omega) (HSb.out.ext hE)).mono ?_
        rintro e w' ⟨rfl, rfl⟩
        rw [Hy.out]
        go_wp2_with (at_builtin; go_must (refine wpList_apd Value.bool one1 Try.n_el1 zs [false] (zs ++ [false]) (j + 1) rfl (by rw [List.length_append, Hzl.out]; rfl) (by omega) (by unfold maxLen; omega) rfl rfl rfl Hzl.out (hO.ext ((Upd.refl _ _).alloc _)) rfl rfl (Sl.new Value.bool _ _ [false]) (by have := hE.size; simp; omega) ?_); intro Z2 c2 w3 hO3 hU3 hin3)
        go_roundw
        case rel => exact ⟨j + 1, 0, zs ++ [false], _, _, by omega, by go_num, rfl, by omega, rfl, by rw [List.length_append, Hzl.out]; rfl, hO3, hs.out, Upd.fresh hU3 (hE.alloc _) (fun i hi => (hO.in_ hi).1)⟩
        case measure => simp [intOf]; omega
      · skip
        -- 1 the difference, true the bit, 0 the new borrow
        have hs := hide (rsub_next (b := true) (c' := 0) Hzl.out Hv.out (by rw [Hx.out, Hy.out]; simp only [d1_true, d1_false]; omega))
        go_wp2_with fail
        refine (at_any A la ca xs j _ Hlx.out (by omega) (by omega) (HSa.out.ext hE)).mono ?_
        rintro e w' ⟨rfl, rfl⟩
        rw [Hx.out]
        go_wp2_with fail
        refine (at_any B lb cb ys j _ Hly.out (by omega) (by omega) (HSb.out.ext hE)).mono ?_
        rintro e w' ⟨rfl, rfl⟩
        rw [Hy.out]
        go_wp2_with (at_builtin; go_must (refine wpList_apd Value.bool one1 Try.n_el1 zs [true] (zs ++ [true]) (j + 1) rfl (by rw [List.length_append, Hzl.out]; rfl) (by omega) (by unfold maxLen; omega) rfl rfl rfl Hzl.out (hO.ext ((Upd.refl _ _).alloc _)) rfl rfl (Sl.new Value.bool _ _ [true]) (by have := hE.size; simp; omega) ?_); intro Z2 c2 w3 hO3 hU3 hin3)
        go_roundw
        case rel => exact ⟨j + 1, 0, zs ++ [true], _, _, by omega, by go_num, rfl, by omega, rfl, by rw [List.length_append, Hzl.out]; rfl, hO3, hs.out, Upd.fresh hU3 (hE.alloc _) (fun i hi => (hO.in_ hi).1)⟩
        case measure => simp [intOf]; omega
    · obtain rfl : j = la := by omega
      go_wp2_with fail
      refine (rtrim_at Z j cz zs _ Hzl.out (by have := hO.cap.1; rw [List.length_map, Hzl.out] at this; exact this) hO.cap.2 hO.sl).mono ?_
      rintro e w4 ⟨l4, rfl, hV4, hU4⟩
      go_wp2
      go_ret
      exact ⟨_, _, _, rfl, hV4.of_eq (by rw [rsub_end Hzl.out Hv.out Hlx.out (by rw [Hna.out, Hnb.out]; exact Hab.out) (by rw [Hly.out]; exact hlb), Hna.out, Hnb.out]), hE.trans hU4, fun k hk => (hO.in_ hk).1⟩
theorem rsub_any (va vb : Value) (a b k : Nat) (w : World) (hVa : RefV w va a) (hVb : RefV w vb b) (hFa : blen a ≤ k) (hk : k ≤ 10000000) (hab : b ≤ a) :
    Calls Try.prog 38 #[va, vb] w (RetR w (a - b)) :=
  (rsub_new va vb a b k w hVa hVb hFa hk hab).mono fun _ _ ⟨A, l, c, h1, h2, h3, _⟩ => ⟨A, l, c, h1, h2, h3⟩

theorem rcmp_same {xs ys : List Bool} {l : Nat} (hx : xs.length = l) (hy : ys.length = l) (h : ∀ i, i < l → gat ys i = gat xs i) : cmpI (numOf 2 d1 xs) (numOf 2 d1 ys) = 0 := by
  have : numOf 2 d1 xs = numOf 2 d1 ys := by
    unfold numOf; rw [hx, hy]; exact vf_congr fun i hi => by unfold dig; rw [h i hi]
  unfold cmpI; rw [this, if_neg (Nat.lt_irrefl _), if_pos rfl]
theorem rcmp_less {xs ys : List Bool} {l j : Nat} (hx : xs.length = l) (hy : ys.length = l) (hj : j < l) (h : ∀ i, j + 1 ≤ i → i < l → gat ys i = gat xs i) (h1 : gat xs j = false) (h2 : gat ys j = true) : cmpI (numOf 2 d1 xs) (numOf 2 d1 ys) = -1 := by
  have : numOf 2 d1 xs < numOf 2 d1 ys := by
    unfold numOf; rw [hx, hy]
    exact vf_lt_of_digit hj (fun i _ => d1_lt _) (fun i a b => by unfold dig; rw [h i a b]) (by unfold dig; rw [h1, h2]; decide)
  unfold cmpI; rw [if_pos this]
theorem rcmp_more {xs ys : List Bool} {l j : Nat} (hx : xs.length = l) (hy : ys.length = l) (hj : j < l) (h : ∀ i, j + 1 ≤ i → i < l → gat ys i = gat xs i) (h1 : gat xs j = true) (h2 : gat ys j = false) : cmpI (numOf 2 d1 xs) (numOf 2 d1 ys) = 1 := by
  have : numOf 2 d1 ys < numOf 2 d1 xs := by
    unfold numOf; rw [hx, hy]
    exact vf_lt_of_digit hj (fun i _ => d1_lt _) (fun i a b => by unfold dig; rw [h i a b]) (by unfold dig; rw [h1, h2]; decide)
  unfold cmpI; rw [if_neg (by omega), if_neg (by omega)]

set_option maxRecDepth 100000 in
set_option maxHeartbeats 1000000 in
theorem rcmp_any (va vb : Value) (a b k : Nat) (w : World) (hVa : RefV w va a) (hVb : RefV w vb b) (hFa : blen a ≤ k) (hFb : blen b ≤ k) (hk : k ≤ 10000000) :
    Calls Try.prog 25 #[va, vb] w fun e w' => e = .returned (.int .i64 (cmpI a b)) ∧ Ext w w' := by
  obtain ⟨A, la, ca, xs, rfl, hlx, hca, hma, hSa, hTa, hna⟩ := hVa.open_
  obtain ⟨B, lb, cb, ys, rfl, hly, hcb, hmb, hSb, hTb, hnb⟩ := hVb.open_
  have hla : la ≤ k := by have := bits_len (hlx ▸ hTa); rw [hna, hlx] at this; omega
  have hlb : lb ≤ k := by have := bits_len (hly ▸ hTb); rw [hnb, hly] at this; omega
  rcases Nat.lt_trichotomy la lb with hl | hl | hl
  · have hc : cmpI a b = -1 := by
      have := Trd.len_lt (β := 2) (f := dig d1 xs) (g := dig d1 ys) (by decide) (fun i _ => d1_lt _) hTb (n := la) hl
      rw [← hna, ← hnb]
      unfold cmpI numOf
      rw [hlx, hly, if_pos this]
    rw [hc]
    clear hVa hVb hTa hTb hSa hSb hna hnb hFa hlx hly
    go_enter Try.func25, Try.ntmps25
    go_wp2
    go_ret
    exact ⟨rfl, Upd.refl _ _⟩
  · subst hl
    have HSa := hide hSa
    have HSb := hide hSb
    have Hlx := hide hlx
    have Hly := hide hly
    have Hna := hide hna
    have Hnb := hide hnb
    clear hVa hVb hTa hTb hSa hSb hna hnb hFa hlx hly
    go_enter Try.func25, Try.ntmps25
    go_wp2
    go_loopw [5] (fun c wr => ∃ (j : Nat) (cc : Int), j ≤ la ∧ cc = (j : Int) - 1 ∧ c = .int .i64 cc ∧ (∀ i, j ≤ i → i < la → gat ys i = gat xs i) ∧ Sl Value.bool wr A xs ∧ Sl Value.bool wr B ys ∧ Ext w wr) (fun c _ => (intOf c + 1).toNat)
    case atStart => exact ⟨la, _, Nat.le_refl _, (by omega), rfl, fun i h1 h2 => by omega, HSa.out, HSb.out, Upd.refl _ _⟩
    case round =>
      obtain ⟨j, cc, hj, hcc, rfl, hsame, hSa, hSb, hE⟩ := hrel
      have Hs := hide hsame
      clear HSa HSb
      have HSa := hide hSa
      have HSb := hide hSb
      clear hsame hSa hSb
      rcases j with _ | j
      · obtain rfl : cc = -1 := by omega
        clear hcc
        go_wp2_with fail
        go_ret
        exact ⟨by rw [← Hna.out, ← Hnb.out, rcmp_same Hlx.out Hly.out (fun i hi => Hs.out i (Nat.zero_le _) hi)]; rfl, hE⟩
      · obtain rfl : cc = (j : Int) := by omega
        clear hcc
        have hj0 : (0 : Int) ≤ (j : Int) := by omega
        have hjl : (j : Int) < (la : Int) := by omega
        cases hx0 : gat xs j <;> cases hy0 : gat ys j
        · have hnext : ∀ i, j ≤ i → i < la → gat ys i = gat xs i := fun i h1 h2 => by
            rcases Nat.eq_or_lt_of_le h1 with h | h
            · subst h; rw [hx0, hy0]
            · exact Hs.out i h h2
          have Hn := hide hnext
          clear hnext
          obtain ⟨b1, o1, rfl, hbl1, hcells1⟩ := HSa.out.open_ (by rw [Hlx.out]; omega)
          obtain ⟨b2, o2, rfl, hbl2, hcells2⟩ := HSb.out.open_ (by rw [Hly.out]; omega)
          have hx := hcells1 j (by rw [Hlx.out]; omega)
          have hy := hcells2 j (by rw [Hly.out]; omega)
          rw [hx0] at hx
          rw [hy0] at hy
          have c1 := fun x : Wd (Same wr.drew) => (same_cell x ⟨b1, o1 + j, none⟩).trans hx
          have c2 := fun x : Wd (Same wr.drew) => (same_cell x ⟨b2, o2 + j, none⟩).trans hy
          have Hx := hide hx0
          have Hy := hide hy0
          clear hcells1 hcells2 hx0 hy0
          go_wp2_with fail
          refine wp_region_plan (Same _) 8 [(false,0), (false,1), (false,2), (false,3), (false,4), (false,5), (false,6), (false,7)] (by kernel_rfl) (by kernel_rfl) rfl (fun hne => ?_)
          repeat (refine head_q rfl (fun K hK => ?_); have hK2 := hide hK; clear hK; go_simp; refine hK2.out _ ?_; clear hK2 K)
          refine head_nil ?_
          try simp only [List.drop_succ_cons, List.drop_zero]
          go_wp2_with fail
          go_roundw
          case rel => exact ⟨j, _, by omega, rfl, rfl, Hn.out, HSa.out, HSb.out, hE.drew⟩
          case measure => simp [intOf]
        · have hr := rcmp_less Hlx.out Hly.out (by omega) Hs.out hx0 hy0
          rw [Hna.out, Hnb.out] at hr
          have Hr := hide hr
          clear hr
          obtain ⟨b1, o1, rfl, hbl1, hcells1⟩ := HSa.out.open_ (by rw [Hlx.out]; omega)
          obtain ⟨b2, o2, rfl, hbl2, hcells2⟩ := HSb.out.open_ (by rw [Hly.out]; omega)
          have hx := hcells1 j (by rw [Hlx.out]; omega)
          have hy := hcells2 j (by rw [Hly.out]; omega)
          rw [hx0] at hx
          rw [hy0] at hy
          have c1 := fun x : Wd (Same wr.drew) => (same_cell x ⟨b1, o1 + j, none⟩).trans hx
          have c2 := fun x : Wd (Same wr.drew) => (same_cell x ⟨b2, o2 + j, none⟩).trans hy
          have Hx := hide hx0
          have Hy := hide hy0
          clear hcells1 hcells2 hx0 hy0
          go_wp2_with fail
          refine wp_region_plan (Same _) 8 [(false,0), (false,1), (false,2), (false,3), (false,4), (false,5), (false,6), (false,7)] (by kernel_rfl) (by kernel_rfl) rfl (fun hne => ?_)
          repeat (refine head_q rfl (fun K hK => ?_); have hK2 := hide hK; clear hK; go_simp; refine hK2.out _ ?_; clear hK2 K)
          refine head_nil ?_
          try simp only [List.drop_succ_cons, List.drop_zero]
          go_wp2_with fail
          go_ret
          exact ⟨by rw [Hr.out]; rfl, hE.drew⟩
        · have hr := rcmp_more Hlx.out Hly.out (by omega) Hs.out hx0 hy0
          rw [Hna.out, Hnb.out] at hr
          have Hr := hide hr
          clear hr
          obtain ⟨b1, o1, rfl, hbl1, hcells1⟩ := HSa.out.open_ (by rw [Hlx.out]; omega)
          obtain ⟨b2, o2, rfl, hbl2, hcells2⟩ := HSb.out.open_ (by rw [Hly.out]; omega)
          have hx := hcells1 j (by rw [Hlx.out]; omega)
          have hy := hcells2 j (by rw [Hly.out]; omega)
          rw [hx0] at hx
          rw [hy0] at hy
          have c1 := fun x : Wd (Same wr.drew) => (same_cell x ⟨b1, o1 + j, none⟩).trans hx
          have c2 := fun x : Wd (Same wr.drew) => (same_cell x ⟨b2, o2 + j, none⟩).trans hy
          have Hx := hide hx0
          have Hy := hide hy0
          clear hcells1 hcells2 hx0 hy0
          go_wp2_with fail
          refine wp_region_plan (Same _) 8 [(false,0), (false,1), (false,2), (false,3), (false,4), (false,5), (false,6), (false,7)] (by kernel_rfl) (by kernel_rfl) rfl (fun hne => ?_)
          repeat (refine head_q rfl (fun K hK => ?_); have hK2 := hide hK; clear hK; go_simp; refine hK2.out _ ?_; clear hK2 K)
          refine head_nil ?_
          try simp only [List.drop_succ_cons, List.drop_zero]
          go_wp2_with fail
          go_ret
          exact ⟨by rw [Hr.out]; rfl, hE.drew⟩
        · have hnext : ∀ i, j ≤ i → i < la → gat ys i = gat xs i := fun i h1 h2 => by
            rcases Nat.eq_or_lt_of_le h1 with h | h
            · subst h; rw [hx0, hy0]
            · exact Hs.out i h h2
          have Hn := hide hnext
          clear hnext
          obtain ⟨b1, o1, rfl, hbl1, hcells1⟩ := HSa.out.open_ (by rw [Hlx.out]; omega)
          obtain ⟨b2, o2, rfl, hbl2, hcells2⟩ := HSb.out.open_ (by rw [Hly.out]; omega)
          have hx := hcells1 j (by rw [Hlx.out]; omega)
          have hy := hcells2 j (by rw [Hly.out]; omega)
          rw [hx0] at hx
          rw [hy0] at hy
          have c1 := fun x : Wd (Same wr.drew) => (same_cell x ⟨b1, o1 + j, none⟩).trans hx
          have c2 := fun x : Wd (Same wr.drew) => (same_cell x ⟨b2, o2 + j, none⟩).trans hy
          have Hx := hide hx0
          have Hy := hide hy0
          clear hcells1 hcells2 hx0 hy0
          go_wp2_with fail
          refine wp_region_plan (Same _) 8 [(false,0), (false,1), (false,2), (false,3), (false,4), (false,5), (false,6), (false,7)] (by kernel_rfl) (by kernel_rfl) rfl (fun hne => ?_)
          repeat (refine head_q rfl (fun K hK => ?_); have hK2 := hide hK; clear hK; go_simp; refine hK2.out _ ?_; clear hK2 K)
          refine head_nil ?_
          try simp only [List.drop_succ_cons, List.drop_zero]
          go_wp2_with fail
          go_roundw
          case rel => exact ⟨j, _, by omega, rfl, rfl, Hn.out, HSa.out, HSb.out, hE.drew⟩
          case measure => simp [intOf]
  · have hc : cmpI a b = 1 := by
      have := Trd.len_lt (β := 2) (f := dig d1 ys) (g := dig d1 xs) (by decide) (fun i _ => d1_lt _) hTa (n := lb) hl
      rw [← hna, ← hnb]
      unfold cmpI numOf
      rw [hlx, hly, if_neg (by omega), if_neg (by omega)]
    rw [hc]
    have hnl : ¬ la < lb := by omega
    clear hVa hVb hTa hTb hSa hSb hna hnb hFa hlx hly
    go_enter Try.func25, Try.ntmps25
    go_wp2
    go_ret
    exact ⟨rfl, Upd.refl _ _⟩
end Go.Proofs.Ytekpjdfgpggcnaa
