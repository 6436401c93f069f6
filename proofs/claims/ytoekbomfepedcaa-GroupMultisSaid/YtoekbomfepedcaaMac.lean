/- Tags, walked. -/
import Derived.Test.YtoekbomfepedcaaMacM
namespace Go.Proofs.Ytoekbomfepedcaa
set_option linter.unusedSimpArgs false
set_option linter.unusedVariables false
open Go.RowKit
open Sha
open Mac
attribute [local go_sem] steady steadyUpon Cls same_cell by8 by32 by64
attribute [local go_sem] xor_u8 or_u8


set_option maxRecDepth 100000 in
set_option maxHeartbeats 2000000 in
theorem pad_any (A : Option Addr) (n c : Nat) (key : List (BitVec 8)) (x : BitVec 8) (w : World) (hS : Sl by8 w A key) (hn : key.length = n) (hc : n ≤ c) (hm : c ≤ maxLen) (hl : n ≤ 100000000) :
    Calls Try.prog 132 #[.slice A n c, .int .u8 (n8 x)] w (RetS w 64 (padk key x)) := by
  have HS := hide hS
  have Hn := hide hn
  have Hm := hide hm
  clear hS hn hm
  by_cases h64 : 64 < n
  · have hd : decide ((64 : Int) < (n : Int)) = true := decide_eq_true (by omega)
    go_enter Try.func132, Try.ntmps132
    go_wp2_with fail
    refine (psum_any _ _ _ [⟨A, n, c, key⟩] _ (Pts.one _ _ ⟨A, n, c, key⟩ ⟨HS.out, Hn.out, hc, Hm.out⟩) rfl (by rw [flat_one]; simp only; rw [Hn.out]; omega) (by simp [maxLen])).mono ?_
    rintro e w1 ⟨A1, c1, rfl, hO1, hU1⟩
    rw [flat_one] at hO1
    have hke : kb key = sum key := by unfold kb; rw [if_pos (by rw [Hn.out]; exact h64)]
    have hkl : (kb key).length = 32 := by rw [hke]; exact sum_length _
    have hKs : Hid (Sl by8 w1 A1 (kb key)) := hide (by rw [hke]; exact hO1.sl)
    have Hkl := hide hkl
    have hUw : Ext w w1 := ((Upd.refl _ _).alloc _).trans hU1
    clear hke hkl hO1 hU1
    go_wp2_with (first
      | (at_make; go_must (refine wpList_mk _ _ _ Try.el8 rfl rfl 64 rfl rfl rfl rfl (by decide) (by decide) by8 rfl rfl (B := w.heap.size) hUw.size ?_); rintro g w2 hO2 rfl hU2; have hA2 := hide (hO2.marr (by simp)); clear hO2)
      | (refine wpList_copy_any by8 one8 (kb key) rfl rfl Try.under_bs Try.sz8 rfl rfl (hKs.out.ext hU2) (by rw [Hkl.out]; exact (Nat.min_eq_left (by omega)).symm) hA2.out (by rw [Hkl.out]; omega) ?_; intro w3 hA3 hU3))
    have hA4 := hA3.congr (f' := fun i => by8 (if i < 0 then gat (kb key) i ^^^ x else gat (kb key) i)) (fun j hj => by
      rw [if_neg (Nat.not_lt_zero _)]
      by_cases h : j < (kb key).length
      · rw [if_pos ⟨Nat.zero_le _, by omega⟩]; rfl
      · rw [if_neg (by omega)]
        have e1 : gat (List.replicate 64 (default : BitVec 8)) j = 0 := by rw [gat_lt (by simpa using hj), List.getElem_replicate]; rfl
        have e2 : gat (kb key) j = 0 := gat_out (by omega)
        rw [e1, e2])
    have hU4 := upd_new hU3 (hUw.trans hU2) (fun i hi => by unfold only at hi; have := hUw.size; omega)
    obtain ⟨g, hg⟩ : ∃ g, g = w1.heap.size := ⟨_, rfl⟩
    have hgw : w.heap.size ≤ g := by rw [hg]; exact hUw.size
    rw [← hg] at hA4 ⊢
    have hA4' := hide hA4
    clear hA2 hA3 hA4 hU3 hU2 hKs hUw hg
    go_loopw [19, 6] (fun i _ wx => ∃ k : Nat, k ≤ 64 ∧ i = .int .i64 k ∧ Arr wx g 5 64 (fun i => by8 (if i < k then gat (kb key) i ^^^ x else gat (kb key) i)) ∧ Ext w wx) (fun i _ _ => 64 - (intOf i).toNat)
    case atStart => exact ⟨0, by omega, rfl, hA4'.out, hU4⟩
    case round =>
      clear hA4' hU4
      obtain ⟨k, hk, rfl, hA, hU⟩ := hrel
      by_cases hlt : k < 64
      · have hlti : (k : Int) < 64 := by omega
        have hd : decide ((k : Int) < 64) = true := decide_eq_true (by omega)
        have ck : wr.cell? ⟨g, k, none⟩ = some (.int .u8 (n8 (gat (kb key) k))) := by rw [hA.cell hlt, if_neg (by omega)]; rfl
        have hA' := hide hA
        clear hA
        go_wp2_with (refine wpList_store_arr rfl rfl Try.sz8 rfl (v := by8 (gat (kb key) k ^^^ x)) rfl rfl hA'.out hlt ?_; intro w3 hA3 hU3)
        go_roundw
        case rel => exact ⟨k + 1, by omega, by go_num, hA3.congr (fun j _ => by
          unfold put1
          by_cases h : j = k
          · subst h; rw [if_pos rfl, if_pos (by omega)]
          · rw [if_neg h]
            dsimp only
            by_cases h2 : j < k
            · rw [if_pos h2, if_pos (by omega)]
            · rw [if_neg h2, if_neg (by omega)]), upd_new hU3 hU (fun i hi => by unfold only at hi; omega)⟩
        case measure => simp [intOf]; omega
      · obtain rfl : k = 64 := by omega
        clear hk hlt
        have hA' := hide hA
        clear hA
        go_wp2_with fail
        go_ret
        refine ⟨some ⟨g, 0, none⟩, 64, rfl, Own.of_arr (hA'.out.congr fun i hi => ?_) (padk_length key x) hgw (by decide), hU⟩
        rw [if_pos hi, padk_gat key x i hi]
  · have hd : decide ((64 : Int) < (n : Int)) = false := decide_eq_false (by omega)
    have hke : kb key = key := by unfold kb; rw [if_neg (by rw [Hn.out]; exact h64)]
    have hkl : (kb key).length = n := by rw [hke]; exact Hn.out
    have hKs : Hid (Sl by8 w A (kb key)) := hide (by rw [hke]; exact HS.out)
    have Hkl := hide hkl
    have hUw : Ext w w := Upd.refl _ _
    clear hke hkl
    go_enter Try.func132, Try.ntmps132
    go_wp2_with (first
      | (at_make; go_must (refine wpList_mk _ _ _ Try.el8 rfl rfl 64 rfl rfl rfl rfl (by decide) (by decide) by8 rfl rfl (B := w.heap.size) hUw.size ?_); rintro g w2 hO2 rfl hU2; have hA2 := hide (hO2.marr (by simp)); clear hO2)
      | (refine wpList_copy_any by8 one8 (kb key) rfl rfl Try.under_bs Try.sz8 rfl rfl (hKs.out.ext hU2) (by rw [Hkl.out]; exact (Nat.min_eq_left (by omega)).symm) hA2.out (by rw [Hkl.out]; omega) ?_; intro w3 hA3 hU3))
    have hA4 := hA3.congr (f' := fun i => by8 (if i < 0 then gat (kb key) i ^^^ x else gat (kb key) i)) (fun j hj => by
      rw [if_neg (Nat.not_lt_zero _)]
      by_cases h : j < (kb key).length
      · rw [if_pos ⟨Nat.zero_le _, by omega⟩]; rfl
      · rw [if_neg (by omega)]
        have e1 : gat (List.replicate 64 (default : BitVec 8)) j = 0 := by rw [gat_lt (by simpa using hj), List.getElem_replicate]; rfl
        have e2 : gat (kb key) j = 0 := gat_out (by omega)
        rw [e1, e2])
    have hU4 := upd_new hU3 (hUw.trans hU2) (fun i hi => by unfold only at hi; have := hUw.size; omega)
    obtain ⟨g, hg⟩ : ∃ g, g = w.heap.size := ⟨_, rfl⟩
    have hgw : w.heap.size ≤ g := by rw [hg]; exact hUw.size
    rw [← hg] at hA4 ⊢
    have hA4' := hide hA4
    clear hA2 hA3 hA4 hU3 hU2 hKs hUw hg
    go_loopw [19, 6] (fun i _ wx => ∃ k : Nat, k ≤ 64 ∧ i = .int .i64 k ∧ Arr wx g 5 64 (fun i => by8 (if i < k then gat (kb key) i ^^^ x else gat (kb key) i)) ∧ Ext w wx) (fun i _ _ => 64 - (intOf i).toNat)
    case atStart => exact ⟨0, by omega, rfl, hA4'.out, hU4⟩
    case round =>
      clear hA4' hU4
      obtain ⟨k, hk, rfl, hA, hU⟩ := hrel
      by_cases hlt : k < 64
      · have hlti : (k : Int) < 64 := by omega
        have hd : decide ((k : Int) < 64) = true := decide_eq_true (by omega)
        have ck : wr.cell? ⟨g, k, none⟩ = some (.int .u8 (n8 (gat (kb key) k))) := by rw [hA.cell hlt, if_neg (by omega)]; rfl
        have hA' := hide hA
        clear hA
        go_wp2_with (refine wpList_store_arr rfl rfl Try.sz8 rfl (v := by8 (gat (kb key) k ^^^ x)) rfl rfl hA'.out hlt ?_; intro w3 hA3 hU3)
        go_roundw
        case rel => exact ⟨k + 1, by omega, by go_num, hA3.congr (fun j _ => by
          unfold put1
          by_cases h : j = k
          · subst h; rw [if_pos rfl, if_pos (by omega)]
          · rw [if_neg h]
            dsimp only
            by_cases h2 : j < k
            · rw [if_pos h2, if_pos (by omega)]
            · rw [if_neg h2, if_neg (by omega)]), upd_new hU3 hU (fun i hi => by unfold only at hi; omega)⟩
        case measure => simp [intOf]; omega
      · obtain rfl : k = 64 := by omega
        clear hk hlt
        have hA' := hide hA
        clear hA
        go_wp2_with fail
        go_ret
        refine ⟨some ⟨g, 0, none⟩, 64, rfl, Own.of_arr (hA'.out.congr fun i hi => ?_) (padk_length key x) hgw (by decide), hU⟩
        rw [if_pos hi, padk_gat key x i hi]

set_option maxRecDepth 100000 in
set_option maxHeartbeats 2000000 in
theorem tag_any (A : Option Addr) (n c : Nat) (key : List (BitVec 8)) (D : Option Addr) (m d : Nat) (ps : List Pt) (w : World) (hS : Sl by8 w A key) (hn : key.length = n) (hc : n ≤ c) (hm : c ≤ maxLen) (hl : n ≤ 10000000)
    (hP : Pts w D ps) (hpl : ps.length = m) (hf : (flat ps).length ≤ 10000000) (hmm : m ≤ maxLen) :
    Calls Try.prog 121 #[.slice A n c, .slice D m d] w (RetS w 32 (tag key (flat ps))) := by
  unfold maxLen at hmm
  have HS := hide hS
  have Hn := hide hn
  have Hm := hide hm
  have HP := hide hP
  have Hpl := hide hpl
  have Hf := hide hf
  clear hS hn hm hP hpl hf
  go_enter Try.func121, Try.ntmps121
  go_wp2_with fail
  refine (hnew_any w).mono ?_
  rintro e w1 ⟨g, T1, rfl, hH1, hU1⟩
  have hH1' := hide hH1
  clear hH1
  go_wp2_with fail
  refine (pad_any A n c key 0x36 _ (HS.out.ext hU1) Hn.out hc Hm.out (by omega)).mono ?_
  rintro e w2 ⟨A2, c2, rfl, hO2, hU2⟩
  have hO2' := hide hO2
  clear hO2
  go_wp2_with fail
  refine (hadd_any w.heap.size g T1 [] (padk key 0x36) (padk key 0x36) _ _ _ _ (hH1'.out.ext hU2) (Nat.le_trans hU1.size hU2.size) hO2'.out.sl (padk_length _ _) rfl (by rw [padk_length]; omega)).mono ?_
  rintro e w3 ⟨T3, rfl, hH3, hU3, hin3⟩
  have hU13 : Ext w w3 := upd_new hU3 (hU1.trans hU2) (fun i hi => (hH1'.out.in_ hi).1)
  have hH3' : Hid (Hsh w3 w.heap.size T3 g (padk key 0x36 ++ flat (ps.take 0))) := hide (by simpa [flat] using hH3)
  clear hH3 hH1' hU1 hU2 hO2' hU3 hin3
  go_wp2_with fail
  go_loopw [15, 7] (fun i _ wx => ∃ k T, k ≤ m ∧ i = .int .i64 (k : Nat) ∧ Hsh wx w.heap.size T g (padk key 0x36 ++ flat (ps.take k)) ∧ Ext w wx) (fun i _ _ => m - (intOf i).toNat)
  case atStart => exact ⟨0, T3, by omega, rfl, hH3'.out, hU13⟩
  case round =>
    clear hH3' hU13
    obtain ⟨k, T, hk, rfl, hH, hU⟩ := hrel
    have hH' := hide hH
    clear hH
    by_cases hlt : k < m
    · have hlti : (k : Int) < m := by omega
      have hd : decide ((k : Int) < m) = true := decide_eq_true (by omega)
      obtain ⟨b, o, rfl, _, hc⟩ := (HP.out.ext hU).1.open_ (by have := Hpl.out; omega)
      have hck := hc k (by have := Hpl.out; omega)
      unfold Pt.val at hck
      have Hok := hide ((HP.out.ext hU).2 k (by have := Hpl.out; omega))
      clear hc
      go_wp2_with (go_at_call 81; go_must (refine (hadd_any w.heap.size g T (padk key 0x36 ++ flat (ps.take k)) (gat ps k).bs (padk key 0x36 ++ flat (ps.take (k + 1))) _ _ _ _ hH'.out hU.size Hok.out.1 Hok.out.2.1 (by rw [List.append_assoc, flat_take (by have := Hpl.out; omega)]) (by have := Hf.out; have := flat_le ps (k + 1); rw [List.length_append, padk_length]; omega)).mono ?_); rintro e w2 ⟨T2, rfl, hH2, hU2, hin2⟩)
      go_roundw
      case rel => exact ⟨k + 1, T2, by omega, by go_num, hH2, upd_new hU2 hU (fun i hi => (hH'.out.in_ hi).1)⟩
      case measure => simp [intOf]; omega
    · obtain rfl : k = m := by omega
      clear hk hlt
      have hft : flat (ps.take k) = flat ps := by rw [List.take_of_length_le (by have := Hpl.out; omega)]
      rw [hft] at hH'
      clear hft
      go_wp2_with fail
      refine (pad_any A n c key 0x5c _ (HS.out.ext hU) Hn.out (by assumption) Hm.out (by omega)).mono ?_
      rintro e w4 ⟨A4, c4, rfl, hO4, hU4⟩
      have hO4' := hide hO4
      clear hO4
      go_wp2_with fail
      refine (hsum_any _ g T _ _ (hH'.out.ext hU4) (by have := Hf.out; rw [List.length_append, padk_length]; omega)).mono ?_
      rintro e w5 ⟨A5, c5, rfl, hO5, hU5⟩
      have hO5' := hide hO5
      clear hO5
      go_wp2_with fail
      refine (psum_any _ _ _ [⟨A4, 64, c4, padk key 0x5c⟩, ⟨A5, 32, c5, inner key (flat ps)⟩] _ (Pts.two _ _ ⟨A4, 64, c4, padk key 0x5c⟩ ⟨A5, 32, c5, inner key (flat ps)⟩ ((hO4'.out.mpt (padk_length _ _)).ext hU5) (hO5'.out.mpt (sum_length _))) rfl (by rw [flat2]; simp only; rw [List.length_append, padk_length]; unfold inner; rw [sum_length]; omega) (by simp [maxLen])).mono ?_
      rintro e w6 ⟨A6, c6, rfl, hO6, hU6⟩
      rw [flat2] at hO6
      have hU56 : Ext w w6 := ((hU.trans hU4).trans hU5).trans (((Upd.refl _ _).alloc _).trans hU6)
      have hsz : w.heap.size ≤ (w5.alloc (.cells #[.slice A4 64 c4, .slice A5 32 c5] 23)).heap.size := Nat.le_trans ((hU.trans hU4).trans hU5).size (by simp)
      have hO6' := hide (hO6.mono hsz)
      clear hO6 hsz
      go_wp2_with fail
      go_ret
      exact ⟨A6, c6, rfl, hO6'.out, hU56⟩

theorem extract_any (A : Option Addr) (n c : Nat) (salt : List (BitVec 8)) (D : Option Addr) (m d : Nat) (sec : List (BitVec 8)) (w : World) (hS : Sl by8 w A salt) (hn : salt.length = n) (hc : n ≤ c) (hm : c ≤ maxLen) (hl : n ≤ 10000000)
    (hS' : Sl by8 w D sec) (hn' : sec.length = m) (hd : m ≤ d) (hd' : d ≤ maxLen) (hl' : m ≤ 10000000) :
    Calls Try.prog 106 #[.slice A n c, .slice D m d] w (RetS w 32 (tag salt sec)) := by
  have HS := hide hS
  have Hn := hide hn
  have Hm := hide hm
  have HS' := hide hS'
  have Hn' := hide hn'
  have Hd' := hide hd'
  clear hS hn hm hS' hn' hd'
  go_enter Try.func106, Try.ntmps106
  go_wp2_with fail
  refine (tag_any A n c salt _ _ _ [⟨D, m, d, sec⟩] _ (HS.out.ext ((Upd.refl _ _).alloc _)) Hn.out hc Hm.out hl (Pts.one _ _ ⟨D, m, d, sec⟩ ⟨HS'.out, Hn'.out, hd, Hd'.out⟩) rfl (by rw [flat_one]; simp only; rw [Hn'.out]; omega) (by simp [maxLen])).mono ?_
  rintro e w1 ⟨A1, c1, rfl, hO1, hU1⟩
  rw [flat_one] at hO1
  have hO1' := hide hO1
  clear hO1
  go_wp2_with fail
  go_ret
  exact ⟨A1, c1, rfl, hO1'.out.mono (by simp), ((Upd.refl _ _).alloc _).trans hU1⟩

def RetB1 (b : Bool) (w : World) (e : Ending) (w' : World) : Prop := e = .returned (.bool b) ∧ Ext w w'
def acc (a b : List (BitVec 8)) : Nat → BitVec 8
  | 0 => 0
  | k + 1 => acc a b k ||| (gat a k ^^^ gat b k)
theorem acc_zero (a b : List (BitVec 8)) (k : Nat) : acc a b k = 0 ↔ ∀ i, i < k → gat a i = gat b i := by
  induction k with
  | zero => simp [acc]
  | succ k ih =>
    show acc a b k ||| (gat a k ^^^ gat b k) = 0#8 ↔ _
    rw [BitVec.or_eq_zero_iff, BitVec.xor_eq_zero_iff]
    have ih' : acc a b k = 0#8 ↔ ∀ i, i < k → gat a i = gat b i := ih
    rw [ih']
    constructor
    · intro ⟨h1, h2⟩ i hi
      by_cases h : i = k
      · subst h; exact h2
      · exact h1 i (by omega)
    · intro h
      exact ⟨fun i hi => h i (by omega), h k (by omega)⟩
theorem acc_same (a b : List (BitVec 8)) (h : a.length = b.length) : (n8 (acc a b a.length) == 0) = decide (a = b) := by
  have h0 : (0 : Int) = n8 0 := rfl
  rw [h0]
  by_cases e : a = b
  · subst e
    have : acc a a a.length = 0 := (acc_zero a a _).2 (fun _ _ => rfl)
    rw [this, decide_eq_true rfl]
    exact beq_self_eq_true _
  · rw [decide_eq_false e]
    refine beq_eq_false_iff_ne.2 fun h1 => e ?_
    have h2 := (acc_zero a b _).1 (n8_inj.1 h1)
    apply List.ext_getElem h
    intro i h3 h4
    have := h2 i h3
    rwa [gat_lt h3, gat_lt h4] at this

end Go.Proofs.Ytoekbomfepedcaa
