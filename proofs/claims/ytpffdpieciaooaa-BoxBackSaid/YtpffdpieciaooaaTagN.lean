/- The law of tags of no bytes and under a first half of noughts, walked. -/
import Derived.Test.YtpffdpieciaooaaTagL
import Derived.Test.YtpffdpieciaooaaBase
import Derived.Test.YtpffdpieciaooaaRefs
namespace Go.Proofs.Ytpffdpieciaooaa
set_option linter.unusedSimpArgs false
set_option linter.unusedVariables false
open Go.RowKit
open Nt
attribute [local go_sem] steady steadyUpon Cls by8 str_eq
attribute [local irreducible] wpHead wpTree

/-- a slice of bytes that came in -/
def Bi (w : World) (A : Option Addr) (n c : Nat) (bs : List (BitVec 8)) : Prop := bs.length = n ∧ n ≤ c ∧ c ≤ maxLen ∧ Sl by8 w A bs
theorem Bi.ext {w w' : World} {A : Option Addr} {n c : Nat} {bs : List (BitVec 8)} (h : Bi w A n c bs) (hu : Ext w w') : Bi w' A n c bs := ⟨h.1, h.2.1, h.2.2.1, h.2.2.2.ext hu⟩
theorem leN_lt (xs : List (BitVec 8)) : leN xs < 256 ^ xs.length := by
  have := ofB_lt xs.reverse
  rwa [List.length_reverse] at this
theorem leN_vf (xs : List (BitVec 8)) : leN xs = vf 256 (dig d8 xs) xs.length := by
  unfold leN ofB
  rw [List.length_reverse]
  refine vf_congr fun i hi => ?_
  unfold bdig dig
  rw [List.length_reverse, gat_lt (by rw [List.length_reverse]; omega), gat_lt hi, List.getElem_reverse]
  congr 2
  omega
theorem leN_append (xs ys : List (BitVec 8)) : leN (xs ++ ys) = leN xs + leN ys * 256 ^ xs.length := by
  rw [leN_vf, leN_vf, leN_vf, List.length_append, vf_split]
  congr 1
  · refine vf_congr fun i hi => ?_
    unfold dig
    rw [gat_lt (by rw [List.length_append]; omega), gat_lt hi, List.getElem_append_left hi]
  · congr 1
    refine vf_congr fun i hi => ?_
    unfold dig
    rw [gat_lt (by rw [List.length_append]; omega), gat_lt hi, List.getElem_append_right (by omega)]
    congr 2
    omega
theorem leN_zeros (k : Nat) : leN (List.replicate k default) = 0 := by
  unfold leN
  rw [List.reverse_replicate, ofB_zeros]
theorem toB_rev (xs : List (BitVec 8)) (k : Nat) : (toB (leN xs) (xs.length + k)).reverse.take xs.length = xs := by
  have h : toB (leN xs) (xs.length + k) = List.replicate k default ++ xs.reverse := by
    refine ofB_inj (by rw [toB_length]; simp; omega) ?_
    rw [ofB_toB _ _ (Nat.lt_of_lt_of_le (leN_lt xs) (Nat.pow_le_pow_right (by omega) (by omega)))]
    have h2 : ofB (List.replicate k default ++ xs.reverse) = leN (xs ++ List.replicate k default) := by
      unfold leN
      rw [List.reverse_append, List.reverse_replicate]
    rw [h2, leN_append, leN_zeros, Nat.zero_mul, Nat.add_zero]
  rw [h, List.reverse_append, List.reverse_reverse, List.take_left' rfl]
def z16 : List (BitVec 8) := List.replicate 16 default
theorem leN_z16 : leN (clamp z16) = 0 := by decide +kernel
theorem tacc_zero (b : List (BitVec 8)) (k : Nat) : tacc 0 b k = 0 := by
  cases k with
  | zero => rfl
  | succ k => rw [tacc, Nat.mul_zero, Nat.zero_mod]
theorem tag_zero (s b : List (BitVec 8)) (hs : s.length = 16) : tagOf (z16 ++ s) b = s := by
  unfold tagOf tagN
  rw [show (z16 ++ s).take 16 = z16 from List.take_left' rfl, show (z16 ++ s).drop 16 = s from List.drop_left' rfl, leN_z16, tacc_zero, Nat.zero_add]
  have := toB_rev s 2
  rw [hs] at this
  exact this
theorem tag_nil (key s : List (BitVec 8)) (hs : s.length = 16) (h : key.drop 16 = s) : tagOf key [] = s := by
  unfold tagOf tagN
  rw [h, show chn ([] : List (BitVec 8)).length = 0 from rfl, tacc, Nat.zero_add]
  have := toB_rev s 2
  rw [hs] at this
  exact this
theorem tnone_short (A B : Option Addr) (n c m d : Nat) (w : World) (h : n < 16) :
    Calls Try.prog 4 #[.slice A n c, .slice B m d] w fun e w' => e = .returned (.bool true) ∧ Ext w w' := by
  have h1 : (n : Int) < 16 := by omega
  go_enter Try.func4, Try.ntmps4
  go_wp2_with fail
  refine (tlives_any _).mono ?_
  rintro e w1 ⟨rfl, hU1⟩
  go_wp2_with fail
  refine (tlives_any _).mono ?_
  rintro e w2 ⟨rfl, hU2⟩
  go_wp2_with fail
  go_ret
  exact ⟨rfl, hU1.trans hU2⟩
theorem tnone_long (A B : Option Addr) (n c m d : Nat) (w : World) (h : ¬ n < 16) (h' : 300 < m) :
    Calls Try.prog 4 #[.slice A n c, .slice B m d] w fun e w' => e = .returned (.bool true) ∧ Ext w w' := by
  have h1 : ¬ (n : Int) < 16 := by omega
  have h2 : (300 : Int) < (m : Int) := by omega
  go_enter Try.func4, Try.ntmps4
  go_wp2_with fail
  refine (tlives_any _).mono ?_
  rintro e w1 ⟨rfl, hU1⟩
  go_wp2_with fail
  refine (tlives_any _).mono ?_
  rintro e w2 ⟨rfl, hU2⟩
  go_wp2_with fail
  go_ret
  exact ⟨rfl, hU1.trans hU2⟩
set_option maxRecDepth 100000 in
set_option maxHeartbeats 2000000 in
theorem tnone_main (A B : Option Addr) (n c m d : Nat) (s b : List (BitVec 8)) (w : World) (h1 : Bi w A n c s) (h2 : Bi w B m d b) (hn : 16 ≤ n) (hm : m ≤ 300) :
    Calls Try.prog 4 #[.slice A n c, .slice B m d] w fun e w' => e = .returned (.bool true) ∧ Ext w w' := by
  have H1 := hide h1
  have H2 := hide h2
  have hs1 : ∀ w, (Instr.sliceAt 22 (.slice A n c) none (some (.int .i64 16)) none).run Try.prog w = .ok (.slice A 16 c) w := fun w => run_cut_h Try.n_el8.under Try.n_sz8 A n c 16 .i64 (by have := h1.2.1; omega) w
  clear h1 h2
  have hn' : ¬ (n : Int) < 16 := by omega
  have hm' : ¬ (300 : Int) < (m : Int) := by omega
  go_enter Try.func4, Try.ntmps4
  go_wp2_with fail
  refine (tlives_any _).mono ?_
  rintro e w1 ⟨rfl, hU1⟩
  go_wp2_with fail
  refine wp_region_plan (Ext _) 4 [(false,1), (false,2), (true,0), (true,3)] (by kernel_rfl) (by kernel_rfl) (Upd.refl _ _) (fun hne => ?_)
  repeat (refine head_q rfl (fun K hK => ?_); have hK2 := hide hK; clear hK; go_simp; refine hK2.out _ ?_; clear hK2 K)
  refine head_l rfl ?_
  refine wpList_mk _ _ _ Try.n_el8 rfl rfl 16 rfl rfl rfl rfl (by omega) (by unfold maxLen; omega) by8 rfl rfl (B := w1.heap.size) (by simp) ?_
  intro g w2 hO hg hU2
  go_wp2_with fail
  refine ⟨_, fun _ h => h, ⟨⟨_, hU2⟩, rfl⟩, ?_⟩
  have hK0 : Bi w2 A n c s := H1.out.ext ((hU1.drew).trans hU2)
  have hst : (s.take 16).length = 16 := by rw [List.length_take, hK0.1]; omega
  have Hst := hide hst
  have HK0 := hide hK0
  clear hst hK0
  repeat (refine head_q rfl (fun K hK => ?_); have hK2 := hide hK; clear hK; go_simp; refine hK2.out _ ?_; clear hK2 K)
  refine head_l rfl ?_
  refine wpList_apd by8 one8 Try.n_el8 z16 (s.take 16) (z16 ++ s.take 16) 32 rfl (by rw [List.length_append, Hst.out]; rfl) (by omega) (by unfold maxLen; omega) rfl rfl rfl rfl hO rfl Hst.out (HK0.out.2.2.2.take 16) (hU2.size) ?_
  intro A3 c3 w3 hO3 hU3 hin3
  have hU3' : Ext w1.drew w3 := Upd.fresh hU3 hU2 (fun k hk => (hO.in_ hk).1)
  clear hin3 hU3 hO HK0 hg hU2
  go_wp2_with fail
  refine ⟨_, fun _ h => h, ⟨⟨_, hU3'⟩, rfl⟩, ?_⟩
  repeat (refine head_q rfl (fun K hK => ?_); have hK2 := hide hK; clear hK; go_simp; refine hK2.out _ ?_; clear hK2 K)
  refine head_nil ?_
  try simp only [List.drop_succ_cons, List.drop_zero]
  have hE3 : Ext w w3 := hU1.trans hU3'.undrew
  obtain ⟨s16, hs16⟩ : ∃ s16, s16 = s.take 16 := ⟨_, rfl⟩
  rw [← hs16] at hO3 Hst
  have Hs16 := hide hs16
  have hkl : (z16 ++ s16).length = 32 := by rw [List.length_append, Hst.out]; rfl
  have hc3 := hO3.cap.1
  rw [List.length_map, hkl] at hc3
  have Hkl := hide hkl
  have Hw1 : Hid (w.heap.size ≤ w1.heap.size) := hide hU1.size
  clear hs16 hkl hU3' hU1
  go_wp2_with fail
  refine (tag_any A3 B c3 m d (z16 ++ s16) b _ Hkl.out H2.out.1 hc3 H2.out.2.1 (by omega) hO3.sl (H2.out.2.2.2.ext hE3)).mono ?_
  rintro e w4 ⟨A4, rfl, hS4, hU4⟩
  rw [tag_zero s16 b Hst.out] at hS4
  have hE4 := hE3.trans hU4
  have hcv := nstr_cls (c := 16) (hS4.ext (Upd.refl _ w4).drew) Hst.out
  have hcs := nstr_cls (c := c) (by rw [Hs16.out]; exact ((H1.out.2.2.2.ext hE4).take 16).ext (Upd.refl _ w4).drew) Hst.out
  go_wp2_with fail
  refine wp_region_plan (Ext _) 9 [(false,0), (false,1), (false,2), (false,3), (false,4), (false,5), (false,6), (false,7), (false,8)] (by kernel_rfl) (by kernel_rfl) (Upd.refl _ _) (fun hne => ?_)
  repeat (refine head_q rfl (fun K hK => ?_); have hK2 := hide hK; clear hK; go_simp; refine hK2.out _ ?_; clear hK2 K)
  refine head_nil ?_
  try simp only [List.drop_succ_cons, List.drop_zero]
  clear hcv hcs hS4
  obtain ⟨g3, rfl, hg3, hg3'⟩ := hO3.open_ (by rw [List.length_map, Hkl.out]; omega)
  have hO4 := hO3.ext (hU4.drew)
  have hB4 : w.heap.size ≤ g3 := Nat.le_trans (show w.heap.size ≤ w1.heap.size from Hw1.out) hg3
  clear hO3 hg3 hg3'
  go_wp2_with (refine wpList_copy_onto by8 one8 (z16 ++ s16) b rfl rfl Try.n_under_bs Try.n_sz8 rfl rfl (H2.out.2.2.2.ext hE4.drew) H2.out.1 Hkl.out hO4 ?_; intro w5 hO5 hU5)
  have hE5 : Ext w w5 := Upd.fresh hU5 hE4.drew (fun k hk => by unfold only at hk; omega)
  clear hE4 hU5 hO4
  go_wp2_with fail
  obtain ⟨key2, hkey2⟩ : ∃ key2, key2 = onto (z16 ++ s16) b := ⟨_, rfl⟩
  rw [← hkey2] at hO5
  have Hk2 := hide hkey2
  have Hk2l : Hid (key2.length = 32) := hide (by rw [hkey2, onto_length]; exact Hkl.out)
  clear hkey2
  refine (tag_any _ none c3 0 0 key2 [] _ Hk2l.out rfl hc3 (by omega) (by omega) hO5.sl Sl.nil).mono ?_
  rintro e w6 ⟨A6, rfl, hS6, hU6⟩
  have hE6 := hE5.trans hU6
  have hS6l : (tagOf key2 []).length = 16 := tagOf_length _ _
  by_cases h16 : m ≤ 16
  · have h16I : ¬ (16 : Int) < (m : Int) := by omega
    have hd16 : decide ((16 : Int) < (m : Int)) = false := decide_eq_false h16I
    have e1 : tagOf key2 [] = s16 := tag_nil key2 s16 Hst.out (by
      have hbl := H2.out.1
      rw [Hk2.out]
      unfold onto
      rw [Hkl.out, List.drop_append, List.length_take, List.drop_eq_nil_of_le (by rw [List.length_take]; omega), List.nil_append, List.drop_drop, show min 32 b.length = b.length by omega, show b.length + (16 - b.length) = 16 by omega]
      exact List.drop_left' rfl)
    rw [e1] at hS6
    have hcv := nstr_cls (c := 16) (hS6.ext (Upd.refl _ w6).drew) Hst.out
    have hcs := nstr_cls (c := c) (by rw [Hs16.out]; exact ((H1.out.2.2.2.ext hE6).take 16).ext (Upd.refl _ w6).drew) Hst.out
    clear e1 hS6 hS6l
    go_wp2_with fail
    refine wp_region_plan (Ext _) 15 [(false,0), (false,1), (false,2), (false,3), (false,4), (false,5), (false,6), (false,7), (false,8), (false,9), (false,10), (false,11), (false,12), (false,13), (false,14)] (by kernel_rfl) (by kernel_rfl) (Upd.refl _ _) (fun hne => ?_)
    repeat (refine head_q rfl (fun K hK => ?_); have hK2 := hide hK; clear hK; go_simp; refine hK2.out _ ?_; clear hK2 K)
    refine head_nil ?_
    try simp only [List.drop_succ_cons, List.drop_zero]
    go_wp2_with fail
    go_ret
    exact ⟨rfl, hE6.drew⟩
  · have h16I : (16 : Int) < (m : Int) := by omega
    have hd16 : decide ((16 : Int) < (m : Int)) = true := decide_eq_true h16I
    go_wp2_with fail
    refine wp_region_plan (Ext _) 15 [(false,0), (false,1), (false,2), (false,3), (false,4), (false,5), (false,6), (false,7), (false,8), (false,9), (false,10), (false,11), (false,12), (false,13), (false,14)] (by kernel_rfl) (by kernel_rfl) (Upd.refl _ _) (fun hne => ?_)
    repeat (refine head_q rfl (fun K hK => ?_); have hK2 := hide hK; clear hK; go_simp; refine hK2.out _ ?_; clear hK2 K)
    refine head_nil ?_
    try simp only [List.drop_succ_cons, List.drop_zero]
    go_wp2_with fail
    go_ret
    exact ⟨rfl, hE6.drew⟩
theorem tnone_any (A B : Option Addr) (n c m d : Nat) (s b : List (BitVec 8)) (w : World) (h1 : Bi w A n c s) (h2 : Bi w B m d b) :
    Calls Try.prog 4 #[.slice A n c, .slice B m d] w fun e w' => e = .returned (.bool true) ∧ Ext w w' := by
  by_cases hn : n < 16
  · exact tnone_short A B n c m d w hn
  · by_cases hm : 300 < m
    · exact tnone_long A B n c m d w hn hm
    · exact tnone_main A B n c m d s b w h1 h2 (by omega) (by omega)
end Go.Proofs.Ytpffdpieciaooaa
