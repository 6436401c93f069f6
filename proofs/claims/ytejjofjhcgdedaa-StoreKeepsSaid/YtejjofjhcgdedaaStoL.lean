/- The law StoreRooms. -/
import Derived.Test.YtejjofjhcgdedaaStoM
import Derived.Test.YtejjofjhcgdedaaApn
import Derived.Test.YtejjofjhcgdedaaSlbS
namespace Go.Proofs.Ytejjofjhcgdedaa
set_option linter.unusedSimpArgs false
set_option linter.unusedVariables false
open Go.RowKit Go.Shelf
open Sha
attribute [local go_sem] steady steadyUpon Cls same_cell anyW str_eq
attribute [local irreducible] wpHead wpTree wpHeadR Sha.sum
theorem u64_modN (z : Int) (m : Nat) (h : 0 < m) : ∃ K : Nat, (IntKind.u64.wrap z).tmod (m : Int) = (K : Int) ∧ K < m := by
  have hw0 : 0 ≤ IntKind.u64.wrap z := by
    unfold IntKind.wrap
    simp [IntKind.signed, IntKind.bits]
    omega
  rw [Int.tmod_eq_emod_of_nonneg hw0]
  have h1 := Int.emod_nonneg (IntKind.u64.wrap z) (b := (m : Int)) (by omega)
  have h2 := Int.emod_lt_of_pos (IntKind.u64.wrap z) (b := (m : Int)) (by omega)
  exact ⟨(IntKind.u64.wrap z % (m : Int)).toNat, by omega, by omega⟩
theorem wrapi64_N {k : Nat} (h : k < 9223372036854775808) : IntKind.i64.wrap (k : Int) = (k : Int) := IntWalk.i64_in _ (by omega)
theorem Sto.clean_inked {x : Slv} (h : Sto.CleanS x) : (inkedK x x.secs.length).length = 0 := by
  unfold inkedK
  rw [List.length_map, List.length_eq_zero_iff, List.filter_eq_nil_iff]
  intro i hi
  rw [List.mem_range] at hi
  rw [h i hi]
  simp
/-- the first k of N bytes are x -/
def flK (x : B8) (N k : Nat) : List B8 := (List.range N).map fun i => if i < k then x else default
theorem flK_len (x : B8) (N k : Nat) : (flK x N k).length = N := by simp [flK]
theorem flK_step (x : B8) (N k : Nat) (h : k < N) : (flK x N k).set k x = flK x N (k + 1) := by
  apply List.ext_getElem?; intro j
  rw [List.getElem?_set]
  by_cases hj : k = j
  · subst hj
    simp [flK, h]
  · rw [if_neg hj]
    simp only [flK, List.getElem?_map]
    by_cases hjl : j < N
    · simp only [List.getElem?_range hjl, Option.map_some]
      by_cases h3 : j < k
      · rw [if_pos h3, if_pos (by omega)]
      · rw [if_neg h3, if_neg (by omega)]
    · rw [List.getElem?_eq_none (by simp; omega)]
      rfl
theorem flK_zero (x : B8) (N : Nat) : flK x N 0 = List.replicate N default := by
  refine List.ext_getElem (by simp [flK]) fun i h1 h2 => ?_
  simp only [flK, List.getElem_map, List.getElem_range, List.getElem_replicate]
  rw [if_neg (by omega)]
set_option maxRecDepth 100000 in
set_option maxHeartbeats 4000000 in
theorem strms_any (z : Int) (x : B8) (w : World) : Calls Try.prog 4 #[.int .i64 z, .int .u8 (n8 x)] w fun e w' => e = .returned (.bool true) ∧ Ext w w' := by
  obtain ⟨K, hK, hK60⟩ := u64_modN z 60 (by decide)
  have HK := hide hK
  clear hK
  obtain ⟨S, hS⟩ : ∃ S, S = 4 + K := ⟨_, rfl⟩
  obtain ⟨T, hT⟩ : ∃ T, T = S - 2 := ⟨_, rfl⟩
  obtain ⟨M, hM⟩ : ∃ M, M = T / 2 := ⟨_, rfl⟩
  obtain ⟨P, hP⟩ : ∃ P, P = 64 * M := ⟨_, rfl⟩
  obtain ⟨R, hR⟩ : ∃ R, R = P - 44 := ⟨_, rfl⟩
  have hRS : 64 * ((S - 2) / 2) - 44 = R := by rw [hR, hP, hM, hT]
  have hb : 4 ≤ S ∧ S ≤ 63 ∧ R ≤ 2000 ∧ 20 ≤ R ∧ 64 ≤ P ∧ 1 ≤ M ∧ 2 ≤ T := by omega
  have hSi : (4 : Int) + (K : Int) = (S : Int) := by omega
  have hTi : (S : Int) - 2 = (T : Int) := by omega
  have hMi : (T : Int).tdiv 2 = (M : Int) := by rw [Int.tdiv_eq_ediv_of_nonneg (by omega)]; omega
  have hPi : 64 * (M : Int) = (P : Int) := by omega
  have hRi : (P : Int) - 44 = (R : Int) := by omega
  have hS4 : 4 ≤ S := hb.1
  have hS2 : S ≤ 4096 := by omega
  have hR1 : 1 * R ≤ 281474976710656 := by omega
  have hR2 : R ≤ maxLen := by unfold maxLen; omega
  have Hb := hide hb
  have HRS := hide hRS
  have hbS : S ≤ 63 := by omega
  have hbR : R ≤ 2000 := by omega
  have hbM : M ≤ 30 := by omega
  have hbP : 64 ≤ P ∧ P ≤ 2000 := by omega
  clear hS hT hM hP hR hb hRS
  have hK2 : (IntKind.u64.wrap z).tmod 60 = (K : Int) := HK.out
  clear HK
  go_enter Try.func4, Try.ntmps4
  go_wp2_with fail
  refine (stlives_any w).mono ?_
  rintro e w1 ⟨rfl, hE1⟩
  have HE1 := hide hE1
  clear hE1
  go_wp2_with fail
  refine (stmade_any S w1 hS4 hS2).mono ?_
  rintro e w2 ⟨g, gl, s, y, rfl, h2, hE2⟩
  have hroom := strooms_any w1 g gl y S s 0 false w2 h2.slab h2.len hS4 hS2 h2.blk
  rw [HRS.out] at hroom
  have H2 := hide h2
  have HE2 := hide (HE1.out.trans hE2)
  have Hroom := hide hroom
  clear h2 hE2 hroom
  go_wp2_with (first
    | (go_at_call 29; refine Hroom.out.mono ?_; rintro e w4 ⟨rfl, hw1⟩; rw [hw1]; clear hw1 w4)
    | (at_make; go_must (refine wpList_mk _ _ _ Try.el8 rfl rfl R rfl rfl rfl rfl hR1 hR2 by8 rfl rfl (B := w2.heap.size) (Nat.le_refl _) ?_); rintro gb w3 hO rfl hU))
  go_loopw [43] (fun iv wr => ∃ k : Nat, k ≤ R ∧ iv = .int .i64 (k : Int) ∧ Own wr w2.heap.size 5 (some ⟨w2.heap.size, 0, none⟩) R ((flK x R k).map by8) ∧ Ext w2 wr) (fun iv _ => R - (Go.RowKit.intOf iv).toNat)
  case atStart => exact ⟨0, Nat.zero_le _, rfl, by rw [flK_zero]; exact hO, hU⟩
  case round =>
    clear hO hU
    obtain ⟨k, hk, rfl, hO, hU⟩ := hrel
    have HO := hide hO
    have HU := hide hU
    clear hO hU
    by_cases hlt : k < R
    · go_wp2_with (refine wpList_store_own by8 one8 x rfl rfl Try.sz8 rfl rfl HO.out (by rw [flK_len]; exact hlt) ?_; intro w3 hO3 hU3)
      go_roundw
      case rel => exact ⟨k + 1, hlt, by go_num, by rw [flK_step x R k hlt] at hO3; exact hO3, upd_new hU3 HU.out (fun i hi => Nat.le_of_eq hi.symm)⟩
      case measure => simp [Go.RowKit.intOf]; omega
    · obtain rfl : k = R := by omega
      obtain ⟨bs, hbs⟩ : ∃ bs, bs = flK x k k := ⟨_, rfl⟩
      have hbl : bs.length = k := by rw [hbs]; exact flK_len x k k
      have hO4 := HO.out
      rw [← hbs] at hO4
      have h4 := H2.out.keep HU.out
      have hE4 := HE2.out.trans HU.out
      have hk1 : 64 * ((S - 2) / 2) - 44 < k + 1 := by rw [HRS.out]; exact Nat.lt_succ_self k
      have hk2 : k ≤ 64 * ((S - 2) / 2) - 44 := by rw [HRS.out]; exact Nat.le_refl k
      have hlt2 := H2.out.slab.lt
      have hap1 : (bs ++ [1#8]).length = k + 1 := by rw [List.length_append, hbl]; rfl
      have hap2 : (k + 1) * 1 ≤ 140737488355328 := by omega
      have hap3 : k + 1 ≤ maxLen := by unfold maxLen; omega
      have hsep : ∀ b o, (some ⟨w2.heap.size, 0, none⟩ : Option Addr) = some ⟨b, o, none⟩ → ¬ (b = g ∨ b = gl) := fun b o e => by injection e with e; injection e with e1; omega
      have hsnv : ¬ (w2.heap.size = g ∨ w2.heap.size = gl ∨ w2.heap.size = s) := by have := H2.out.blk.lt; omega
      have HO4 := hide hO4
      have H4 := hide h4
      have HE4 := hide hE4
      have Hbl := hide hbl
      have Hk1 := hide hk1
      have Hk2 := hide hk2
      have Hap1 := hide hap1
      clear hO4 h4 hE4 hbl hk1 hk2 hlt2 hap1 hbs HO HU hlt hk
      go_wp2_with (first
        | (at_builtin; go_must (refine wpList_apn by8 one8 Try.el8 bs [1#8] (bs ++ [1#8]) (k + 1) rfl Hap1.out hap2 hap3 rfl rfl rfl Hbl.out (HO4.out.sl.ext ((Upd.refl _ _).alloc _)) rfl rfl (Sl.new_at by8 [1#8] rfl rfl) (by decide) ?_); intro A5 c5 w5 hO5 hU5; have hE5 := ((Upd.refl (fun _ => False) wr).alloc _).trans hU5; have HE5 := hide hE5; clear hO5 hU5 hE5))
      refine (stsave_long w1 g gl y S s 0 (k + 1) c5 A5 w5 (H4.out.keep HE5.out).slab H4.out.len hS4 hS2 (H4.out.keep HE5.out).blk Hk1.out).mono ?_
      rintro e w6 ⟨rfl, hw⟩
      rw [hw]
      clear hw w6
      go_wp2_with (first
        | (go_at_call 15; go_must (refine (soinked w1 g gl y w5 (H4.out.keep HE5.out).slab (Sto.clean_inked H4.out.clean)).mono ?_); rintro e w6 ⟨A6, c6, rfl, hE6⟩; have HE6 := hide (HE5.out.trans hE6); clear hE6)
        | (go_at_call 31; go_must (refine (stnumber_any s g 0 false w6 (H4.out.keep HE6.out).blk).mono ?_); rintro e w7 ⟨rfl, hw⟩; rw [hw]; clear hw w7))
      refine ((H4.out.keep HE6.out).save (by decide) hS4 hS2 (by decide) (HO4.out.sl.ext HE6.out) Hbl.out (Nat.le_refl _) hR2 hsep Hk2.out).mono ?_
      rintro e w8 ⟨y8, rfl, h8, hU8⟩
      have hE8 : Ext w w8 := HE1.out.trans ((H4.out.keep HE6.out).ext (H4.out.keep HE6.out).slab.ext hU8)
      have hS8 : Sl by8 w8 (some ⟨w2.heap.size, 0, none⟩) bs := (HO4.out.sl.ext HE6.out).upd hU8 (fun b o e => by injection e with e; injection e with e1; rw [← e1]; exact hsnv)
      have H8 := hide h8
      have HE8 := hide hE8
      have HS8 := hide hS8
      clear h8 hE8 hS8 hU8
      go_wp2_with fail
      refine (H8.out.open_ hS4 hS2 (by decide)).mono ?_
      rintro e w9 ⟨s9, A9, c9, rfl, hs9, hB9, hO9, hE9⟩
      rw [Hbl.out]
      obtain ⟨X, hX⟩ : ∃ X, X = str bs := ⟨_, rfl⟩
      have t1 : (convert 26 9 (.slice A9 k c9)).run Try.prog w9 = .ok (.string X) w9 := by
        rw [hX]; exact run_str Try.under_bs Try.under8 Try.underS hO9.sl Hbl.out
      have t2 : (convert 26 9 (.slice (some ⟨w2.heap.size, 0, none⟩) k k)).run Try.prog w9 = .ok (.string X) w9 := by
        rw [hX]; exact run_str Try.under_bs Try.under8 Try.underS (HS8.out.ext hE9) Hbl.out
      have hnum := stnumber_any s g (0 + 1) false w9 (H8.out.blk.ext hE9)
      have HE9 := hide (HE8.out.trans hE9)
      clear hX hB9 hO9 hE9
      go_wp2_with (go_at_call 31; go_must (refine hnum.mono ?_); rintro e wa ⟨rfl, hw⟩; rw [hw]; clear hw wa)
      go_ret
      exact ⟨rfl, HE9.out⟩
end Go.Proofs.Ytejjofjhcgdedaa
