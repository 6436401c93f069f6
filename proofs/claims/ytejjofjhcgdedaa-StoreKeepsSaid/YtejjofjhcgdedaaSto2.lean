/- The store's small functions, walked: get, area, room, flag, up. -/
import Derived.Test.YtejjofjhcgdedaaSto0
import Derived.Test.YtejjofjhcgdedaaSto1
import Derived.Test.YtejjofjhcgdedaaApkm
import Derived.Laws.Cover3
namespace Go.Proofs.Ytejjofjhcgdedaa
set_option linter.unusedSimpArgs false
set_option linter.unusedVariables false
open Go.RowKit
open Sha
attribute [local go_sem] steady steadyUpon Cls same_cell anyW
attribute [local irreducible] wpHead wpTree wpHeadR Sha.sum
set_option maxRecDepth 100000 in
theorem or8_u64 {a b : Nat} (ha : a < 256) (h : b * 256 + a < 18446744073709551616) : bits .or .u64 ((b * 256 : Nat) : Int) (a : Int) = ((b * 256 + a : Nat) : Int) := by
  have e : (BitVec.ofInt 64 ((b * 256 : Nat) : Int) ||| BitVec.ofInt 64 (a : Int)).toNat = b * 256 + a := by
    have h1 : b * 256 % 2 ^ 64 = b * 256 := Nat.mod_eq_of_lt (by omega)
    have h2 : a % 2 ^ 64 = a := Nat.mod_eq_of_lt (by omega)
    rw [BitVec.ofInt_natCast, BitVec.ofInt_natCast, BitVec.toNat_or, BitVec.toNat_ofNat, BitVec.toNat_ofNat, h1, h2]
    have h3 := Nat.shiftLeft_add_eq_or_of_lt (b := a) (i := 8) (by omega) b
    rw [Nat.shiftLeft_eq] at h3
    exact h3.symm
  show IntKind.u64.wrap ((BitVec.ofInt 64 ((b * 256 : Nat) : Int) ||| BitVec.ofInt 64 (a : Int)).toNat : Int) = _
  rw [e, IntWalk.u64_in _ (by omega)]
def Sto.flagB : List B8 := [83#8, 65#8, 67#8, 82#8] ++ List.replicate 60 0#8
theorem Sto.getB_lt : ∀ (l : List B8), Sto.getB l < 256 ^ l.length := by
  intro l
  unfold Sto.getB
  have : ∀ (l : List B8) (a : Nat), l.foldl (fun n x => n * 256 + x.toNat) a < (a + 1) * 256 ^ l.length := by
    intro l
    induction l with
    | nil => intro a; simp
    | cons x l ih =>
      intro a
      rw [List.foldl_cons, List.length_cons]
      refine Nat.lt_of_lt_of_le (ih _) ?_
      rw [Nat.pow_succ', ← Nat.mul_assoc]
      exact Nat.mul_le_mul_right _ (by have := x.isLt; omega)
  have h := this l 0
  rwa [Nat.zero_add, Nat.one_mul] at h
theorem Sto.getB_take (l : List B8) {k : Nat} (h : k < l.length) : Sto.getB (l.take (k + 1)) = Sto.getB (l.take k) * 256 + (gat l k).toNat := by
  unfold Sto.getB
  rw [List.take_add_one, List.foldl_append]
  have : l[k]?.toList = [gat l k] := by
    rw [List.getElem?_eq_getElem h]
    show [l[k]] = _
    unfold gat
    rw [List.getD_eq_getElem?_getD, List.getElem?_eq_getElem h]; rfl
  rw [this]
  rfl
theorem run_sizeOf_of {P : Program} {e : TypeId} {n : Nat} (h : (P.info? e).map (·.size) = some n) (w : World) : (sizeOf e).run P w = .ok n w := by
  cases hq : P.info? e with
  | none => simp [hq] at h
  | some i =>
    have hs : i.size = n := by simpa [hq] using h
    simp [sizeOf, typeInfo, hq, hs]
set_option maxRecDepth 100000 in
set_option maxHeartbeats 4000000 in
theorem sget_any (A : Option Addr) (l c : Nat) (bs : List B8) (w : World) (hS : Sl by8 w A bs) (hl : bs.length = l) (h8 : l ≤ 8) :
    Calls Try.prog 59 #[.slice A l c] w fun e w' => e = .returned (.int .u64 (Sto.getB bs : Int)) ∧ w' = w := by
  have HS := hide hS
  have Hl := hide hl
  clear hS hl
  go_enter Try.func59, Try.ntmps59
  go_wp2_with fail
  go_loopw [3, 8] (fun v i wr => ∃ k : Nat, k ≤ l ∧ i = .int .i64 k ∧ v = .int .u64 (Sto.getB (bs.take k) : Int) ∧ wr = w) (fun _ i _ => l - (Go.RowKit.intOf i).toNat)
  case atStart => exact ⟨0, by omega, rfl, rfl, rfl⟩
  case round =>
    obtain ⟨k, hk, rfl, rfl, rfl⟩ := hrel
    by_cases hlt : k < l
    · have hlti : (k : Int) < l := by omega
      have hd : decide ((k : Int) < l) = true := decide_eq_true (by omega)
      obtain ⟨g, o, rfl, _, hc⟩ := HS.out.open_ (by have := Hl.out; omega)
      have ck := hc k (by have := Hl.out; omega)
      unfold by8 at ck
      clear hc
      have hg := Sto.getB_lt (bs.take k)
      have hk8 : 256 ^ (bs.take k).length ≤ 256 ^ 7 := Nat.pow_le_pow_right (by decide) (by rw [List.length_take]; omega)
      have hb8 : (gat bs k).toNat < 256 := (gat bs k).isLt
      obtain ⟨b, hb⟩ : ∃ b, b = Sto.getB (bs.take k) := ⟨_, rfl⟩
      rw [← hb] at hg
      have hb7 : b < 72057594037927936 := Nat.lt_of_lt_of_le hg hk8
      have hor := or8_u64 (a := (gat bs k).toNat) (b := b) (by omega) (by omega)
      have hbk : b * 256 + (gat bs k).toNat = Sto.getB (bs.take (k + 1)) := by rw [Sto.getB_take bs (by have := Hl.out; omega), hb]
      rw [hbk] at hor
      have Hor := hide hor
      clear hor
      go_wp2_with fail
      go_roundw
      case rel =>
        refine ⟨k + 1, by omega, by go_num, ?_, trivial⟩
        have hw : IntKind.u64.wrap (n8 (gat bs k)) = ((gat bs k).toNat : Int) := IntWalk.u64_in _ (by have := n8_bd (gat bs k); omega)
        rw [hw, ← hb, show (b : Int) * 256 = ((b * 256 : Nat) : Int) by omega, Hor.out]
      case measure => simp [Go.RowKit.intOf] <;> omega
    · obtain rfl : k = l := by omega
      have hlti : ¬ (k : Int) < k := by omega
      go_wp2_with fail
      go_ret
      exact ⟨by rw [List.take_of_length_le (by have := Hl.out; omega)]; rfl, rfl⟩
set_option maxRecDepth 100000 in
set_option maxHeartbeats 4000000 in
theorem sarea_any (w0 : World) (g gl : Nat) (x : Slv) (n S : Nat) (w : World) (h : SlO w0 w g gl x) (hS : x.secs.length = S) (hS4 : 4 ≤ S) (hS2 : S ≤ 4096) (hn : n < 18446744073709551616) :
    Calls Try.prog 45 #[.pointer (some ⟨g, 0, none⟩), .int .u64 (n : Int)] w fun e w' => e = .returned (.tuple #[.int .i64 (Sto.areaF S n : Int), .int .i64 (((S - 2) / 2 : Nat) : Int)]) ∧ w' = w := by
  obtain ⟨⟨D, f, hb⟩, -⟩ := h
  have q : (2 : Int) ≤ S := by omega
  have hz : ((S : Int) - 2).tdiv 2 = (((S - 2) / 2 : Nat) : Int) := by
    rw [Int.tdiv_eq_ediv_of_nonneg (by omega)]; omega
  have hr : (n : Int).tmod 2 = ((n % 2 : Nat) : Int) := by
    rw [Int.tmod_eq_emod_of_nonneg (by omega)]; omega
  go_enter Try.func45, Try.ntmps45
  go_wp2_with (go_at_call 14; go_must (refine (ssectors_any _ D g gl f x w hb).mono ?_; rintro e w1 ⟨rfl, rfl⟩; rw [hS]))
  have hA : wrap64 (2 + wrap64 ((n : Int) % 2 * (((S - 2 : Nat) : Int) / 2))) = (Sto.areaF S n : Int) := by
    unfold Sto.areaF
    rcases Nat.mod_two_eq_zero_or_one n with h0 | h0
    · rw [show (n : Int) % 2 = 0 by omega, h0, Int.zero_mul, Nat.zero_mul, IntWalk.wrap64_in 0 (by omega), IntWalk.wrap64_in _ (by omega)]; rfl
    · rw [show (n : Int) % 2 = 1 by omega, h0, Int.one_mul, Nat.one_mul, IntWalk.wrap64_in (((S - 2 : Nat) : Int) / 2) (by omega), IntWalk.wrap64_in _ (by omega)]; omega
  refine bodyPost_ret (v := .tuple #[.int .i64 (Sto.areaF S n : Int), .int .i64 (((S - 2) / 2 : Nat) : Int)]) ?_ rfl ⟨rfl, rfl⟩
  rw [← hA]
  simp [results, Try.results45, go_sem]
set_option maxRecDepth 100000 in
set_option maxHeartbeats 4000000 in
theorem sroom_any (w0 : World) (g gl : Nat) (x : Slv) (S : Nat) (w : World) (h : SlO w0 w g gl x) (hS : x.secs.length = S) (hS4 : 4 ≤ S) (hS2 : S ≤ 4096) :
    Calls Try.prog 44 #[.pointer (some ⟨g, 0, none⟩)] w fun e w' => e = .returned (.int .i64 ((64 * ((S - 2) / 2) - 44 : Nat) : Int)) ∧ w' = w := by
  have hq : (2 : Int) ≤ S := by omega
  have hz : 1 ≤ (S - 2) / 2 ∧ (S - 2) / 2 ≤ 2048 := by omega
  obtain ⟨z, hzz⟩ : ∃ z, z = (S - 2) / 2 := ⟨_, rfl⟩
  rw [← hzz] at hz ⊢
  go_enter Try.func44, Try.ntmps44
  go_wp2_with (go_at_call 45; go_must (refine (sarea_any w0 g gl x 0 S w h hS hS4 hS2 (by omega)).mono ?_; rintro e w1 ⟨rfl, rfl⟩; rw [← hzz]))
  go_ret
  refine ⟨?_, rfl⟩
  have : ((S - 2 : Nat) : Int) / 2 * 64 - 44 = ((64 * z - 44 : Nat) : Int) := by omega
  rw [← this]
  rfl
theorem flag_copy {w w2 : World} (hO2 : Own w2 w.heap.size 5 (some ⟨w.heap.size, 0, none⟩) 64 ((List.replicate 64 (default : B8)).map by8)) (hU2 : Ext w w2) :
    ∃ w3, (Builtin.copy_ #[26, 9] 3 #[.slice (some ⟨w.heap.size, 0, none⟩) 64 64, .string ⟨#[83, 65, 67, 82]⟩]).run Try.prog w2 = .ok (goInt 4) w3 ∧ Own w3 w.heap.size 5 (some ⟨w.heap.size, 0, none⟩) 64 (Sto.flagB.map by8) ∧ Ext w w3 := by
  have hcc : ∀ j, j < 4 → (w2.cell? ⟨w.heap.size, 0 + j, none⟩).isSome = true := fun j hj => by
    obtain ⟨gb, o, he, -, hc⟩ := hO2.sl.open_ (by decide)
    injection he with he
    injection he with he1 he2
    subst he1 he2
    rw [hc j (by rw [List.length_replicate]; omega)]
    rfl
  have hff : ∀ j, j < 4 → w2.frozen? ⟨w.heap.size, 0 + j, none⟩ = false := fun j hj => by
    obtain ⟨F, hA, -⟩ := hO2.arr
    exact hA.frozen _
  have hcp := run_copy_string (P := Try.prog) w2 26 9 3 5 w.heap.size 0 64 64 ⟨#[83, 65, 67, 82]⟩ Try.under_bs (run_sizeOf_of Try.sz8) (by decide) hcc hff
  have hK : OwnK w2 w.heap.size 5 1 (some ⟨w.heap.size, 0, none⟩) 64 64 ((List.replicate 64 (default : B8)).map by8) := hO2
  have hK2 := hK.over 0 ([83#8, 65#8, 67#8, 82#8].map by8) (by simp)
  exact ⟨_, hcp, hK2, upd_new (setCells_upd _ _ _ _) hU2 (fun k hk => by have : k = w.heap.size := hk; omega)⟩
set_option maxRecDepth 100000 in
set_option maxHeartbeats 4000000 in
theorem sflag_any (w : World) : Calls Try.prog 49 #[] w fun e w' => ∃ A c, e = .returned (.slice A 64 c) ∧ Own w' w.heap.size 5 A c (Sto.flagB.map by8) ∧ Ext w w' := by
  go_enter Try.func49, Try.ntmps49
  go_wp2_with (first
    | (at_make; go_must (refine wpList_mk _ _ _ Try.el8 rfl rfl 64 rfl rfl rfl rfl (by omega) (by unfold maxLen; omega) by8 rfl rfl (B := w.heap.size) (Nat.le_refl _) ?_); rintro g2 w2 hO2 rfl hU2; obtain ⟨w3, hcp, hO3, hE3⟩ := flag_copy hO2 hU2; have Hcp := hide hcp; have HO3 := hide hO3; have HE3 := hide hE3; clear hcp hO3 hE3)
    | (refine wpList_copy_run rfl rfl rfl rfl Hcp.out ?_))
  go_ret
  exact ⟨_, _, rfl, HO3.out, HE3.out⟩
theorem Try.info_f64b : (Try.prog.info? 83).map (·.size) = some 64 := by kernel_rfl
set_option maxRecDepth 100000 in
set_option maxHeartbeats 4000000 in
theorem sup_any (A : Option Addr) (c : Nat) (bs : List B8) (w : World) (hS : Sl by8 w A bs) (hl : bs.length = 64) :
    Calls Try.prog 55 #[.slice A 64 c] w fun e w' => e = .returned (.bool (decide (bs ≠ zero64B))) ∧ w' = w := by
  obtain ⟨gb, o, rfl, -, hc⟩ := hS.open_ (by omega)
  have hR : World.rangeAt w gb o (bs.map by8) := fun j v hj => by
    rw [List.getElem?_map] at hj
    have hj2 : j < bs.length := by
      rcases Nat.lt_or_ge j bs.length with h | h
      · exact h
      · rw [List.getElem?_eq_none h] at hj; cases hj
    rw [hc j hj2]
    rw [List.getElem?_eq_getElem hj2] at hj
    rw [gat_lt hj2]
    exact hj
  have hl2 : (bs.map by8).length = 64 := by rw [List.length_map, hl]
  obtain ⟨vs, hvs⟩ : ∃ vs, vs = bs.map by8 := ⟨_, rfl⟩
  rw [← hvs] at hR hl2
  have HR := hide hR
  have Hl2 := hide hl2
  have Hvs := hide hvs
  clear hR hl2 hvs hc hS
  have har := run_arrayAt (P := Try.prog) (w := w) 83 5 64 (some ⟨gb, o, none⟩) 64 c Try.underlying83 (Nat.le_refl _)
  have heq : (Op.equalIn 10000 83 (.agg vs.toArray) (.agg #[.int .u8 0, .int .u8 0, .int .u8 0, .int .u8 0, .int .u8 0, .int .u8 0, .int .u8 0, .int .u8 0, .int .u8 0, .int .u8 0, .int .u8 0, .int .u8 0, .int .u8 0, .int .u8 0, .int .u8 0, .int .u8 0, .int .u8 0, .int .u8 0, .int .u8 0, .int .u8 0, .int .u8 0, .int .u8 0, .int .u8 0, .int .u8 0, .int .u8 0, .int .u8 0, .int .u8 0, .int .u8 0, .int .u8 0, .int .u8 0, .int .u8 0, .int .u8 0, .int .u8 0, .int .u8 0, .int .u8 0, .int .u8 0, .int .u8 0, .int .u8 0, .int .u8 0, .int .u8 0, .int .u8 0, .int .u8 0, .int .u8 0, .int .u8 0, .int .u8 0, .int .u8 0, .int .u8 0, .int .u8 0, .int .u8 0, .int .u8 0, .int .u8 0, .int .u8 0, .int .u8 0, .int .u8 0, .int .u8 0, .int .u8 0, .int .u8 0, .int .u8 0, .int .u8 0, .int .u8 0, .int .u8 0, .int .u8 0, .int .u8 0, .int .u8 0])).run Try.prog w = .ok (decide (bs = zero64B)) w := by
    rw [Hvs.out]
    exact run_equalIn_b8 w 9998 83 5 64 Try.underlying83 Try.underlying5 (run_sizeOf_of Try.sz8) bs zero64B hl rfl
  go_enter Try.func55, Try.ntmps55
  go_wp2_with (refine wpList_load_mid rfl _ _ rfl gb o rfl vs _ HR.out Try.underlying83 rfl (by rw [Hl2.out]; exact Try.info_f64b) ?_)
  go_ret
  refine ⟨?_, rfl⟩
  by_cases h : bs = zero64B <;> simp [h] <;> rfl
end Go.Proofs.Ytejjofjhcgdedaa
