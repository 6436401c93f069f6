/- The document's constants, walked: Constants, First. -/
import Derived.Test.YtjdodhooojjldaaShaO
namespace Go.Proofs.Ytjdodhooojjldaa
set_option linter.unusedSimpArgs false
set_option linter.unusedVariables false
open Go.RowKit
open Sha
theorem gat_map' {α β : Type} [Inhabited α] [Inhabited β] (f : α → β) (l : List α) {i : Nat} (h : i < l.length) : gat (l.map f) i = f (gat l i) := by
  rw [gat_lt (by simpa using h), gat_lt h, List.getElem_map]
theorem prime_gat {i : Nat} (h : i < 64) : nthP 400 2 i = gat primesN i := by
  rw [← primes_all, gat_map' _ _ (by simpa using h), gat_lt (by simpa using h), List.getElem_range]
theorem cube_at {i : Nat} (h : i < 64) : rootL (nthP 400 2 i) 3 37 % H32 = (kk i).toNat := by
  have h1 : gat (primesN.map (fun p => rootF p 3 37 68719476736 0 % H32)) i = gat (K.map BitVec.toNat) i := by rw [cubes]
  rw [gat_map' _ _ (show i < primesN.length from h), gat_map' _ _ (show i < K.length from h), ← prime_gat h] at h1
  have h2 := rootF_eq (nthP 400 2 i) 3 37 0
  rw [show bitR 0 = 68719476736 from rfl, show rootL (nthP 400 2 i) 3 0 = 0 from rfl, Nat.zero_add] at h2
  rw [← h2]
  exact h1
theorem square_at {i : Nat} (h : i < 8) : rootL (nthP 400 2 i) 2 37 % H32 = (first i).toNat := by
  have h1 : gat ((primesN.take 8).map (fun p => rootF p 2 37 68719476736 0 % H32)) i = gat (F.map BitVec.toNat) i := by rw [squares]
  rw [gat_map' _ _ (show i < (primesN.take 8).length from h), gat_map' _ _ (show i < F.length from h), gat_take (by omega), ← prime_gat (by omega)] at h1
  have h2 := rootF_eq (nthP 400 2 i) 2 37 0
  rw [show bitR 0 = 68719476736 from rfl, show rootL (nthP 400 2 i) 2 0 = 0 from rfl, Nat.zero_add] at h2
  rw [← h2]
  exact h1
attribute [local go_sem] steady steadyUpon Cls same_cell
attribute [local irreducible] wpHead wpTree wpHeadR fitsL rootL nthP rootF
theorem results_arr1 {P : Program} {fn : Func} {p1 : Tmp} {T1 : TypeId} (h : fn.results = #[.cell p1 T1]) (tmps : Array Value) (w : World) {g1 t1 n1 : Nat} {f1 : Nat → Value} {e1 : TypeId}
    (hp1 : tmps.getD p1 undef = .pointer (some ⟨g1, 0, none⟩)) (h1 : Arr w g1 t1 n1 f1)
    (hu1 : P.underlying T1 = some (.array n1 e1)) (hi1 : (P.info? T1).map (·.size) = some n1) :
    (results fn tmps).run P w = .ok (.agg (Array.ofFn fun i : Fin n1 => f1 i)) w := by
  have hp1' : tmps[p1]?.getD undef = .pointer (some ⟨g1, 0, none⟩) := by simpa using hp1
  simp [results, h, hp1', asAddr, run_loadVar_row w g1 t1 T1 _ (0, 0) _ h1 hu1 rfl (by simpa using hi1)]
def part (f : Nat → BitVec 32) (i : Nat) : Nat → Value := fun j => if j < i then by32 (f j) else by32 0
theorem part_set (f : Nat → BitVec 32) (i j : Nat) : put1 (part f i) i (by32 (f i)) j = part f (i + 1) j := by
  unfold put1 part
  by_cases h : j = i
  · subst h; rw [if_pos rfl, if_pos (by omega)]
  · rw [if_neg h]
    by_cases h2 : j < i
    · rw [if_pos h2, if_pos (by omega)]
    · rw [if_neg h2, if_neg (by omega)]
theorem by32_of {x : BitVec 32} {n : Nat} (h : n = x.toNat) : Value.int .u32 (n : Int) = by32 x := by subst h; rfl
-- Constants function, 64 count, 3 exponent, kk the constants, cube_at fact, zero64 zero, Try.sz_64 sz, Try.under_64 under
set_option maxRecDepth 100000 in
set_option maxHeartbeats 2000000 in
theorem Constants_any (w : World) : Calls Try.prog 22 #[] w fun en w' => en = .returned (.agg (Array.ofFn fun i : Fin 64 => by32 (kk i))) ∧ Ext w w' := by
  go_enter Try.func22, Try.ntmps22
  go_upto_region 2 with fail
  refine name_wq (fun W hW => ?_)
  have hA0 : Arr W w.heap.size 33 64 (fun _ => by32 0) := by rw [hW]; exact (Arr.new w _ _ 64 (fun _ => by32 0) rfl zero64).alloc _
  have hA1 : Arr W (w.heap.size + 1) 33 64 (part kk 0) := by rw [hW]; exact (Arr.new1 w _ _ _ 64 (fun _ => by32 0) rfl zero64).congr (fun j _ => by unfold part; rw [if_neg (by omega)])
  have hE : Ext w W := by rw [hW]; exact ((Upd.refl _ _).alloc _).alloc _
  have HA0 := hide hA0
  have HA1 := hide hA1
  have HE := hide hE
  clear hW hA0 hA1 hE
  go_wp2_with fail
  go_loopw [2] (fun i wr => ∃ k : Nat, k ≤ 64 ∧ i = .int .i64 (k : Int) ∧ Arr wr (w.heap.size + 1) 33 64 (part kk k) ∧ Upd (only (w.heap.size + 1)) W wr) (fun i _ => 64 - (intOf i).toNat)
  case atStart => exact ⟨0, Nat.zero_le _, rfl, HA1.out, Upd.refl _ _⟩
  case round =>
    obtain ⟨k, hk, rfl, hA, hU⟩ := hrel
    have HA := hide hA
    have HU := hide hU
    clear hA hU
    by_cases hlt : k < 64
    · have hltI : (k : Int) < 64 := by omega
      go_wp2_with fail
      refine (prime_any k wr (by omega)).mono ?_
      rintro en w1 ⟨rfl, hU1⟩
      go_wp2_with fail
      refine (root_any (nthP 400 2 k) 3 w1 (by omega)).mono ?_
      rintro en w2 ⟨rfl, hU2⟩
      rw [cube_at hlt]
      have hA2 := (HA.out.ext hU1).ext hU2
      have ck : w2.cell? ⟨w.heap.size + 1, k, none⟩ = some (part kk k k) := hA2.cell hlt
      have fk := hA2.frozen k
      have hA3 := (hA2.set k (by32 (kk k))).congr (f' := part kk (k + 1)) (fun j _ => part_set kk k j)
      have hU3 : Upd (only (w.heap.size + 1)) W (w2.setCell ⟨w.heap.size + 1, k, none⟩ (by32 (kk k))) := ((HU.out.ext hU1).ext hU2).setCell (T := only (w.heap.size + 1)) (p := ⟨w.heap.size + 1, k, none⟩) (.inl rfl) _
      have HA3 := hide hA3
      have HU3 := hide hU3
      clear hA2 hA3 hU3 hU1 hU2
      go_wp2_with fail
      go_roundw
      case rel => exact ⟨k + 1, hlt, by go_num, HA3.out, HU3.out⟩
      case measure => simp [intOf]; omega
    · obtain rfl : k = 64 := by omega
      have hltI : ¬ ((64 : Nat) : Int) < 64 := by omega
      have hE2 : Ext w wr := upd_new HU.out HE.out (fun i hi => by have : i = w.heap.size + 1 := hi; omega)
      have hA0 := HA0.out.upd HU.out (fun h => by have : w.heap.size = w.heap.size + 1 := h; omega)
      have hf : part kk 64 = part kk 64 := rfl
      have hA4 := HA.out.congr (f' := fun i => by32 (kk i)) (fun j hj => by unfold part; rw [if_pos hj])
      clear hf hlt
      go_wp2_with (first
        | (refine wpList_load_arr rfl rfl rfl hA4 Try.under_64 Try.sz_64 ?_)
        | (refine wpList_store_whole (n := 64) (f := fun i => by32 (kk i)) rfl rfl rfl rfl (fun _ => rfl) hA0 Try.sz_64 ?_; intro w3 hA5 hU5))
      refine bodyPost_ret (results_arr1 rfl _ _ rfl hA5 Try.under_64 Try.sz_64) rfl ⟨rfl, ?_⟩
      exact upd_new hU5 hE2 (fun i hi => Nat.le_of_eq hi.symm)
-- First function, 8 count, 2 exponent, first the constants, square_at fact, zero8 zero, Try.sz_t8 sz, Try.under_t8 under
set_option maxRecDepth 100000 in
set_option maxHeartbeats 2000000 in
theorem First_any (w : World) : Calls Try.prog 23 #[] w fun en w' => en = .returned (.agg (Array.ofFn fun i : Fin 8 => by32 (first i))) ∧ Ext w w' := by
  go_enter Try.func23, Try.ntmps23
  go_upto_region 2 with fail
  refine name_wq (fun W hW => ?_)
  have hA0 : Arr W w.heap.size 34 8 (fun _ => by32 0) := by rw [hW]; exact (Arr.new w _ _ 8 (fun _ => by32 0) rfl zero8).alloc _
  have hA1 : Arr W (w.heap.size + 1) 34 8 (part first 0) := by rw [hW]; exact (Arr.new1 w _ _ _ 8 (fun _ => by32 0) rfl zero8).congr (fun j _ => by unfold part; rw [if_neg (by omega)])
  have hE : Ext w W := by rw [hW]; exact ((Upd.refl _ _).alloc _).alloc _
  have HA0 := hide hA0
  have HA1 := hide hA1
  have HE := hide hE
  clear hW hA0 hA1 hE
  go_wp2_with fail
  go_loopw [2] (fun i wr => ∃ k : Nat, k ≤ 8 ∧ i = .int .i64 (k : Int) ∧ Arr wr (w.heap.size + 1) 34 8 (part first k) ∧ Upd (only (w.heap.size + 1)) W wr) (fun i _ => 8 - (intOf i).toNat)
  case atStart => exact ⟨0, Nat.zero_le _, rfl, HA1.out, Upd.refl _ _⟩
  case round =>
    obtain ⟨k, hk, rfl, hA, hU⟩ := hrel
    have HA := hide hA
    have HU := hide hU
    clear hA hU
    by_cases hlt : k < 8
    · have hltI : (k : Int) < 8 := by omega
      go_wp2_with fail
      refine (prime_any k wr (by omega)).mono ?_
      rintro en w1 ⟨rfl, hU1⟩
      go_wp2_with fail
      refine (root_any (nthP 400 2 k) 2 w1 (by omega)).mono ?_
      rintro en w2 ⟨rfl, hU2⟩
      rw [square_at hlt]
      have hA2 := (HA.out.ext hU1).ext hU2
      have ck : w2.cell? ⟨w.heap.size + 1, k, none⟩ = some (part first k k) := hA2.cell hlt
      have fk := hA2.frozen k
      have hA3 := (hA2.set k (by32 (first k))).congr (f' := part first (k + 1)) (fun j _ => part_set first k j)
      have hU3 : Upd (only (w.heap.size + 1)) W (w2.setCell ⟨w.heap.size + 1, k, none⟩ (by32 (first k))) := ((HU.out.ext hU1).ext hU2).setCell (T := only (w.heap.size + 1)) (p := ⟨w.heap.size + 1, k, none⟩) (.inl rfl) _
      have HA3 := hide hA3
      have HU3 := hide hU3
      clear hA2 hA3 hU3 hU1 hU2
      go_wp2_with fail
      go_roundw
      case rel => exact ⟨k + 1, hlt, by go_num, HA3.out, HU3.out⟩
      case measure => simp [intOf]; omega
    · obtain rfl : k = 8 := by omega
      have hltI : ¬ ((8 : Nat) : Int) < 8 := by omega
      have hE2 : Ext w wr := upd_new HU.out HE.out (fun i hi => by have : i = w.heap.size + 1 := hi; omega)
      have hA0 := HA0.out.upd HU.out (fun h => by have : w.heap.size = w.heap.size + 1 := h; omega)
      have hf : part first 8 = part first 8 := rfl
      have hA4 := HA.out.congr (f' := fun i => by32 (first i)) (fun j hj => by unfold part; rw [if_pos hj])
      clear hf hlt
      go_wp2_with (first
        | (refine wpList_load_arr rfl rfl rfl hA4 Try.under_t8 Try.sz_t8 ?_)
        | (refine wpList_store_whole (n := 8) (f := fun i => by32 (first i)) rfl rfl rfl rfl (fun _ => rfl) hA0 Try.sz_t8 ?_; intro w3 hA5 hU5))
      refine bodyPost_ret (results_arr1 rfl _ _ rfl hA5 Try.under_t8 Try.sz_t8) rfl ⟨rfl, ?_⟩
      exact upd_new hU5 hE2 (fun i hi => Nat.le_of_eq hi.symm)
end Go.Proofs.Ytjdodhooojjldaa
