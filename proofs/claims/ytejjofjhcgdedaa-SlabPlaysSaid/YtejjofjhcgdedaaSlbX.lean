/- The document's slab, walked: inked, asked, stroke, Set, New. -/
import Derived.Test.YtejjofjhcgdedaaSlbW
import Derived.Test.YtejjofjhcgdedaaSlbL
namespace Go.Proofs.Ytejjofjhcgdedaa
set_option linter.unusedSimpArgs false
set_option linter.unusedVariables false
open Go.RowKit
open Sha
attribute [local go_sem] steady steadyUpon Cls same_cell anyW
attribute [local irreducible] wpHead wpTree wpHeadR
section
variable {w : World} {B g gb : Nat} {A : Option Addr} {c N : Nat} {d : Dsl}
/-- a place as it is told -/
def fndI (l : List (Int × List B8)) (n : Int) : Int := match fnd l n with | some i => (i : Int) | none => -1
set_option maxRecDepth 100000 in
set_option maxHeartbeats 2000000 in
theorem rsinked_any (n : Int) (h : DslW w B g gb A c N d) :
    Calls Try.prog 42 #[.pointer (some ⟨g, 0, none⟩), .int .i64 n] w fun e w' => e = .returned (.int .i64 (fndI d.inks n)) ∧ w' = w := by
  obtain ⟨m, hm⟩ : ∃ m, m = d.inks.length := ⟨_, rfl⟩
  have hm4 : m ≤ 5000 := by rw [hm]; exact h.few
  have q1 : w.cell? ⟨g, 1, none⟩ = some (.slice A m c) := by rw [hm]; exact h.cells.at 1 rfl
  obtain ⟨r, hr⟩ : ∃ r, r = fndI d.inks n := ⟨_, rfl⟩
  rw [← hr]
  have Hr := hide hr
  have Hm := hide hm
  have H := hide h
  clear hr hm h
  go_enter Try.func42, Try.ntmps42
  go_wp2_with fail
  go_loopw [11] (fun i wr => ∃ k : Nat, k ≤ m ∧ i = .int .i64 (k : Int) ∧ Hid (∀ j, j < k → (gat d.inks j).1 ≠ n) ∧ wr = w) (fun i _ => m - (Go.RowKit.intOf i).toNat)
  case atStart => exact ⟨0, Nat.zero_le _, rfl, hide (fun j hj => absurd hj (by omega)), rfl⟩
  case round =>
    obtain ⟨k, hk, rfl, Hn, rfl⟩ := hrel
    by_cases hlt : k < m
    · have hltI : (k : Int) < (m : Int) := by omega
      obtain ⟨gi, rfl, hc, -, -⟩ := H.out.ink (i := k) (by rw [← Hm.out]; exact hlt)
      obtain ⟨z, hz⟩ : ∃ z, z = (gat d.inks k).1 := ⟨_, rfl⟩
      rw [← hz] at hc
      have Hz := hide hz
      clear hz
      by_cases hzn : z = n
      · subst hzn
        obtain rfl : r = (k : Int) := by rw [Hr.out]; unfold fndI; rw [fnd_at (by rw [← Hm.out]; exact hlt) Hz.out.symm Hn.out]
        go_wp2_with fail
        go_ret
        exact ⟨rfl, rfl⟩
      · have hznb : (z == n) = false := beq_eq_false_iff_ne.2 hzn
        go_wp2_with fail
        go_roundw
        case rel => exact ⟨k + 1, by omega, by go_num, hide (fun j hj => by
          rcases Nat.lt_or_ge j k with h1 | h1
          · exact Hn.out j h1
          · obtain rfl : j = k := by omega
            rw [← Hz.out]; exact hzn), by first | rfl | trivial⟩
        case measure => simp [Go.RowKit.intOf]; omega
    · obtain rfl : k = m := by omega
      have hltI : ¬ (k : Int) < (k : Int) := by omega
      obtain rfl : r = -1 := by rw [Hr.out]; unfold fndI; rw [fnd_off (by rw [← Hm.out]; exact Hn.out)]
      go_wp2_with fail
      go_ret
      exact ⟨rfl, rfl⟩
set_option maxRecDepth 100000 in
set_option maxHeartbeats 2000000 in
theorem rsasked_any (n : Int) (h : DslW w B g gb A c N d) :
    Calls Try.prog 40 #[.pointer (some ⟨g, 0, none⟩), .int .i64 n] w fun e w' => e = .returned (.int .i64 (d.asked n)) ∧ w' = w := by
  have q0 : w.cell? ⟨g, 0, none⟩ = some (.slice (some ⟨gb, 0, none⟩) N N) := h.cells.at 0 rfl
  have q2 : w.cell? ⟨g, 2, none⟩ = some (.int .i64 d.supply) := h.cells.at 2 rfl
  have hN4 := h.max
  have hlen := h.len
  obtain ⟨s, hs⟩ : ∃ s, s = d.supply := ⟨_, rfl⟩
  obtain ⟨r, hr⟩ : ∃ r, r = d.asked n := ⟨_, rfl⟩
  rw [← hr]
  rw [← hs] at q2
  have hr2 : r = if s = 0 then 12 else if n < 0 ∨ (N : Int) ≤ n then 2 else 0 := by rw [hr, hs]; unfold Dsl.asked; rw [hlen]
  have Hr := hide hr2
  clear hr hs h hlen hr2
  go_enter Try.func40, Try.ntmps40
  by_cases h0 : s = 0
  · obtain rfl : r = 12 := by rw [Hr.out, if_pos h0]
    subst h0
    go_wp2_with fail
    go_ret
    exact ⟨rfl, rfl⟩
  have h0b : (s == 0) = false := beq_eq_false_iff_ne.2 h0
  by_cases h1 : n < 0
  · obtain rfl : r = 2 := by rw [Hr.out, if_neg h0, if_pos (.inl h1)]
    go_wp2_with fail
    go_ret
    exact ⟨rfl, rfl⟩
  by_cases h2 : (N : Int) ≤ n
  · obtain rfl : r = 2 := by rw [Hr.out, if_neg h0, if_pos (.inr h2)]
    go_wp2_with fail
    go_ret
    exact ⟨rfl, rfl⟩
  · obtain rfl : r = 0 := by rw [Hr.out, if_neg h0, if_neg (by omega)]
    go_wp2_with fail
    go_ret
    exact ⟨rfl, rfl⟩
set_option maxRecDepth 100000 in
set_option maxHeartbeats 2000000 in
theorem rsstroke_any (h : DslW w B g gb A c N d) (hm : d.made < 4611686018427387904) :
    Calls Try.prog 41 #[.pointer (some ⟨g, 0, none⟩)] w fun e w' => e = .returned (.tuple #[]) ∧ DslW w' B g gb A c N d.stroke ∧ Upd (only g) w w' := by
  have q2 : w.cell? ⟨g, 2, none⟩ = some (.int .i64 d.supply) := h.cells.at 2 rfl
  have q3 : w.cell? ⟨g, 3, none⟩ = some (.int .i64 d.made) := h.cells.at 3 rfl
  have z2 := h.cells.frozen 2
  have z3 := h.cells.frozen 3
  have hsup := h.sup
  have hmad := h.mad
  have hne : ¬ only g gb := fun e => blk_ne h.cells h.burnt (by decide) (show g = gb from e.symm)
  have hT : ∀ k, inA A k → ¬ only g k := fun k hk e => by have e : k = g := e; subst e; exact ownK_blk h.inks h.cells (by decide) hk
  have H := hide h
  have hst : d.stroke = ⟨d.burnt, d.inks, if 0 < d.supply then d.supply - 1 else d.supply, d.made + 1⟩ := rfl
  obtain ⟨s, hs⟩ : ∃ s, s = d.supply := ⟨_, rfl⟩
  obtain ⟨m, hm'⟩ : ∃ m, m = d.made := ⟨_, rfl⟩
  rw [← hs, ← hm'] at hst
  rw [← hs] at q2 hsup
  rw [← hm'] at q3 hmad hm
  have hC : Blk w g 52 #[.slice (some ⟨gb, 0, none⟩) N N, .slice A d.inks.length c, .int .i64 s, .int .i64 m] := by rw [hs, hm']; exact h.cells
  have c1 := hC.set 3 (.int .i64 (m + 1))
  have c2 := c1.set 2 (.int .i64 (s - 1))
  have HC1 := hide c1
  have HC2 := hide c2
  have Hst := hide hst
  clear h hst hs hm' hC c1 c2
  go_enter Try.func41, Try.ntmps41
  have hU1 : Upd (only g) w (w.setCell ⟨g, 3, none⟩ (.int .i64 (m + 1))) := (Upd.refl (only g) _).setCell (T := only g) (p := ⟨g, 3, none⟩) (.inl rfl) _
  have hU2 : Upd (only g) w ((w.setCell ⟨g, 3, none⟩ (.int .i64 (m + 1))).setCell ⟨g, 2, none⟩ (.int .i64 (s - 1))) := hU1.setCell (T := only g) (p := ⟨g, 2, none⟩) (.inl rfl) _
  have HU1 := hide hU1
  have HU2 := hide hU2
  clear hU1 hU2
  by_cases h0 : 0 < s
  · go_wp2_with fail
    go_end0
    refine ⟨rfl, ?_, HU2.out⟩
    rw [Hst.out, if_pos h0]
    exact H.out.setC (A' := A) (c' := c) (d' := ⟨d.burnt, d.inks, s - 1, m + 1⟩) HC2.out HU2.out hne rfl (H.out.inks.upd HU2.out hT) H.out.i64 H.out.few ⟨by show -1 ≤ s - 1; omega, by show s - 1 ≤ 9223372036854775807; omega⟩ ⟨by show 0 ≤ m + 1; omega, by show m + 1 ≤ 4611686018427387904; omega⟩
  · go_wp2_with fail
    go_end0
    refine ⟨rfl, ?_, HU1.out⟩
    rw [Hst.out, if_neg (by omega)]
    exact H.out.setC (A' := A) (c' := c) (d' := ⟨d.burnt, d.inks, s, m + 1⟩) HC1.out HU1.out hne rfl (H.out.inks.upd HU1.out hT) H.out.i64 H.out.few hsup ⟨by show 0 ≤ m + 1; omega, by show m + 1 ≤ 4611686018427387904; omega⟩
set_option maxRecDepth 100000 in
set_option maxHeartbeats 2000000 in
theorem rsset_any (n : Int) (hn : n ≤ 9223372036854775807) (h : DslW w B g gb A c N d) :
    Calls Try.prog 24 #[.pointer (some ⟨g, 0, none⟩), .int .i64 n] w fun e w' => e = .returned (.tuple #[]) ∧ DslW w' B g gb A c N (d.set n) ∧ Upd (only g) w w' := by
  have q2 : w.cell? ⟨g, 2, none⟩ = some (.int .i64 d.supply) := h.cells.at 2 rfl
  have z2 := h.cells.frozen 2
  have hne : ¬ only g gb := fun e => blk_ne h.cells h.burnt (by decide) (show g = gb from e.symm)
  have hT : ∀ k, inA A k → ¬ only g k := fun k hk e => by have e : k = g := e; subst e; exact ownK_blk h.inks h.cells (by decide) hk
  have H := hide h
  obtain ⟨s, hs⟩ : ∃ s, s = d.supply := ⟨_, rfl⟩
  rw [← hs] at q2
  obtain ⟨y, hy⟩ : ∃ y, y = max n (-1) := ⟨_, rfl⟩
  have hyb : -1 ≤ y ∧ y ≤ 9223372036854775807 := by omega
  have hU : Upd (only g) w (w.setCell ⟨g, 2, none⟩ (.int .i64 y)) := (Upd.refl (only g) _).setCell (T := only g) (p := ⟨g, 2, none⟩) (.inl rfl) _
  have HC := hide (h.cells.set 2 (.int .i64 y))
  have HU := hide hU
  have Hs := hide hs
  have Hy := hide hy
  clear h hs hU
  go_enter Try.func24, Try.ntmps24
  by_cases h0 : s = 0
  · have hst : Hid (d.set n = d) := hide (by unfold Dsl.set; rw [if_pos (Hs.out.symm.trans h0)])
    subst h0
    clear hy
    go_wp2_with fail
    go_end0
    exact ⟨rfl, by rw [hst.out]; exact H.out, Upd.refl _ _⟩
  · have hst : Hid (d.set n = ⟨d.burnt, d.inks, y, d.made⟩) := hide (by unfold Dsl.set; rw [if_neg (fun e => h0 (Hs.out.trans e)), hy])
    have h0b : (s != 0) = true := by simpa using h0
    by_cases h1 : n < -1
    · obtain rfl : y = -1 := by omega
      clear hy
      go_wp2_with fail
      go_end0
      exact ⟨rfl, by rw [hst.out]; exact H.out.setC (A' := A) (c' := c) (d' := ⟨d.burnt, d.inks, -1, d.made⟩) HC.out HU.out hne rfl (H.out.inks.upd HU.out hT) H.out.i64 H.out.few hyb H.out.mad, HU.out⟩
    · obtain rfl : y = n := by omega
      clear hy
      go_wp2_with fail
      go_end0
      exact ⟨rfl, by rw [hst.out]; exact H.out.setC (A' := A) (c' := c) (d' := ⟨d.burnt, d.inks, y, d.made⟩) HC.out HU.out hne rfl (H.out.inks.upd HU.out hT) H.out.i64 H.out.few hyb H.out.mad, HU.out⟩
end
/-! ### New -/
theorem Try.n_elB64 : ElemK Try.prog 49 83 (.agg (Array.replicate 64 (.int .u8 0))) 64 64 := ⟨by kernel_rfl, by kernel_rfl, by simp [Value.cells], by decide⟩
def Dsl.new (n : Nat) : Dsl := ⟨List.replicate n zero64B, [], -1, 0⟩
theorem zero64_len : zero64B.length = 64 := by unfold zero64B; simp
theorem zeros_flat (n : Nat) : (List.replicate n zero64B).flatMap bV = List.replicate (n * 64) (.int .u8 0) := by
  induction n with
  | zero => rfl
  | succ n ih =>
    rw [List.replicate_succ, List.flatMap_cons, ih, Nat.succ_mul, Nat.add_comm, ← List.replicate_append_replicate]
    congr 1
set_option maxRecDepth 100000 in
set_option maxHeartbeats 2000000 in
theorem rsnew_any (m : Nat) (hm : m ≤ 4096) (w : World) :
    Calls Try.prog 20 #[.int .i64 (m : Int)] w fun e w' => ∃ g gb, e = .returned (.pointer (some ⟨g, 0, none⟩)) ∧ DslW w' w.heap.size g gb none 0 m (Dsl.new m) ∧ Ext w w' := by
  go_enter Try.func20, Try.ntmps20
  obtain ⟨i, hi, hz, hsz, hb⟩ := info_parts Try.n_elB64.info
  go_wp2_with (at_make; go_must (refine wpList_make_full _ rfl _ _ _ rfl w.heap.size _ i _ 64 Try.n_elB64.under hi hz hsz _ _ _ _ m rfl rfl rfl rfl (by rw [hb]; omega) (by unfold maxLen; omega) (by simp [Value.cells]) ?_); intro w1 hown hgr)
  have hU : Ext w w1 := ⟨hgr.os, hgr.tape, hgr.output, hgr.size, fun k hk _ => hgr.block k hk (by simp)⟩
  have hA : Blk w1 w.heap.size 83 ((List.replicate m zero64B).flatMap bV).toArray := by
    obtain ⟨-, h⟩ := hown
    rcases h with ⟨h, -⟩ | ⟨g', cap, cur, hv, -, hg, -, -, hcs, htake⟩
    · injection h with h; cases h
    · injection hv with hA _ hcap
      injection hA with hA
      injection hA with hA
      subst hcap
      subst hA
      unfold Blk
      rw [hg]
      have hcur : cur = (List.replicate (m * 64) (Value.int .u8 0)).toArray := by
        have hfull : cur.toList = (madeCells (Value.agg (Array.replicate 64 (.int .u8 0))).cells (m * 64)).toList := by
          rw [← htake, List.take_of_length_le (by simp [hcs])]
        apply Array.ext
        · rw [hcs]; simp
        · intro j h1 h2
          have h3 : cur[j]? = (madeCells (Value.agg (Array.replicate 64 (.int .u8 0))).cells (m * 64))[j]? := by
            rw [← Array.getElem?_toList, hfull, Array.getElem?_toList]
          have hj : j < m * 64 := by rw [← hcs]; exact h1
          have h4 : (madeCells (Value.agg (Array.replicate 64 (.int .u8 0))).cells (m * 64))[j]? = some (.int .u8 0) := by
            have hc : (Value.agg (Array.replicate 64 (.int .u8 0))).cells = Array.replicate 64 (.int .u8 0) := rfl
            rw [hc]
            unfold madeCells
            have hm2 : j % 64 < 64 := Nat.mod_lt _ (by decide)
            simp [hj, hm2]
          rw [h4, Array.getElem?_eq_getElem h1] at h3
          injection h3 with h3
          rw [h3]
          simp
      rw [zeros_flat, hcur]
  go_wp2_with fail
  go_ret
  refine ⟨w1.heap.size, w.heap.size, rfl, ⟨Blk.new _ _ _, hA.ext ((Upd.refl _ _).alloc _), OwnK.nil, by unfold Dsl.new; simp, fun b hb => ?_, fun p hp => absurd hp (by simp [Dsl.new]), hU.size, Nat.le_refl _, hm, by simp [Dsl.new], ⟨by show (-1 : Int) ≤ -1; decide, by show (-1 : Int) ≤ 9223372036854775807; decide⟩, ⟨by show (0 : Int) ≤ 0; decide, by show (0 : Int) ≤ 4611686018427387904; decide⟩⟩, hU.alloc _⟩
  have : b = zero64B := List.eq_of_mem_replicate hb
  rw [this]
  exact zero64_len
end Go.Proofs.Ytejjofjhcgdedaa
