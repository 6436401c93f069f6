/- A slab, walked: Supply, New. -/
import Derived.Test.YtejjofjhcgdedaaSlbB
import Derived.Test.YtejjofjhcgdedaaOwk
namespace Go.Proofs.Ytejjofjhcgdedaa
set_option linter.unusedSimpArgs false
set_option linter.unusedVariables false
open Go.RowKit
open Sha
attribute [local go_sem] steady steadyUpon Cls same_cell
attribute [local irreducible] wpHead wpTree wpHeadR
/-- so many strokes from now on -/
def Slv.supplied (x : Slv) (n : Int) : Slv := if x.out then x else ⟨x.secs, decide (n < 0), if n < 0 then 0 else n, x.strokes⟩
set_option maxRecDepth 100000 in
set_option maxHeartbeats 1000000 in
theorem ssupply_any (B : Nat) (D : Nat → Prop) (g gl : Nat) (f : Nat → Value) (x : Slv) (n : Int) (w : World) (h : Slb w B D g gl f x) :
    Calls Try.prog 9 #[.pointer (some ⟨g, 0, none⟩), .int .i64 n] w fun e w' => e = .returned (.tuple #[]) ∧ Slb w' B D g gl f (x.supplied n) ∧ Upd (only g) w w' := by
  have H := hide h
  have q1 : w.cell? ⟨g, 1, none⟩ = some (.bool x.endless) := h.cells.at 1 rfl
  have q2 : w.cell? ⟨g, 2, none⟩ = some (.int .i64 x.supply) := h.cells.at 2 rfl
  have f1 := h.cells.frozen 1
  have f2 := h.cells.frozen 2
  clear h
  go_enter Try.func9, Try.ntmps9
  go_wp2_with fail
  refine (sout_any B D g gl f x w H.out).mono ?_
  rintro e w1 ⟨rfl, rfl⟩
  cases hout : x.out with
  | true =>
    have HY : Hid (Slb w1 B D g gl f (x.supplied n)) := hide (by unfold Slv.supplied; rw [hout]; exact H.out)
    clear hout
    go_wp2_with fail
    refine bodyPost_ret (results_none rfl _ _ _) rfl ?_
    exact ⟨rfl, HY.out, Upd.refl _ _⟩
  | false =>
    by_cases hn : n < 0
    · have hmax : max n 0 = 0 := by omega
      have hyx : x.supplied n = ⟨x.secs, true, 0, x.strokes⟩ := by unfold Slv.supplied; rw [hout, decide_eq_true hn, if_pos hn]; rfl
      have hU : Upd (only g) w1 ((w1.setCell ⟨g, 1, none⟩ (.bool true)).setCell ⟨g, 2, none⟩ (.int .i64 0)) := ((Upd.refl _ _).setCell (T := only g) (p := ⟨g, 1, none⟩) (.inl rfl) _).setCell (T := only g) (p := ⟨g, 2, none⟩) (.inl rfl) _
      have hS : Slb ((w1.setCell ⟨g, 1, none⟩ (.bool true)).setCell ⟨g, 2, none⟩ (.int .i64 0)) B D g gl f (x.supplied n) := by
        rw [hyx]
        exact H.out.set rfl hU ((H.out.cells.set 1 _).set 2 _)
      have HS := hide hS
      have HU := hide hU
      clear hS hU hyx hout
      go_wp2_with fail
      go_end0
      exact ⟨rfl, HS.out, HU.out⟩
    · have hmax : max n 0 = n := by omega
      have hyx : x.supplied n = ⟨x.secs, false, n, x.strokes⟩ := by unfold Slv.supplied; rw [hout, decide_eq_false hn, if_neg hn]; rfl
      have hU : Upd (only g) w1 ((w1.setCell ⟨g, 1, none⟩ (.bool false)).setCell ⟨g, 2, none⟩ (.int .i64 n)) := ((Upd.refl _ _).setCell (T := only g) (p := ⟨g, 1, none⟩) (.inl rfl) _).setCell (T := only g) (p := ⟨g, 2, none⟩) (.inl rfl) _
      have hS : Slb ((w1.setCell ⟨g, 1, none⟩ (.bool false)).setCell ⟨g, 2, none⟩ (.int .i64 n)) B D g gl f (x.supplied n) := by
        rw [hyx]
        exact H.out.set rfl hU ((H.out.cells.set 1 _).set 2 _)
      have HS := hide hS
      have HU := hide hU
      clear hS hU hyx hout
      go_wp2_with fail
      go_end0
      rw [show decide (n < 0) = false from decide_eq_false (by omega)]
      exact ⟨rfl, HS.out, HU.out⟩
/-- a new slab -/
def Slv.new (n : Nat) : Slv := ⟨List.replicate n (none, none), true, 0, 0⟩
theorem gat_rep {n i : Nat} (h : i < n) : gat (List.replicate n ((none, none) : Option (List B8) × Option (List B8))) i = (none, none) := by
  rw [gat_lt (by simpa using h), List.getElem_replicate]
def RetNew (w : World) (n : Int) (e : Ending) (w' : World) : Prop := Ext w w' ∧ ((n < 4 ∨ 4096 < n) → e = .returned (.pointer none)) ∧ (4 ≤ n ∧ n ≤ 4096 → ∃ g gl, e = .returned (.pointer (some ⟨g, 0, none⟩)) ∧ Slb w' w.heap.size (fun _ => False) g gl (fun _ => .slice none 0 0) (Slv.new n.toNat))
theorem Try.n_elS2 : ElemK Try.prog 69 74 (.agg #[.slice none 0 0, .slice none 0 0]) 2 48 := ⟨by kernel_rfl, by kernel_rfl, rfl, by decide⟩
set_option maxRecDepth 100000 in
set_option maxHeartbeats 1000000 in
theorem snew_any (n : Int) (w : World) :
    Calls Try.prog 6 #[.int .i64 n] w (RetNew w n) := by
  go_enter Try.func6, Try.ntmps6
  by_cases h1 : n < 4
  · go_wp2_with fail
    go_ret
    exact ⟨Upd.refl _ _, fun _ => rfl, fun h => absurd h (by omega)⟩
  by_cases h2 : 4096 < n
  · go_wp2_with fail
    go_ret
    exact ⟨Upd.refl _ _, fun _ => rfl, fun h => absurd h (by omega)⟩
  obtain ⟨m, rfl⟩ : ∃ m : Nat, n = (m : Int) := ⟨n.toNat, by omega⟩
  have hm : m ≤ 4096 := by omega
  obtain ⟨i, hi, hz, hsz, hb⟩ := info_parts Try.n_elS2.info
  go_wp2_with (at_make; go_must (refine wpList_make_full _ rfl _ _ _ rfl w.heap.size _ i _ 2 Try.n_elS2.under hi hz hsz _ _ _ _ m rfl rfl rfl rfl (by rw [hb]; omega) (by unfold maxLen; omega) (by simp) ?_); intro w1 hown hgr)
  have hU : Ext w w1 := ⟨hgr.os, hgr.tape, hgr.output, hgr.size, fun k hk _ => hgr.block k hk (by simp)⟩
  have hA : Arr w1 w.heap.size 74 (2 * m) (fun _ => .slice none 0 0) := by
    obtain ⟨-, h⟩ := hown
    rcases h with ⟨h, -⟩ | ⟨g', cap, cur, hv, -, hg, -, -, hcs, htake⟩
    · injection h with h; cases h
    · injection hv with hA _ hcap
      injection hA with hA
      injection hA with hA
      subst hcap
      subst hA
      unfold Arr
      rw [hg]
      have hcur : cur = Array.ofFn fun i : Fin (2 * m) => Value.slice none 0 0 := by
        have hfull : cur.toList = (madeCells (Value.agg #[.slice none 0 0, .slice none 0 0]).cells (m * 2)).toList := by
          rw [← htake, List.take_of_length_le (by simp [hcs])]
        apply Array.ext
        · rw [hcs]; simp; omega
        · intro j h1 h2
          have h3 : cur[j]? = (madeCells (Value.agg #[.slice none 0 0, .slice none 0 0]).cells (m * 2))[j]? := by
            rw [← Array.getElem?_toList, hfull, Array.getElem?_toList]
          have hj : j < m * 2 := by rw [← hcs]; exact h1
          have h4 : (madeCells (Value.agg #[.slice none 0 0, .slice none 0 0]).cells (m * 2))[j]? = some (.slice none 0 0) := by
            have hc : (Value.agg #[.slice none 0 0, .slice none 0 0]).cells = #[.slice none 0 0, .slice none 0 0] := rfl
            rw [hc]
            unfold madeCells
            rcases Nat.mod_two_eq_zero_or_one j with hm2 | hm2 <;> simp [hj, hm2]
          rw [h4, Array.getElem?_eq_getElem h1] at h3
          injection h3 with h3
          rw [h3]
          simp
      rw [hcur]
  go_wp2_with fail
  go_ret
  refine ⟨hU.alloc _, fun h => by omega, fun _ => ⟨w1.heap.size, w.heap.size, rfl, ?_⟩⟩
  have hs : (Slv.new (m : Int).toNat).secs.length = m := by unfold Slv.new; simp
  refine ⟨?_, ?_, fun i hi => ?_, fun i hi => ?_, fun k hk => hk.elim, hU.size, Nat.le_refl _, ?_, by rw [hs]; exact hm⟩
  · rw [hs]; exact Blk.new _ _ _
  · rw [hs]; exact hA.alloc _
  · rw [hs] at hi; have e : gat (Slv.new (m : Int).toNat).secs i = (none, none) := gat_rep (by simpa using hi); rw [e]; rfl
  · rw [hs] at hi; have e : gat (Slv.new (m : Int).toNat).secs i = (none, none) := gat_rep (by simpa using hi); rw [e]; rfl
  · have := hA.lt; omega
end Go.Proofs.Ytejjofjhcgdedaa
