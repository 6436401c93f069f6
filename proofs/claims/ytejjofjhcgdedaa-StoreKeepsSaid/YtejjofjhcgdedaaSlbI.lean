/- A slab, walked: Inked. -/
import Derived.Test.YtejjofjhcgdedaaSlbG
namespace Go.Proofs.Ytejjofjhcgdedaa
set_option linter.unusedSimpArgs false
set_option linter.unusedVariables false
open Go.RowKit
open Sha
attribute [local go_sem] steady steadyUpon Cls same_cell anyW
attribute [local irreducible] wpHead wpTree wpHeadR
def eI (x : Int) : Value := .int .i64 x
theorem oneI (x : Int) : (eI x).oneCell' = true := rfl
theorem Try.elI : ElemI Try.prog 36 3 (.int .i64 0) 8 := ⟨by kernel_rfl, by kernel_rfl, rfl⟩
/-- the inked ones of the first k sectors -/
def inkedK (x : Slv) (k : Nat) : List Int := ((List.range k).filter fun i => (gat x.secs i).2.isSome).map Int.ofNat
theorem inkedK_succ (x : Slv) (k : Nat) : inkedK x (k + 1) = if (gat x.secs k).2.isSome then inkedK x k ++ [(k : Int)] else inkedK x k := by
  unfold inkedK
  rw [List.range_succ, List.filter_append, List.map_append]
  by_cases h : (gat x.secs k).2.isSome = true
  · rw [if_pos h]; simp [h]
  · rw [if_neg h]; simp [h]
theorem inkedK_len (x : Slv) (k : Nat) : (inkedK x k).length ≤ k := by
  unfold inkedK
  rw [List.length_map]
  exact Nat.le_trans (List.length_filter_le _ _) (by simp)
theorem Sl.at_new {α : Type} [Inhabited α] (f : α → Value) {w : World} {t : TypeId} (xs : List α) {b : Nat} (hb : w.heap.size = b) {cs : Array Value} (hc : (xs.map f).toArray = cs) : Sl f (w.alloc (.cells cs t)) (some ⟨b, 0, none⟩) xs := by
  subst hb hc
  exact Sl.new f w t xs
def RetInked (w : World) (n : Nat) (e : Ending) (w' : World) : Prop := ∃ A c, e = .returned (.slice A n c) ∧ Ext w w'
set_option maxRecDepth 100000 in
set_option maxHeartbeats 2000000 in
theorem sinked_any (B : Nat) (D : Nat → Prop) (g gl : Nat) (f : Nat → Value) (x : Slv) (w : World) (h : Slb w B D g gl f x) :
    Calls Try.prog 15 #[.pointer (some ⟨g, 0, none⟩)] w (RetInked w (inkedK x x.secs.length).length) := by
  have H := hide h
  obtain ⟨N, hN⟩ : ∃ N, N = x.secs.length := ⟨_, rfl⟩
  have q0 : w.cell? ⟨g, 0, none⟩ = some (.slice (some ⟨gl, 0, none⟩) N N) := by rw [hN]; exact h.cells.at 0 rfl
  have hN4 : N ≤ 4096 := by rw [hN]; exact h.len
  rw [← hN]
  have HN := hide hN
  obtain ⟨r, hr⟩ : ∃ r, r = (inkedK x N).length := ⟨_, rfl⟩
  rw [← hr]
  have Hr := hide hr
  clear h hN hr
  go_enter Try.func15, Try.ntmps15
  go_wp2_with fail
  go_loopw [13, 3] (fun i v wr => ∃ (k : Nat) (A : Option Addr) (n c : Nat), k ≤ N ∧ i = .int .i64 (k : Int) ∧ v = .slice A n c ∧ (inkedK x k).length = n ∧ n ≤ k ∧ Own wr w.heap.size 3 A c ((inkedK x k).map eI) ∧ Ext w wr) (fun i _ _ => N - (intOf i).toNat)
  case atStart => exact ⟨0, none, 0, 0, Nat.zero_le _, rfl, rfl, rfl, Nat.le_refl _, Own.nil, Upd.refl _ _⟩
  case round =>
    obtain ⟨k, A, n, c, hk, rfl, rfl, hn, hnk, hO, hU⟩ := hrel
    have HO := hide hO
    have HU := hide hU
    have Hn := hide hn
    clear hO hU hn
    by_cases hlt : k < N
    case neg =>
      obtain rfl : k = N := by omega
      have hltI : ¬ ((k : Int) < (k : Int)) := by omega
      go_wp2_with fail
      go_ret
      exact ⟨A, c, by rw [Hr.out, Hn.out]; rfl, HU.out⟩
    have hltI : (k : Int) < (N : Int) := by omega
    have HS := hide (H.out.ext HU.out)
    have HNN := HN.out
    have r0 : wr.cell? ⟨gl, k * 2, none⟩ = some (f (2 * k)) := by rw [Nat.mul_comm k 2]; exact HS.out.rows.cell (by omega)
    have r1 : wr.cell? ⟨gl, k * 2 + 1, none⟩ = some (f (2 * k + 1)) := by rw [Nat.mul_comm k 2]; exact HS.out.rows.cell (by omega)
    have K0 := HS.out.burnt k (by omega)
    have K1 := hide (HS.out.ink k (by omega))
    clear HNN
    obtain ⟨⟨bu, ik⟩, hs⟩ : ∃ s, s = gat x.secs k := ⟨_, rfl⟩
    have Hs := hide hs
    obtain ⟨A0, n0, c0, hb0⟩ := K0.slice
    rw [hb0] at r0
    clear hs K0 hb0
    cases ik with
    | none =>
      have k1 : f (2 * k + 1) = .slice none 0 0 := by have := K1.out; rw [← Hs.out] at this; exact this
      rw [k1] at r1
      have hn2 : Hid (inkedK x (k + 1) = inkedK x k) := hide (by rw [inkedK_succ, ← Hs.out]; rfl)
      clear k1
      go_wp2_with fail
      go_roundw
      case rel => exact ⟨k + 1, A, n, c, by omega, by go_num, rfl, by rw [hn2.out]; exact Hn.out, by omega, by rw [hn2.out]; exact HO.out.ext (by repeat (first | (with_reducible exact Upd.refl _ _) | (with_reducible assumption) | (refine Upd.setCell ?_ (.inr (by first | exact Nat.le_refl _ | (dsimp only; omega) | (simp; done) | (simp; omega))) _) | (with_reducible refine Upd.alloc ?_ _) | (with_reducible refine Upd.drew ?_) | (with_reducible refine Upd.trans ?_ (by with_reducible assumption)))), HU.out.trans (by repeat (first | (with_reducible exact Upd.refl _ _) | (with_reducible assumption) | (refine Upd.setCell ?_ (.inr (by first | exact Nat.le_refl _ | (dsimp only; omega) | (simp; done) | (simp; omega))) _) | (with_reducible refine Upd.alloc ?_ _) | (with_reducible refine Upd.drew ?_) | (with_reducible refine Upd.trans ?_ (by with_reducible assumption))))⟩
      case measure => simp [intOf]; omega
    | some b =>
      obtain ⟨bb, bc, k1, -⟩ : ∃ bb c, f (2 * k + 1) = .slice (some ⟨bb, 0, none⟩) 64 c ∧ b.length = 64 ∧ 64 ≤ c ∧ c ≤ maxLen ∧ D bb ∧ Sl by8 wr (some ⟨bb, 0, none⟩) b := by have := K1.out; rw [← Hs.out] at this; exact this
      rw [k1] at r1
      have hn2 : Hid (inkedK x (k + 1) = inkedK x k ++ [(k : Int)]) := hide (by rw [inkedK_succ, ← Hs.out]; rfl)
      clear k1
      go_wp2_with (at_builtin; go_must (refine wpList_apd eI oneI Try.elI (inkedK x k) [(k : Int)] _ (n + 1) rfl (by simp [Hn.out]) (by omega) (by unfold maxLen; omega) rfl rfl rfl Hn.out (B := w.heap.size) (HO.out.ext (by repeat (first | (with_reducible exact Upd.refl _ _) | (with_reducible assumption) | (refine Upd.setCell ?_ (.inr (by first | exact Nat.le_refl _ | (dsimp only; omega) | (simp; done) | (simp; omega))) _) | (with_reducible refine Upd.alloc ?_ _) | (with_reducible refine Upd.drew ?_) | (with_reducible refine Upd.trans ?_ (by with_reducible assumption))))) rfl rfl (Sl.at_new eI [(k : Int)] (by simp) rfl) (by have := HU.out.size; simp; omega) ?_); intro A5 c5 w5 hO5 hU5 hin5)
      have hE5 : Ext w w5 := by
        refine upd_new hU5 (HU.out.trans (by repeat (first | (with_reducible exact Upd.refl _ _) | (with_reducible assumption) | (refine Upd.setCell ?_ (.inr (by first | exact Nat.le_refl _ | (dsimp only; omega) | (simp; done) | (simp; omega))) _) | (with_reducible refine Upd.alloc ?_ _) | (with_reducible refine Upd.drew ?_) | (with_reducible refine Upd.trans ?_ (by with_reducible assumption))))) (fun j hj => ?_)
        exact (HO.out.in_ hj).1
      have HO5 := hide hO5
      have HE5 := hide hE5
      clear hO5 hU5 hin5 hE5
      go_wp2_with fail
      go_roundw
      case rel => exact ⟨k + 1, A5, n + 1, c5, by omega, by go_num, rfl, by rw [hn2.out]; simp [Hn.out], by omega, by rw [hn2.out]; exact HO5.out, HE5.out⟩
      case measure => simp [intOf]; omega
end Go.Proofs.Ytejjofjhcgdedaa
