/- The document's numbers, rows of truths, walked: Trim, at, Cmp, Shift. -/
import Derived.Test.YtekpjdfgpggcnaaNatQ
namespace Go.Proofs.Ytekpjdfgpggcnaa
set_option linter.unusedSimpArgs false
set_option linter.unusedVariables false
open Go.RowKit
open Nt
attribute [local go_sem] steady steadyUpon Cls same_cell

/-- A number of the document's is handed back; nothing old has turned. -/
def RetR (w : World) (n : Nat) (e : Ending) (w' : World) : Prop := ∃ A l c, e = .returned (.slice A l c) ∧ RefV w' (.slice A l c) n ∧ Ext w w'
/-- A number of the document's is handed back, where it lay. -/
def RetT (w : World) (A : Option Addr) (c n : Nat) (e : Ending) (w' : World) : Prop := ∃ l, e = .returned (.slice A l c) ∧ RefV w' (.slice A l c) n ∧ Ext w w'
/-- A number of the document's is handed back, in new memory. -/
def RetN1 (w : World) (n : Nat) (e : Ending) (w' : World) : Prop := ∃ A l c, e = .returned (.slice A l c) ∧ RefV w' (.slice A l c) n ∧ Ext w w' ∧ ∀ k, inA A k → w.heap.size ≤ k
theorem RefV.upd {w w' : World} {A : Option Addr} {l c n : Nat} {T : Nat → Prop} (h : RefV w (.slice A l c) n) (hu : Upd T w w') (hT : ∀ k, inA A k → ¬ T k) : RefV w' (.slice A l c) n := by
  obtain ⟨A', c', xs, e, h2, h3, h4, h5⟩ := h
  cases e
  exact ⟨A, c, xs, rfl, h2, h3, h4.upd hu (fun b o hb => hT b (by rw [hb]; simp [inA])), h5⟩
theorem Try.n_el1 : ElemI Try.prog 31 4 (.bool false) 1 := ⟨by kernel_rfl, by kernel_rfl, rfl⟩
theorem one1 (x : Bool) : (Value.bool x).oneCell' = true := rfl
theorem d1_true : d1 true = 1 := rfl
theorem d1_false : d1 false = 0 := rfl
theorem d1_le (x : Bool) : d1 x ≤ 1 := by cases x <;> decide
theorem dig1_out {xs : List Bool} {i : Nat} (h : xs.length ≤ i) : dig d1 xs i = 0 := dig_out rfl h

set_option maxRecDepth 100000 in
set_option maxHeartbeats 1000000 in
theorem rtrim_at (A : Option Addr) (n c : Nat) (xs : List Bool) (w : World) (hn : xs.length = n) (hc : n ≤ c) (hm : c ≤ maxLen) (hS : Sl Value.bool w A xs) :
    Calls Try.prog 63 #[.slice A n c] w (RetT w A c (numOf 2 d1 xs)) := by
  have hm' := hm
  unfold maxLen at hm'
  have Hn := hide hn
  have HS := hide hS
  clear hn hS
  go_enter Try.func63, Try.ntmps63
  go_wp2
  go_loop [0] (fun v => ∃ k : Nat, k ≤ n ∧ v = .slice A k c ∧ vf 2 (dig d1 xs) k = numOf 2 d1 xs) (fun v => match v with | .slice _ k _ => k | _ => 0)
  case atStart => exact ⟨n, Nat.le_refl _, rfl, by rw [← Hn.out]; rfl⟩
  case round =>
    obtain ⟨k, hk, rfl, hv⟩ := hrel
    have HV := hide hv
    clear hv
    rcases Nat.eq_zero_or_pos k with h0 | h0
    · subst h0
      go_wp2
      go_ret
      exact ⟨_, rfl, NumS.cut HS.out (Nat.zero_le _) (Nat.zero_le _) hm HV.out (.inl rfl), Upd.refl _ _⟩
    · obtain ⟨b, o, rfl, hb, hcells⟩ := HS.out.open_ (by rw [Hn.out]; omega)
      have hcell := hcells (k - 1) (by rw [Hn.out]; omega)
      obtain ⟨k, rfl⟩ : ∃ j, k = j + 1 := ⟨k - 1, by omega⟩
      simp only [Nat.add_sub_cancel] at hcell
      clear hcells
      obtain ⟨x, hx⟩ : ∃ x, gat xs k = x := ⟨_, rfl⟩
      rw [hx] at hcell
      have hxd : dig d1 xs k = d1 x := by unfold dig; rw [hx]
      have Hx := hide hxd
      clear hx hxd
      cases x with
      | false =>
        have hd1 : dig d1 xs k = 0 := Hx.out
        have hd := hide hd1
        clear hd1
        go_wp2
        go_round
        case rel => exact ⟨k, by omega, rfl, by have := HV.out; rw [vf_succ, hd.out] at this; omega⟩
        case measure => simp
      | true =>
        have hd1 : dig d1 xs k ≠ 0 := by rw [Hx.out]; decide
        have hd := hide hd1
        clear hd1
        go_wp2
        go_ret
        exact ⟨_, rfl, NumS.cut HS.out (by rw [Hn.out]; exact hk) (by omega) hm HV.out (.inr hd.out), Upd.refl _ _⟩

theorem rtrim_any (A : Option Addr) (n c : Nat) (xs : List Bool) (w : World) (hn : xs.length = n) (hc : n ≤ c) (hm : c ≤ maxLen) (hS : Sl Value.bool w A xs) :
    Calls Try.prog 63 #[.slice A n c] w (RetR w (numOf 2 d1 xs)) :=
  (rtrim_at A n c xs w hn hc hm hS).mono fun _ _ ⟨l, h1, h2, h3⟩ => ⟨A, l, c, h1, h2, h3⟩

set_option maxRecDepth 100000 in
set_option maxHeartbeats 1000000 in
theorem at_any (A : Option Addr) (l c : Nat) (xs : List Bool) (i : Nat) (w : World) (hl : xs.length = l) (hm : l ≤ 100000000) (hi : i ≤ 100000000) (hS : Sl Value.bool w A xs) :
    Calls Try.prog 64 #[.slice A l c, .int .i64 i] w fun e w' => e = .returned (.int .i64 (dig d1 xs i : Nat)) ∧ w = w' := by
  by_cases hil : i < l
  · obtain ⟨b, o, rfl, hb, hcells⟩ := hS.open_ (by omega)
    have hcell := hcells i (by omega)
    obtain ⟨x, hx⟩ : ∃ x, gat xs i = x := ⟨_, rfl⟩
    rw [hx] at hcell
    have hxd : dig d1 xs i = d1 x := by unfold dig; rw [hx]
    rw [hxd]
    clear hcells hl hx hxd
    cases x with
    | false =>
      rw [d1_false]
      go_enter Try.func64, Try.ntmps64
      go_wp2
      go_ret
      exact ⟨rfl, rfl⟩
    | true =>
      rw [d1_true]
      go_enter Try.func64, Try.ntmps64
      go_wp2
      go_ret
      exact ⟨rfl, rfl⟩
  · rw [dig1_out (xs := xs) (by omega)]
    clear hl hS
    go_enter Try.func64, Try.ntmps64
    go_wp2
    go_ret
    exact ⟨rfl, rfl⟩
end Go.Proofs.Ytekpjdfgpggcnaa
