/- Claims: few, chain, walked. -/
import Derived.Test.YtpffdpieciaooaaCertH
namespace Go.Proofs.Ytpffdpieciaooaa
set_option linter.unusedSimpArgs false
set_option linter.unusedVariables false
open Go.RowKit
open Nt Pk
attribute [local go_sem] steady steadyUpon Cls same_cell anyW
attribute [local irreducible] wpHead wpTree wpHeadR
/-- A claim: where its primes lie, and what it says. -/
structure Cl where
  N : Nat
  b : Nat
  P : Option Addr
  n : Nat
  c : Nat
  ps : List Nat
instance : Inhabited Cl := ⟨⟨0, 0, none, 0, 0, []⟩⟩
def ClOk (w : World) (x : Cl) : Prop := Hid (W64 x.N) ∧ Hid (W64 x.b) ∧ Hid (∀ j, j < x.ps.length → W64 (gat x.ps j)) ∧ Sl e64 w x.P x.ps ∧ x.ps.length = x.n ∧ x.n ≤ x.c ∧ x.c ≤ maxLen
theorem ClOk.ext {w w' : World} {x : Cl} (h : ClOk w x) (hu : Ext w w') : ClOk w' x := ⟨h.1, h.2.1, h.2.2.1, h.2.2.2.1.ext hu, h.2.2.2.2⟩
/-- A slice of claims. -/
def ClL (w : World) (A : Option Addr) (cs : List Cl) : Prop := ∀ i, i < cs.length → ∃ b o, A = some ⟨b, o, none⟩ ∧ w.cell? ⟨b, o + i * 3, none⟩ = some (.int .u64 ((gat cs i).N : Int)) ∧ w.cell? ⟨b, o + i * 3 + 1, none⟩ = some (.int .u64 ((gat cs i).b : Int)) ∧
  w.cell? ⟨b, o + i * 3 + 2, none⟩ = some (.slice (gat cs i).P (gat cs i).n (gat cs i).c) ∧ ClOk w (gat cs i)
theorem ClL.ext {w w' : World} {A : Option Addr} {cs : List Cl} (h : ClL w A cs) (hu : Ext w w') : ClL w' A cs := fun i hi => by
  obtain ⟨b, o, h0, h1, h2, h3, h4⟩ := h i hi
  exact ⟨b, o, h0, hu.cellv h1, hu.cellv h2, hu.cellv h3, h4.ext hu⟩
def fewC (cs : List Cl) : Bool := decide (cs.length ≤ 8) && !(cs.any fun x => decide (40 < x.n))
set_option maxRecDepth 100000 in
set_option maxHeartbeats 2000000 in
theorem cfew_any (A : Option Addr) (n c : Nat) (cs : List Cl) (w : World) (hL : ClL w A cs) (hn : cs.length = n) (hn2 : n ≤ 9223372036854775807) :
    Calls Try.prog 41 #[.slice A n c] w fun e w' => e = .returned (.bool (fewC cs)) ∧ Ext w w' := by
  obtain ⟨t, ht⟩ : ∃ t, t = fewC cs := ⟨_, rfl⟩
  rw [← ht]
  have Ht := hide ht
  have Hn := hide hn
  have HL := hide hL
  clear ht hn hL
  go_enter Try.func41, Try.ntmps41
  by_cases h8 : 8 < n
  · have h8I : (8 : Int) < (n : Int) := by omega
    obtain rfl : t = false := Ht.out.trans (by unfold fewC; rw [decide_eq_false (by rw [Hn.out]; omega)]; rfl)
    go_wp2_with fail
    go_ret
    exact ⟨rfl, Upd.refl _ _⟩
  have h8I : ¬ (8 : Int) < (n : Int) := by omega
  go_wp2_with fail
  go_loopw [10] (fun i wr => ∃ j : Nat, j ≤ n ∧ i = .int .i64 (j : Int) ∧ ((cs.take j).any fun x => decide (40 < x.n)) = false ∧ Ext w wr) (fun i _ => n - (intOf i).toNat)
  case atStart => exact ⟨0, Nat.zero_le _, rfl, rfl, Upd.refl _ _⟩
  case round =>
    obtain ⟨j, hj, rfl, hno, hE⟩ := hrel
    have Hno := hide hno
    clear hno
    by_cases hlt : j < n
    · have hltI : (j : Int) < (n : Int) := by omega
      obtain ⟨b, o, rfl, q0, q1, q2, hok⟩ := (HL.out.ext hE) j (by rw [Hn.out]; exact hlt)
      obtain ⟨x, hx⟩ : ∃ x, x = gat cs j := ⟨_, rfl⟩
      rw [← hx] at q0 q1 q2
      obtain ⟨k, hk⟩ : ∃ k, k = x.n := ⟨_, rfl⟩
      rw [← hk] at q2
      have Hx := hide hx
      have Hk := hide hk
      clear hx hk hok
      by_cases h40 : 40 < k
      · have h40I : (40 : Int) < (k : Int) := by omega
        obtain rfl : t = false := Ht.out.trans (by
          have hh : (cs.any fun x => decide (40 < x.n)) = true := any_at (fun x : Cl => decide (40 < x.n)) (k := j) (by rw [Hn.out]; exact hlt) (by show decide (40 < (gat cs j).n) = true; rw [← Hx.out, ← Hk.out]; exact decide_eq_true h40)
          unfold fewC
          rw [hh, Bool.not_true, Bool.and_false])
        go_wp2_with fail
        go_ret
        exact ⟨rfl, hE.alloc _⟩
      · have h40I : ¬ (40 : Int) < (k : Int) := by omega
        go_wp2_with fail
        go_roundw
        case rel => exact ⟨j + 1, by omega, by go_num, by rw [any_take _ (by rw [Hn.out]; exact hlt), Hno.out, ← Hx.out, ← Hk.out]; simpa using h40, hE.alloc _⟩
        case measure => simp [intOf]; omega
    · obtain rfl : j = n := by omega
      have hltI : ¬ (j : Int) < (j : Int) := by omega
      obtain rfl : t = true := Ht.out.trans (by
        have := Hno.out
        rw [List.take_of_length_le (by rw [Hn.out]; omega)] at this
        unfold fewC
        rw [this, decide_eq_true (by rw [Hn.out]; omega)]
        rfl)
      go_wp2_with fail
      go_ret
      exact ⟨rfl, hE⟩
abbrev Tr3 := Tri × Tri × Tri
def v3 (m : Tr3) : List Value := [svt m.1, svt m.2.1, svt m.2.2]
def flat3 (ms : List Tr3) : List Value := ms.flatMap v3
theorem flat3_at : ∀ (ms : List Tr3) (i : Nat), i < ms.length → (flat3 ms)[i * 3]? = some (svt (gat ms i).1) ∧ (flat3 ms)[i * 3 + 1]? = some (svt (gat ms i).2.1) ∧ (flat3 ms)[i * 3 + 2]? = some (svt (gat ms i).2.2)
  | [], i, h => absurd h (by simp)
  | m :: ms, 0, _ => ⟨rfl, rfl, rfl⟩
  | m :: ms, i + 1, h => by
    have := flat3_at ms i (by simpa using h)
    have e : ∀ k, (flat3 (m :: ms))[(i + 1) * 3 + k]? = (flat3 ms)[i * 3 + k]? := fun k => by
      show (v3 m ++ flat3 ms)[(i + 1) * 3 + k]? = _
      rw [List.getElem?_append_right (by show 3 ≤ _; omega)]
      congr 1
      show (i + 1) * 3 + k - 3 = _
      omega
    have e0 := e 0
    rw [Nat.add_zero, Nat.add_zero] at e0
    rw [e0, e 1, e 2]
    exact this
theorem flat3_length (ms : List Tr3) : (flat3 ms).length = ms.length * 3 := by
  induction ms with
  | nil => rfl
  | cons m ms ih =>
    show (v3 m ++ flat3 ms).length = _
    rw [List.length_append, ih, List.length_cons]
    show 3 + _ = _
    omega
theorem flat3_snoc (ms : List Tr3) (m : Tr3) : flat3 (ms ++ [m]) = flat3 ms ++ v3 m := by unfold flat3; simp
/-- the step that a claim says -/
def Cl.st (x : Cl) : St := ⟨x.N, x.b, x.ps⟩
end Go.Proofs.Ytpffdpieciaooaa
