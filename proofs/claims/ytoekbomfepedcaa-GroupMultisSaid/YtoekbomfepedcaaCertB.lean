/- Lists of numbers; what is known, walked. -/
import Derived.Test.YtoekbomfepedcaaCertA
namespace Go.Proofs.Ytoekbomfepedcaa
set_option linter.unusedSimpArgs false
set_option linter.unusedVariables false
open Go.RowKit
open Nt
attribute [local go_sem] steady steadyUpon Cls same_cell anyW
attribute [local irreducible] wpHead wpTree wpHeadR

abbrev Tri := Option Addr × Nat × Nat
def svt (t : Tri) : Value := .slice t.1 t.2.1 t.2.2
/-- A slice of numbers. -/
def NatL (w : World) (A : Option Addr) (ns : List Nat) : Prop := ∃ ts : List Tri, ts.length = ns.length ∧ Sl svt w A ts ∧ ∀ i, i < ns.length → NatV w (.agg #[svt (gat ts i)]) (gat ns i)
theorem NatL.ext {w w' : World} {A : Option Addr} {ns : List Nat} (h : NatL w A ns) (hu : Ext w w') : NatL w' A ns := by
  obtain ⟨ts, h1, h2, h3⟩ := h
  exact ⟨ts, h1, h2.ext hu, fun i hi => (h3 i hi).ext hu⟩
theorem NatL.nil {w : World} {A : Option Addr} : NatL w A [] := ⟨[], rfl, Sl.nil, fun i hi => absurd hi (by simp)⟩
theorem NatL.take {w : World} {A : Option Addr} {ns : List Nat} (h : NatL w A ns) (k : Nat) : NatL w A (ns.take k) := by
  obtain ⟨ts, h1, h2, h3⟩ := h
  refine ⟨ts.take k, by rw [List.length_take, List.length_take, h1], h2.take k, fun i hi => ?_⟩
  have hk : i < k ∧ i < ns.length := by rw [List.length_take] at hi; omega
  rw [gat_take hk.1, gat_take hk.1]
  exact h3 i hk.2
theorem NatL.at {w : World} {A : Option Addr} {ns : List Nat} (h : NatL w A ns) {i : Nat} (hi : i < ns.length) : ∃ b o B l c, A = some ⟨b, o, none⟩ ∧ w.cell? ⟨b, o + i, none⟩ = some (.slice B l c) ∧ NatV w (.agg #[.slice B l c]) (gat ns i) := by
  obtain ⟨ts, h1, h2, h3⟩ := h
  obtain ⟨b, o, rfl, -, hc⟩ := h2.open_ (by omega)
  exact ⟨b, o, _, _, _, rfl, hc i (by omega), h3 i hi⟩
/-- all of a list fit -/
def FitL (k : Nat) (ns : List Nat) : Prop := ∀ i, i < ns.length → Fit k (gat ns i)
def hasB (ns : List Nat) (n : Nat) : Bool := ns.any fun x => x == n
def knownB (ns : List Nat) (n : Nat) : Bool := hasB ns n || smallB n
theorem hasB_take {ns : List Nat} {n k : Nat} (h : k < ns.length) : hasB (ns.take (k + 1)) n = (hasB (ns.take k) n || gat ns k == n) := by
  unfold hasB
  rw [List.take_succ_eq_append_getElem h, List.any_append, gat_lt h]
  simp
theorem hasB_yes {ns : List Nat} {n k : Nat} (h : k < ns.length) (e : gat ns k = n) : hasB ns n = true := by
  unfold hasB
  rw [List.any_eq_true]
  exact ⟨ns[k], List.getElem_mem h, by rw [← e, gat_lt h]; exact beq_self_eq_true _⟩
theorem cmpI_zero {a b : Nat} : cmpI a b = 0 ↔ a = b := by
  unfold cmpI
  split
  · constructor
    · intro h; omega
    · intro h; omega
  · split <;> simp [*]
set_option maxRecDepth 100000 in
set_option maxHeartbeats 2000000 in
theorem cknown_any (v : Value) (n k : Nat) (A : Option Addr) (m c : Nat) (ns : List Nat) (w : World) (hV : NatV w v n) (hF : Fit k n) (hk : k ≤ 1000000) (hL : NatL w A ns) (hFL : FitL k ns) (hm : ns.length = m) (hm2 : m ≤ 1000000) :
    Calls Try.prog 134 #[v, .slice A m c] w fun e w' => e = .returned (.bool (knownB ns n)) ∧ Ext w w' := by
  obtain ⟨A0, la, ca, xs, rfl, -⟩ := hV.open_
  obtain ⟨t, ht⟩ : ∃ t, t = knownB ns n := ⟨_, rfl⟩
  rw [← ht]
  have Ht := hide ht
  have Hm := hide hm
  have HL := hide hL
  clear ht hm hL
  go_enter Try.func134, Try.ntmps134
  go_wp2_with fail
  go_loopw [9] (fun i wr => ∃ j : Nat, j ≤ m ∧ i = .int .i64 (j : Int) ∧ hasB (ns.take j) n = false ∧ Box wr w.heap.size 33 (.slice A0 la ca) ∧ Ext w wr) (fun i _ => m - (intOf i).toNat)
  case atStart => exact ⟨0, Nat.zero_le _, rfl, rfl, Box.new _ _ _, (Upd.refl _ _).alloc _⟩
  case round =>
    obtain ⟨j, hj, rfl, hno, b2, hE⟩ := hrel
    have Hno := hide hno
    clear hno
    by_cases hlt : j < m
    · have hltI : (j : Int) < (m : Int) := by omega
      obtain ⟨b, o, B, l, d, rfl, hc, hVj⟩ := (HL.out.ext hE).at (i := j) (by rw [Hm.out]; exact hlt)
      obtain ⟨x, hx⟩ : ∃ x, x = gat ns j := ⟨_, rfl⟩
      have hFx : Fit k x := by rw [hx]; exact hFL j (by rw [Hm.out]; exact hlt)
      rw [← hx] at hVj
      have Hx := hide hx
      have k2 := (b2.alloc (.cells #[.slice B l d] 33)).cell
      clear hx
      go_wp2_with fail
      refine name_c (fun W hW => ?_)
      have hEW : Ext wr W := by rw [hW]; exact (Upd.refl _ _).alloc _
      clear hW k2 hc
      refine (cmp_any _ _ x n k _ (hVj.ext hEW) (hV.ext (hE.trans hEW)) hFx hF hk).mono ?_
      rintro e w2 ⟨rfl, hU⟩
      have hE2 := (hE.trans hEW).trans hU
      have b22 := b2.ext (hEW.trans hU)
      clear hEW hU hE b2 hVj
      by_cases hxn : x = n
      · rw [cmpI_zero.2 hxn]
        obtain rfl : t = true := Ht.out.trans (by unfold knownB; rw [hasB_yes (k := j) (by rw [Hm.out]; exact hlt) (by rw [← Hx.out]; exact hxn)]; rfl)
        clear hxn
        go_wp2_with fail
        go_ret
        exact ⟨rfl, hE2⟩
      · have hz : ¬ cmpI x n = 0 := fun h => hxn (cmpI_zero.1 h)
        generalize cmpI x n = z at hz ⊢
        have hz2 : (z == 0) = false := beq_eq_false_iff_ne.2 hz
        go_wp2_with fail
        go_roundw
        case rel => exact ⟨j + 1, by omega, by go_num, by rw [hasB_take (by rw [Hm.out]; exact hlt), Hno.out, ← Hx.out]; simpa using hxn, b22, hE2⟩
        case measure => simp [intOf]; omega
    · obtain rfl : j = m := by omega
      have hltI : ¬ (j : Int) < (j : Int) := by omega
      have k2 := b2.cell
      have hno : hasB ns n = false := by have := Hno.out; rwa [List.take_of_length_le (by rw [Hm.out]; omega)] at this
      go_wp2_with fail
      refine (csmall_any _ n _ (hV.ext hE)).mono ?_
      rintro e w2 ⟨rfl, hU⟩
      obtain rfl : t = smallB n := Ht.out.trans (by unfold knownB; rw [hno]; rfl)
      go_wp2_with fail
      go_ret
      exact ⟨rfl, hE.trans hU⟩
end Go.Proofs.Ytoekbomfepedcaa
