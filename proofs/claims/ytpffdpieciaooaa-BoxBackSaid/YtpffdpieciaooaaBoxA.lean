/- Parts of bytes, and what is common to boxes: Join, Same, few, walked. -/
import Derived.Test.YtpffdpieciaooaaSli
namespace Go.Proofs.Ytpffdpieciaooaa
set_option linter.unusedSimpArgs false
set_option linter.unusedVariables false
open Go.RowKit
open Nt
attribute [local go_sem] steady steadyUpon Cls same_cell by8 by32 by64
attribute [local go_sem] xor_u8 or_u8
attribute [local irreducible] wpHead wpTree

/-- A part: where it lies, and its bytes. -/
structure Pt where
  A : Option Addr
  n : Nat
  c : Nat
  bs : List (BitVec 8)
instance : Inhabited Pt := ⟨⟨none, 0, 0, []⟩⟩
def Pt.val (p : Pt) : Value := .slice p.A p.n p.c
def Pt.ok (w : World) (p : Pt) : Prop := Sl by8 w p.A p.bs ∧ p.bs.length = p.n ∧ p.n ≤ p.c ∧ p.c ≤ maxLen
/-- A slice of slices of bytes. -/
def Pts (w : World) (A : Option Addr) (ps : List Pt) : Prop := Sl Pt.val w A ps ∧ ∀ i, i < ps.length → (gat ps i).ok w
def flat (ps : List Pt) : List (BitVec 8) := ps.flatMap Pt.bs
theorem Pts.ext {w w' : World} {A : Option Addr} {ps : List Pt} (h : Pts w A ps) (hu : Ext w w') : Pts w' A ps := ⟨h.1.ext hu, fun i hi => ⟨(h.2 i hi).1.ext hu, (h.2 i hi).2⟩⟩
theorem flat_take {ps : List Pt} {k : Nat} (h : k < ps.length) : flat (ps.take k) ++ (gat ps k).bs = flat (ps.take (k + 1)) := by
  unfold flat
  rw [List.take_succ_eq_append_getElem h, List.flatMap_append, gat_lt h]
  simp
theorem flat_le (ps : List Pt) (k : Nat) : (flat (ps.take k)).length ≤ (flat ps).length := by
  have : flat ps = flat (ps.take k) ++ flat (ps.drop k) := by unfold flat; rw [← List.flatMap_append, List.take_append_drop]
  rw [this, List.length_append]; omega

def RetS (w : World) (n : Nat) (bs : List (BitVec 8)) (e : Ending) (w' : World) : Prop :=
  ∃ A c, e = .returned (.slice A n c) ∧ Own w' w.heap.size 5 A c (bs.map by8) ∧ Ext w w'
set_option maxRecDepth 100000 in
set_option maxHeartbeats 1000000 in
theorem join_any (A : Option Addr) (n c : Nat) (ps : List Pt) (N : Nat) (w : World) (hP : Pts w A ps) (hn : ps.length = n) (hN : (flat ps).length = N) (hl : N ≤ 100000000) (hm : n ≤ maxLen) :
    Calls Try.prog 89 #[.slice A n c] w (RetS w N (flat ps)) := by
  unfold maxLen at hm
  have Hn := hide hn
  have HN := hide hN
  have HP := hide hP
  clear hn hN hP
  go_enter Try.func89, Try.ntmps89
  go_wp2_with fail
  go_loopw [9, 3, 5] (fun i v _ wx => ∃ k A1 c1 l, k ≤ n ∧ i = .int .i64 (k : Nat) ∧ v = .slice A1 l c1 ∧ (flat (ps.take k)).length = l ∧ Own wx w.heap.size 5 A1 c1 ((flat (ps.take k)).map by8) ∧ Ext w wx) (fun i _ _ _ => n - (intOf i).toNat)
  case atStart => exact ⟨0, _, _, 0, by omega, rfl, rfl, rfl, own_none8 w (Nat.le_refl _), (Upd.refl _ _).alloc _⟩
  case round =>
    obtain ⟨k, A1, c1, l, hk, rfl, rfl, hl1, hO, hU⟩ := hrel
    have hO' := hide hO
    have Hl1 := hide hl1
    clear hO hl1
    by_cases hlt : k < n
    · have hlti : (k : Int) < n := by omega
      have hd : decide ((k : Int) < n) = true := decide_eq_true (by omega)
      obtain ⟨b, o, rfl, _, hc⟩ := (HP.out.ext hU).1.open_ (by have := Hn.out; omega)
      have hck := hc k (by have := Hn.out; omega)
      unfold Pt.val at hck
      have Hok := hide ((HP.out.ext hU).2 k (by have := Hn.out; omega))
      have hft := flat_take (ps := ps) (k := k) (by have := Hn.out; omega)
      have hle := flat_le ps (k + 1)
      have hlen : (flat (ps.take (k + 1))).length = l + (gat ps k).n := by rw [← hft, List.length_append, Hl1.out, Hok.out.2.1]
      have hb : l + (gat ps k).n ≤ 100000000 := by have := HN.out; omega
      have Hft := hide hft
      have Hlen := hide hlen
      clear hc hft hle hlen
      go_wp2_with (at_builtin; go_must (refine wpList_apd by8 one8 Try.n_el8 (flat (ps.take k)) (gat ps k).bs (flat (ps.take (k + 1))) (l + (gat ps k).n) Hft.out Hlen.out (by omega) (by unfold maxLen; omega) rfl rfl rfl Hl1.out hO'.out rfl Hok.out.2.1 Hok.out.1 hU.size ?_); intro A2 c2 w2 hO2 hU2 hin2)
      go_roundw
      case rel => exact ⟨k + 1, A2, c2, _, by omega, by go_num, rfl, Hlen.out, hO2, Upd.fresh hU2 hU (fun i hi => (hO'.out.in_ hi).1)⟩
      case measure => simp [intOf]; omega
    · obtain rfl : k = n := by omega
      clear hk hlt
      have hft : flat (ps.take k) = flat ps := by rw [List.take_of_length_le (by have := Hn.out; omega)]
      rw [hft] at hO' Hl1
      obtain rfl : l = N := Hl1.out.symm.trans HN.out
      clear hft
      go_wp2_with fail
      go_ret
      exact ⟨A1, c1, rfl, hO'.out, hU⟩

def RetB1 (b : Bool) (w : World) (e : Ending) (w' : World) : Prop := e = .returned (.bool b) ∧ Ext w w'
def acc (a b : List (BitVec 8)) : Nat → BitVec 8
  | 0 => 0
  | k + 1 => acc a b k ||| (gat a k ^^^ gat b k)
theorem acc_zero (a b : List (BitVec 8)) (k : Nat) : acc a b k = 0 ↔ ∀ i, i < k → gat a i = gat b i := by
  induction k with
  | zero => simp [acc]
  | succ k ih =>
    show acc a b k ||| (gat a k ^^^ gat b k) = 0#8 ↔ _
    rw [BitVec.or_eq_zero_iff, BitVec.xor_eq_zero_iff]
    have ih' : acc a b k = 0#8 ↔ ∀ i, i < k → gat a i = gat b i := ih
    rw [ih']
    constructor
    · intro ⟨h1, h2⟩ i hi
      by_cases h : i = k
      · subst h; exact h2
      · exact h1 i (by omega)
    · intro h
      exact ⟨fun i hi => h i (by omega), h k (by omega)⟩
theorem acc_same (a b : List (BitVec 8)) (h : a.length = b.length) : (n8 (acc a b a.length) == 0) = decide (a = b) := by
  have h0 : (0 : Int) = n8 0 := rfl
  rw [h0]
  by_cases e : a = b
  · subst e
    have : acc a a a.length = 0 := (acc_zero a a _).2 (fun _ _ => rfl)
    rw [this, decide_eq_true rfl]
    exact beq_self_eq_true _
  · rw [decide_eq_false e]
    refine beq_eq_false_iff_ne.2 fun h1 => e ?_
    have h2 := (acc_zero a b _).1 (n8_inj.1 h1)
    apply List.ext_getElem h
    intro i h3 h4
    have := h2 i h3
    rwa [gat_lt h3, gat_lt h4] at this

set_option maxRecDepth 100000 in
set_option maxHeartbeats 1000000 in
theorem same_any (A : Option Addr) (n c : Nat) (a : List (BitVec 8)) (D : Option Addr) (m d : Nat) (b : List (BitVec 8)) (w : World) (hS : Sl by8 w A a) (hn : a.length = n) (hn2 : n ≤ 100000000)
    (hS' : Sl by8 w D b) (hm : b.length = m) (hm2 : m ≤ 100000000) :
    Calls Try.prog 91 #[.slice A n c, .slice D m d] w (RetB1 (decide (a = b)) w) := by
  have HS := hide hS
  have Hn := hide hn
  have HS' := hide hS'
  have Hm := hide hm
  clear hS hn hS' hm
  by_cases hnm : n = m
  · subst hnm
    have hne : ((n : Int) != (n : Int)) = false := by simp
    have hacc : (n8 (acc a b n) == 0) = decide (a = b) := by have := acc_same a b (Hn.out.trans Hm.out.symm); rwa [Hn.out] at this
    have Hacc := hide hacc
    clear hacc
    go_enter Try.func91, Try.ntmps91
    go_wp2_with fail
    go_loopw [14, 5, 6] (fun i v _ wx => ∃ k : Nat, k ≤ n ∧ i = .int .i64 k ∧ v = .int .u8 (n8 (acc a b k)) ∧ Ext w wx) (fun i _ _ _ => n - (intOf i).toNat)
    case atStart => exact ⟨0, by omega, rfl, rfl, Upd.refl _ _⟩
    case round =>
      obtain ⟨k, hk, rfl, rfl, hU⟩ := hrel
      by_cases hlt : k < n
      · have hlti : (k : Int) < n := by omega
        have hd : decide ((k : Int) < n) = true := decide_eq_true (by omega)
        obtain ⟨g, o, rfl, _, hc⟩ := (HS.out.ext hU).open_ (by have := Hn.out; omega)
        obtain ⟨g', o', rfl, _, hc'⟩ := (HS'.out.ext hU).open_ (by have := Hm.out; omega)
        have ck := hc k (by have := Hn.out; omega)
        have ck' := hc' k (by have := Hm.out; omega)
        unfold by8 at ck ck'
        clear hc hc'
        go_wp2_with fail
        refine wp_region_plan (Same _) 11 [(false,0), (false,1), (false,2), (false,3), (false,4), (false,5), (false,6), (false,7), (false,8), (false,9), (false,10)] (by kernel_rfl) (by kernel_rfl) rfl (fun hne => ?_)
        repeat (refine head_q rfl (fun K hK => ?_); have hK2 := hide hK; clear hK; go_simp; refine hK2.out _ ?_; clear hK2 K)
        refine head_nil ?_
        try simp only [List.drop_succ_cons, List.drop_zero]
        go_wp2_with fail
        go_roundw
        case rel => exact ⟨k + 1, by omega, by go_num, rfl, hU.drew⟩
        case measure => simp [intOf]; omega
      · obtain rfl : k = n := by omega
        clear hk hlt
        go_wp2_with fail
        go_ret
        exact ⟨by rw [Hacc.out]; rfl, hU⟩
  · have hne : ((n : Int) != (m : Int)) = true := by simp; omega
    have he : decide (a = b) = false := decide_eq_false (fun h => hnm (by rw [← Hn.out, ← Hm.out, h]))
    rw [he]
    clear he
    go_enter Try.func91, Try.ntmps91
    go_wp2_with fail
    go_ret
    exact ⟨rfl, Upd.refl _ _⟩

set_option maxRecDepth 100000 in
set_option maxHeartbeats 1000000 in
/-- are all parts of at most 200 bytes? -/
theorem bfew_any (A : Option Addr) (n c : Nat) (ps : List Pt) (w : World) (hP : Pts w A ps) (hn : ps.length = n) (hm : n ≤ 1000) :
    Calls Try.prog 52 #[.slice A n c] w fun e w' => e = .returned (.bool (ps.all fun p => decide (p.n ≤ 200))) ∧ Ext w w' := by
  have Hn := hide hn
  have HP := hide hP
  obtain ⟨r, hr⟩ : ∃ r, r = ps.all fun p => decide (p.n ≤ 200) := ⟨_, rfl⟩
  rw [← hr]
  have Hr := hide hr
  clear hn hP hr
  go_enter Try.func52, Try.ntmps52
  go_wp2_with fail
  go_loopw [7] (fun i wx => ∃ k, k ≤ n ∧ i = .int .i64 (k : Nat) ∧ ((ps.take k).all fun p => decide (p.n ≤ 200)) = true ∧ Ext w wx) (fun i _ => n - (intOf i).toNat)
  case atStart => exact ⟨0, by omega, rfl, rfl, Upd.refl _ _⟩
  case round =>
    obtain ⟨k, hk, rfl, hall, hU⟩ := hrel
    have Hall := hide hall
    clear hall
    by_cases hlt : k < n
    · have hlti : (k : Int) < n := by omega
      obtain ⟨b, o, rfl, _, hc⟩ := (HP.out.ext hU).1.open_ (by have := Hn.out; omega)
      have hck := hc k (by have := Hn.out; omega)
      unfold Pt.val at hck
      have ht : ps.take (k + 1) = ps.take k ++ [gat ps k] := by
        rw [List.take_succ_eq_append_getElem (by have := Hn.out; omega), gat_lt (by have := Hn.out; omega)]
      obtain ⟨m, hm2⟩ : ∃ m, m = (gat ps k).n := ⟨_, rfl⟩
      rw [← hm2] at hck
      have Hm := hide hm2
      have Ht := hide ht
      clear hc ht hm2
      by_cases h200 : m ≤ 200
      · have h2 : ¬ (200 : Int) < (m : Int) := by omega
        go_wp2_with fail
        go_roundw
        case rel => exact ⟨k + 1, by omega, by go_num, by rw [Ht.out, List.all_append, Hall.out, List.all_cons, ← Hm.out, decide_eq_true h200]; rfl, hU⟩
        case measure => simp [intOf]; omega
      · have h2 : (200 : Int) < (m : Int) := by omega
        have hno : (ps.all fun p => decide (p.n ≤ 200)) = false := by
          rw [← List.take_append_drop (k + 1) ps, Ht.out, List.all_append, List.all_append, List.all_cons, ← Hm.out, decide_eq_false h200]
          simp
        obtain rfl : r = false := Hr.out.trans hno
        clear hno
        go_wp2_with fail
        go_ret
        exact ⟨rfl, hU⟩
    · obtain rfl : k = n := by omega
      have hlti : ¬ (k : Int) < (k : Int) := by omega
      have hall := Hall.out
      rw [List.take_of_length_le (by have := Hn.out; omega)] at hall
      obtain rfl : r = true := Hr.out.trans hall
      clear hall
      go_wp2_with fail
      go_ret
      exact ⟨rfl, hU⟩
end Go.Proofs.Ytpffdpieciaooaa
