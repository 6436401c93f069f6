/- The slab's laws: the chapter's example lives. -/
import Derived.Test.YtejjofjhcgdedaaSlbK
namespace Go.Proofs.Ytejjofjhcgdedaa
set_option linter.unusedSimpArgs false
set_option linter.unusedVariables false
open Go.RowKit
open Sha
attribute [local go_sem] steady steadyUpon Cls same_cell anyW by8 str_eq
attribute [local irreducible] wpHead wpTree wpHeadR
/-- a slab that is the call's own, and what stands on it -/
structure SlO (w0 w : World) (g gl : Nat) (x : Slv) : Prop where
  slab : ∃ (D : Nat → Prop) (f : Nat → Value), Slb w w0.heap.size D g gl f x
  ext : Ext w0 w
section
variable {w0 w w' : World} {g gl : Nat} {x y : Slv}
theorem SlO.step {B : Nat} {D : Nat → Prop} {f : Nat → Value} (hE : Ext w0 w) (hS : Slb w w0.heap.size D g gl f x) {D' : Nat → Prop} {f' : Nat → Value} (hS' : Slb w' w0.heap.size D' g gl f' y) (hU : Upd (fun k => k = g ∨ k = gl) w w') : SlO w0 w' g gl y :=
  ⟨⟨D', f', hS'⟩, upd_new hU hE (fun k hk => by rcases hk with rfl | rfl; exact hS.lg; exact hS.lgl)⟩
theorem SlO.keep (h : SlO w0 w g gl x) (hE : Ext w w') : SlO w0 w' g gl x := by
  obtain ⟨⟨D, f, hS⟩, hE0⟩ := h
  exact ⟨⟨D, f, hS.ext hE⟩, hE0.trans hE⟩
end
theorem soink (w0 : World) (g gl : Nat) (x : Slv) (n : Int) (A : Option Addr) (l c : Nat) (bs : List B8) (w : World) (h : SlO w0 w g gl x) (hx : x.fit 1000000) (hS : Sl by8 w A bs) (hl : bs.length = l) (hlm : l ≤ 100000000) :
    Calls Try.prog 11 #[.pointer (some ⟨g, 0, none⟩), .int .i64 n, .slice A l c] w fun e w' => e = .returned (.int .i64 (x.inkE n l)) ∧ SlO w0 w' g gl (x.inked n bs) ∧ Upd (fun k => k = g ∨ k = gl) w w' := by
  obtain ⟨⟨D, f, hS0⟩, hE⟩ := h
  refine (sink_any _ D g gl f x n A l c bs w hS0 hx hS hl hlm hE.size).mono ?_
  rintro e w' ⟨rfl, D', f', hS', hU, -⟩
  exact ⟨rfl, SlO.step (B := 0) hE hS0 hS' hU, hU⟩
theorem soburn (w0 : World) (g gl : Nat) (x : Slv) (w : World) (h : SlO w0 w g gl x) (hx : x.fit 900000) :
    Calls Try.prog 13 #[.pointer (some ⟨g, 0, none⟩)] w fun e w' => e = .returned (.int .i64 x.burnE) ∧ SlO w0 w' g gl x.burnt ∧ Upd (fun k => k = g ∨ k = gl) w w' := by
  obtain ⟨⟨D, f, hS0⟩, hE⟩ := h
  refine (sburn_any _ D g gl f x w hS0 hx hE.size).mono ?_
  rintro e w' ⟨rfl, f', hS', hU⟩
  exact ⟨rfl, SlO.step (B := 0) hE hS0 hS' hU, hU⟩
theorem sosupply (w0 : World) (g gl : Nat) (x : Slv) (n : Int) (w : World) (h : SlO w0 w g gl x) :
    Calls Try.prog 9 #[.pointer (some ⟨g, 0, none⟩), .int .i64 n] w fun e w' => e = .returned (.tuple #[]) ∧ SlO w0 w' g gl (x.supplied n) ∧ Upd (fun k => k = g ∨ k = gl) w w' := by
  obtain ⟨⟨D, f, hS0⟩, hE⟩ := h
  refine (ssupply_any _ D g gl f x n w hS0).mono ?_
  rintro e w' ⟨rfl, hS', hU⟩
  exact ⟨rfl, SlO.step (B := 0) hE hS0 hS' (hU.mono (fun _ _ h => .inl h)), hU.mono (fun _ _ h => .inl h)⟩
theorem sowake (w0 : World) (g gl : Nat) (x : Slv) (A : Option Addr) (n c : Nat) (ss : List Sca) (w : World) (h : SlO w0 w g gl x) (hL : ScaL w A ss) (hn : ss.length = n) (hm : n ≤ maxLen)
    (hsep : ∀ i, i < ss.length → 0 < (gat ss i).l → ∀ k, inA (gat ss i).A k → k ≠ g ∧ k ≠ gl) :
    Calls Try.prog 10 #[.pointer (some ⟨g, 0, none⟩), .slice A n c] w fun e w' => e = .returned (.tuple #[]) ∧ SlO w0 w' g gl (x.woken (scaV ss)) ∧ Upd (fun k => k = g ∨ k = gl) w w' := by
  obtain ⟨⟨D, f, hS0⟩, hE⟩ := h
  refine (swake_any _ D g gl f x A n c ss w hS0 hL hn hm hsep hE.size).mono ?_
  rintro e w' ⟨rfl, D', f', hS', hU, -⟩
  exact ⟨rfl, SlO.step (B := 0) hE hS0 hS' hU, hU⟩
theorem sowake0 (w0 : World) (g gl : Nat) (x : Slv) (w : World) (h : SlO w0 w g gl x) :
    Calls Try.prog 10 #[.pointer (some ⟨g, 0, none⟩), .slice none 0 0] w fun e w' => e = .returned (.tuple #[]) ∧ SlO w0 w' g gl (x.woken []) ∧ Upd (fun k => k = g ∨ k = gl) w w' :=
  sowake w0 g gl x none 0 0 [] w h (fun i hi => absurd hi (by simp)) rfl (Nat.zero_le _) (fun i hi => absurd hi (by simp))
theorem soface (w0 : World) (g gl : Nat) (x : Slv) (n : Int) (w : World) (h : SlO w0 w g gl x) :
    Calls Try.prog 8 #[.pointer (some ⟨g, 0, none⟩), .int .i64 n] w (RetFace w (x.look n) (faceOf (gat x.secs n.toNat))) := by
  obtain ⟨⟨D, f, hS0⟩, hE⟩ := h
  exact sface_any _ D g gl f x n w hS0
theorem sonew (n : Int) (h4 : 4 ≤ n) (hn : n ≤ 4096) (w : World) :
    Calls Try.prog 6 #[.int .i64 n] w fun e w' => ∃ g gl, e = .returned (.pointer (some ⟨g, 0, none⟩)) ∧ w.heap.size ≤ g ∧ w.heap.size ≤ gl ∧ SlO w w' g gl (Slv.new n.toNat) := by
  refine (snew_any n w).mono ?_
  rintro e w' ⟨hE, -, h⟩
  obtain ⟨g, gl, rfl, hS⟩ := h ⟨h4, hn⟩
  exact ⟨g, gl, rfl, hS.lg, hS.lgl, ⟨_, _, hS⟩, hE⟩
theorem Slv.new_fit (n : Nat) : (Slv.new n).fit 0 := ⟨by show (0 : Int) ≤ 0; decide, by show (0 : Int) ≤ 9223372036854775807; decide, by show (0 : Int) ≤ 0; decide, by show (0 : Int) ≤ ((0 : Nat) : Int); decide⟩
/-! ### the example -/
def exA : Slv := (Slv.new 8).supplied 3
def exB : Slv := exA.inked 5 (pl64 5)
def exC : Slv := exB.inked 2 (pl64 2)
def exD : Slv := exC.burnt
def exE : Slv := exD.woken []
theorem exA_fit : exA.fit 0 := Slv.supplied_fit (Slv.new_fit 8) (by decide)
theorem exB_fit : exB.fit 1 := Slv.inked_fit exA_fit _ _
theorem exC_fit : exC.fit 2 := Slv.inked_fit exB_fit _ _
theorem ex_all : exA.inkE 5 64 = 0 ∧ exB.inkE 2 64 = 0 ∧ exC.burnE = 12 ∧ exE.look 2 = 0 ∧ exE.look 5 = 0 ∧ faceOf (gat exE.secs (2 : Int).toNat) = pl64 2 ∧ faceOf (gat exE.secs (5 : Int).toNat) = pl64 0 := by decide +kernel
set_option maxRecDepth 100000 in
set_option maxHeartbeats 2000000 in
theorem slives_any (w : World) : Calls Try.prog 7 #[] w fun e w' => e = .returned (.bool true) ∧ Ext w w' := by
  go_enter Try.func7, Try.ntmps7
  go_wp2_with fail
  refine (sonew 8 (by decide) (by decide) w).mono ?_
  rintro e w1 ⟨g, gl, rfl, hg, hgl, h1⟩
  go_wp2_with fail
  refine (sosupply w g gl _ 3 w1 h1).mono ?_
  rintro e w2 ⟨rfl, h2, -⟩
  replace h2 : SlO w w2 g gl exA := h2
  clear h1
  go_wp2_with fail
  refine (splain_any 5 _ rfl w2).mono ?_
  rintro e w3 ⟨A3, c3, rfl, hO3, hE3⟩
  replace h2 := h2.keep hE3
  go_wp2_with fail
  refine (soink w g gl exA 5 A3 64 c3 (pl64 5) w3 h2 (Slv.fit_up exA_fit (by omega)) hO3.sl (pl64_len _) (by omega)).mono ?_
  rintro e w4 ⟨rfl, h4, -⟩
  replace h4 : SlO w w4 g gl exB := h4
  rw [ex_all.1]
  clear h2 hO3 hE3
  go_wp2_with fail
  refine (splain_any 2 _ rfl w4).mono ?_
  rintro e w5 ⟨A5, c5, rfl, hO5, hE5⟩
  replace h4 := h4.keep hE5
  go_wp2_with fail
  refine (soink w g gl exB 2 A5 64 c5 (pl64 2) w5 h4 (Slv.fit_up exB_fit (by omega)) hO5.sl (pl64_len _) (by omega)).mono ?_
  rintro e w6 ⟨rfl, h6, -⟩
  replace h6 : SlO w w6 g gl exC := h6
  rw [ex_all.2.1]
  clear h4 hO5 hE5
  go_wp2_with fail
  refine (soburn w g gl exC w6 h6 (Slv.fit_up exC_fit (by omega))).mono ?_
  rintro e w7 ⟨rfl, h7, -⟩
  replace h7 : SlO w w7 g gl exD := h7
  rw [ex_all.2.2.1]
  clear h6
  go_wp2_with fail
  refine (sowake0 w g gl exD w7 h7).mono ?_
  rintro e w8 ⟨rfl, h8, -⟩
  replace h8 : SlO w w8 g gl exE := h8
  clear h7
  go_wp2_with fail
  refine (soface w g gl exE 2 w8 h8).mono ?_
  rintro e w9 ⟨hE9, -, h9⟩
  obtain ⟨A9, c9, rfl, hO9⟩ := h9 ex_all.2.2.2.1
  rw [ex_all.2.2.2.2.2.1] at hO9
  replace h8 := h8.keep hE9
  clear h9 hE9
  go_wp2_with fail
  refine (soface w g gl exE 5 w9 h8).mono ?_
  rintro e wa ⟨hEa, -, ha⟩
  obtain ⟨Aa, ca, rfl, hOa⟩ := ha ex_all.2.2.2.2.1
  rw [ex_all.2.2.2.2.2.2] at hOa
  replace h8 := h8.keep hEa
  have hS9 := hO9.sl.ext hEa
  clear ha hEa hO9
  have ht9 := str_cls (c := c9) (hS9.ext (Upd.refl _ wa).drew) (pl64_len 2)
  have hta := str_cls (c := ca) (hOa.sl.ext (Upd.refl _ wa).drew) (pl64_len 0)
  go_wp2_with fail
  refine wp_region_plan (Ext _) 32 [(false,0), (false,1), (false,2), (false,3), (false,4), (false,5), (false,6), (false,7), (false,8), (false,9), (false,10), (false,11), (false,12), (false,13), (false,14), (false,15), (false,16), (false,17), (false,18), (false,19), (false,20), (true,21), (false,22), (false,23), (false,24), (false,25), (false,26), (false,27), (true,28), (false,29), (false,30), (false,31)] (by kernel_rfl) (by kernel_rfl) (Upd.refl _ _) (fun hne => ?_)
  repeat (refine head_q rfl (fun K hK => ?_); have hK2 := hide hK; clear hK; go_simp; refine hK2.out _ ?_; clear hK2 K)
  refine head_l rfl ?_
  go_wp2_with (go_at_call 12; go_must (refine (splain_any 2 _ rfl _).mono ?_); rintro e wb ⟨Ab, cb, rfl, hOb, hEb⟩)
  refine ⟨Cls (Ext _), cls_narrow hEb, ⟨⟨_, Upd.refl _ _⟩, rfl⟩, ?_⟩
  have htb := str_cls (c := cb) hOb.sl (pl64_len 2)
  have htd := str_cls (c := ca) ((hOa.sl.ext (Upd.refl _ wa).drew).ext hEb) (pl64_len 0)
  repeat (refine head_q rfl (fun K hK => ?_); have hK2 := hide hK; clear hK; go_simp; refine hK2.out _ ?_; clear hK2 K)
  refine head_l rfl ?_
  go_wp2_with (go_at_call 12; go_must (refine (splain_any 0 _ rfl _).mono ?_); rintro e wc ⟨Ac, cc, rfl, hOc, hEc⟩)
  refine ⟨Cls (Ext _), cls_narrow hEc, ⟨⟨_, Upd.refl _ _⟩, rfl⟩, ?_⟩
  have htc := str_cls (c := cc) hOc.sl (pl64_len 0)
  repeat (refine head_q rfl (fun K hK => ?_); have hK2 := hide hK; clear hK; go_simp; refine hK2.out _ ?_; clear hK2 K)
  refine head_nil ?_
  try simp only [List.drop_succ_cons, List.drop_zero]
  clear ht9 hta htb htd htc
  have hEf : Ext w wc := ((h8.ext.drew).trans hEb).trans hEc
  go_wp2_with fail
  go_ret
  exact ⟨rfl, hEf⟩
end Go.Proofs.Ytejjofjhcgdedaa
