/- The slab's laws: do, lives. -/
import Derived.Test.YtjdodhooojjldaaSlbJ
import Derived.Test.YtjdodhooojjldaaSlbI
import Derived.Test.YtjdodhooojjldaaShaI
namespace Go.Proofs.Ytjdodhooojjldaa
set_option linter.unusedSimpArgs false
set_option linter.unusedVariables false
open Go.RowKit
open Sha
attribute [local go_sem] steady steadyUpon Cls same_cell anyW by8
attribute [local irreducible] wpHead wpTree wpHeadR
/-- a slab behind a deed -/
def Slv.done (x : Slv) (d : Dee) : Slv := if d.kind = 0 then x.inked d.at_ (pl64 d.X) else if d.kind = 2 then x.burnt else if d.kind = 3 then x.supplied d.N else if d.kind = 4 then x.woken (scaV d.ss) else x
def RetDo (w : World) (B : Nat) (D : Nat → Prop) (g gl : Nat) (y : Slv) (e : Ending) (w' : World) : Prop :=
  e = .returned (.tuple #[]) ∧ ∃ (D' : Nat → Prop) (f' : Nat → Value), Slb w' B D' g gl f' y ∧ Upd (fun k => k = g ∨ k = gl) w w' ∧ ∀ k, D' k → D k ∨ w.heap.size ≤ k
set_option maxRecDepth 100000 in
set_option maxHeartbeats 2000000 in
theorem sdo_any (B : Nat) (D : Nat → Prop) (g gl : Nat) (f : Nat → Value) (x : Slv) (d : Dee) (cs : Array Value) (hcs : cs = #[.int .i64 d.kind, .int .i64 d.at_, .int .i64 d.N, by8 d.X, .slice d.A d.l d.c]) (w : World) (h : Slb w B D g gl f x) (hx : x.fit 900000) (hok : DeeOk w d)
    (hsep : ∀ i, i < d.ss.length → 0 < (gat d.ss i).l → ∀ k, inA (gat d.ss i).A k → k ≠ g ∧ k ≠ gl) (hB : B ≤ w.heap.size) :
    Calls Try.prog 31 #[.pointer (some ⟨g, 0, none⟩), .agg cs] w (RetDo w B D g gl (x.done d)) := by
  subst hcs
  have H := hide h
  have Hx := hide hx
  have Hok := hide hok
  have Hsep := hide hsep
  have HB := hide hB
  have hg := h.cells.lt
  have hgl := h.rows.lt
  obtain ⟨kd, hkd⟩ : ∃ z, z = d.kind := ⟨_, rfl⟩
  obtain ⟨an, han⟩ : ∃ z, z = d.at_ := ⟨_, rfl⟩
  obtain ⟨dN, hdN⟩ : ∃ z, z = d.N := ⟨_, rfl⟩
  obtain ⟨dX, hdX⟩ : ∃ z, z = d.X := ⟨_, rfl⟩
  obtain ⟨dA, hdA⟩ : ∃ z, z = d.A := ⟨_, rfl⟩
  obtain ⟨dl, hdl⟩ : ∃ z, z = d.l := ⟨_, rfl⟩
  obtain ⟨dc, hdc⟩ : ∃ z, z = d.c := ⟨_, rfl⟩
  have hy : x.done d = if kd = 0 then x.inked an (pl64 dX) else if kd = 2 then x.burnt else if kd = 3 then x.supplied dN else if kd = 4 then x.woken (scaV d.ss) else x := by rw [hkd, han, hdX, hdN]; rfl
  rw [← hkd, ← han, ← hdN, ← hdX, ← hdA, ← hdl, ← hdc]
  have Hy := hide hy
  have HA := hide (⟨hdA, hdl, hdc⟩ : dA = d.A ∧ dl = d.l ∧ dc = d.c)
  clear h hx hok hsep hB hkd han hdN hdX hdA hdl hdc hy
  unfold by8
  go_enter Try.func31, Try.ntmps31
  obtain ⟨W, hW⟩ : ∃ W, W = w.alloc (.cells #[.int .i64 kd, .int .i64 an, .int .i64 dN, .int .u8 (n8 dX), .slice dA dl dc] 52) := ⟨_, rfl⟩
  have hE : Ext w W := by rw [hW]; exact (Upd.refl _ _).alloc _
  have hbk : Blk W w.heap.size 52 #[.int .i64 kd, .int .i64 an, .int .i64 dN, .int .u8 (n8 dX), .slice dA dl dc] := by rw [hW]; exact Blk.new _ _ _
  have c0 : W.cell? ⟨w.heap.size, 0, none⟩ = some (.int .i64 kd) := hbk.at 0 rfl
  have c1 : W.cell? ⟨w.heap.size, 1, none⟩ = some (.int .i64 an) := hbk.at 1 rfl
  have c2 : W.cell? ⟨w.heap.size, 2, none⟩ = some (.int .i64 dN) := hbk.at 2 rfl
  have c3 : W.cell? ⟨w.heap.size, 3, none⟩ = some (.int .u8 (n8 dX)) := hbk.at 3 rfl
  have c4 : W.cell? ⟨w.heap.size, 4, none⟩ = some (.slice dA dl dc) := hbk.at 4 rfl
  go_upto_region 1 with fail
  rw [← hW]
  have HE := hide hE
  clear hbk hW hE
  by_cases h0 : kd = 0
  · subst h0
    have hy0 : Hid (x.done d = x.inked an (pl64 dX)) := hide (by rw [Hy.out, if_pos rfl])
    have k1 := fun y : Wd (Ext W.drew) => y.ok.cellv (show W.drew.cell? ⟨w.heap.size, 1, none⟩ = some (.int .i64 an) from c1)
    have k3 := fun y : Wd (Ext W.drew) => y.ok.cellv (show W.drew.cell? ⟨w.heap.size, 3, none⟩ = some (.int .u8 (n8 dX)) from c3)
    go_wp2_with fail
    refine wp_region_plan (Ext _) 6 [(false,0), (false,1), (false,2), (false,3), (false,4), (true,5)] (by kernel_rfl) (by kernel_rfl) (Upd.refl _ _) (fun hne => ?_)
    repeat (refine head_q rfl (fun K hK => ?_); have hK2 := hide hK; clear hK; go_simp; refine hK2.out _ ?_; clear hK2 K)
    refine head_l rfl ?_
    go_wp2_with (go_at_call 29; go_must (refine (splain_any dX _ rfl _).mono ?_); rintro e w3 ⟨A3, c3, rfl, hO3, hU3⟩)
    refine ⟨Cls (Ext _), fun _ h => h, ⟨⟨_, hU3⟩, rfl⟩, ?_⟩
    repeat (refine head_q rfl (fun K hK => ?_); have hK2 := hide hK; clear hK; go_simp; refine hK2.out _ ?_; clear hK2 K)
    have hE3 : Ext w w3 := HE.out.trans hU3.undrew
    refine head_nil ?_
    try simp only [List.drop_succ_cons, List.drop_zero]
    go_wp2_with fail
    refine (sink_any B D g gl f x an A3 64 c3 (pl64 dX) _ (H.out.ext hE3) (Slv.fit_up Hx.out (by omega)) hO3.sl (pl64_len _) (by omega) (Nat.le_trans HB.out hE3.size)).mono ?_
    rintro e w4 ⟨rfl, D', f', hS4, hU4, hD4⟩
    go_wp2_with fail
    go_end0
    refine ⟨rfl, D', f', by rw [hy0.out]; exact hS4, (hE3.mono (fun _ _ h => h.elim)).trans hU4, fun k hk => (hD4 k hk).imp id (fun h => Nat.le_trans hE3.size h)⟩
  have h0b : (kd == 0) = false := beq_eq_false_iff_ne.2 h0
  by_cases h2 : kd = 2
  · subst h2
    have hy0 : Hid (x.done d = x.burnt) := hide (by rw [Hy.out, if_neg (by decide), if_pos rfl])
    go_wp2_with fail
    refine (sburn_any B D g gl f x _ (H.out.ext HE.out) Hx.out (Nat.le_trans HB.out HE.out.size)).mono ?_
    rintro e w4 ⟨rfl, f', hS4, hU4⟩
    go_wp2_with fail
    go_end0
    exact ⟨rfl, D, f', by rw [hy0.out]; exact hS4, (HE.out.mono (fun _ _ h => h.elim)).trans hU4, fun k hk => .inl hk⟩
  have h2b : (kd == 2) = false := beq_eq_false_iff_ne.2 h2
  by_cases h3 : kd = 3
  · subst h3
    have hy0 : Hid (x.done d = x.supplied dN) := hide (by rw [Hy.out, if_neg (by decide), if_neg (by decide), if_pos rfl])
    go_wp2_with fail
    refine (ssupply_any B D g gl f x dN _ (H.out.ext HE.out)).mono ?_
    rintro e w4 ⟨rfl, hS4, hU4⟩
    go_wp2_with fail
    go_end0
    exact ⟨rfl, D, f, by rw [hy0.out]; exact hS4, (HE.out.mono (fun _ _ h => h.elim)).trans' hU4 (fun _ _ h => .inl h), fun k hk => .inl hk⟩
  have h3b : (kd == 3) = false := beq_eq_false_iff_ne.2 h3
  by_cases h4 : kd = 4
  · subst h4
    have hy0 : Hid (x.done d = x.woken (scaV d.ss)) := hide (by rw [Hy.out, if_neg (by decide), if_neg (by decide), if_neg (by decide), if_pos rfl])
    go_wp2_with fail
    refine (swake_any B D g gl f x dA dl dc d.ss _ (H.out.ext HE.out) (by rw [HA.out.1]; exact Hok.out.scars.ext HE.out) (by rw [HA.out.2.1]; exact Hok.out.len) (by rw [HA.out.2.1]; exact Nat.le_trans Hok.out.cap Hok.out.max) Hsep.out (Nat.le_trans HB.out HE.out.size)).mono ?_
    rintro e w4 ⟨rfl, D', f', hS4, hU4, hD4⟩
    go_wp2_with fail
    go_end0
    exact ⟨rfl, D', f', by rw [hy0.out]; exact hS4, (HE.out.mono (fun _ _ h => h.elim)).trans hU4, fun k hk => (hD4 k hk).imp id (fun h => Nat.le_trans HE.out.size h)⟩
  have h4b : (kd == 4) = false := beq_eq_false_iff_ne.2 h4
  have hy0 : Hid (x.done d = x) := hide (by rw [Hy.out, if_neg h0, if_neg h2, if_neg h3, if_neg h4])
  go_wp2_with fail
  go_end0
  exact ⟨rfl, D, f, by rw [hy0.out]; exact H.out.ext HE.out, HE.out.mono (fun _ _ h => h.elim), fun k hk => .inl hk⟩
end Go.Proofs.Ytjdodhooojjldaa
