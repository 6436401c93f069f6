/- A hash copied, and its sum, walked. -/
import Derived.Test.YtoekbomfepedcaaShaA
namespace Go.Proofs.Ytoekbomfepedcaa
set_option linter.unusedSimpArgs false
set_option linter.unusedVariables false
open Go.RowKit
open Sha
attribute [local go_sem] steady steadyUpon Cls same_cell by8 by32 by64

def CopyPost (w : World) (msg : List (BitVec 8)) (e : Ending) (w' : World) : Prop :=
  ∃ g T, e = .returned (.pointer (some ⟨g, 0, none⟩)) ∧ Hsh w' w.heap.size T g msg ∧ Ext w w'
set_option maxRecDepth 100000 in
set_option maxHeartbeats 1000000 in
theorem copy_any (B g : Nat) (T : Nat → Prop) (msg : List (BitVec 8)) (w : World) (hH : Hsh w B T g msg) (hl : msg.length ≤ 1000000000) :
    Calls Try.prog 118 #[.pointer (some ⟨g, 0, none⟩)] w (CopyPost w msg) := by
  obtain ⟨A, c, hA, hO, hT⟩ := hH.ex
  obtain ⟨n, hn⟩ : ∃ n, n = msg.length := ⟨_, rfl⟩
  obtain ⟨H, hHe⟩ : ∃ H, H = hs msg (n / 64) := ⟨_, rfl⟩
  obtain ⟨r, hr⟩ : ∃ r, r = msg.drop (64 * (n / 64)) := ⟨_, rfl⟩
  obtain ⟨L, hL⟩ : ∃ L, L = n % 64 := ⟨_, rfl⟩
  rw [← hn, ← hHe, ← hL] at hA
  rw [← hn, ← hr] at hO
  have hrl : r.length = L := by rw [hr, List.length_drop]; omega
  have hL2 : L < 64 := by omega
  have Hrl := hide hrl
  have Hn := hide hn
  have HH := hide hHe
  have Hr := hide hr
  have HL := hide hL
  clear hrl hn hHe hr hL hH hT hl
  have c8 := fun x : Wd (Ext w.drew) => Upd.cellv x.ok (p := ⟨g, 8, none⟩) (v := .slice A L c) (hA.drew.cell (i := 8) (by omega))
  have c9 := fun x : Wd (Ext w.drew) => Upd.cellv x.ok (p := ⟨g, 9, none⟩) (v := .int .i64 n) (hA.drew.cell (i := 9) (by omega))
  have c0 := fun x : Wd (Ext w.drew) => Upd.cellv x.ok (p := ⟨g, 0, none⟩) (v := .int .u32 (n32 (H 0))) (hA.drew.cell (i := 0) (by omega))
  have c1 := fun x : Wd (Ext w.drew) => Upd.cellv x.ok (p := ⟨g, 1, none⟩) (v := .int .u32 (n32 (H 1))) (hA.drew.cell (i := 1) (by omega))
  have c2 := fun x : Wd (Ext w.drew) => Upd.cellv x.ok (p := ⟨g, 2, none⟩) (v := .int .u32 (n32 (H 2))) (hA.drew.cell (i := 2) (by omega))
  have c3 := fun x : Wd (Ext w.drew) => Upd.cellv x.ok (p := ⟨g, 3, none⟩) (v := .int .u32 (n32 (H 3))) (hA.drew.cell (i := 3) (by omega))
  have c4 := fun x : Wd (Ext w.drew) => Upd.cellv x.ok (p := ⟨g, 4, none⟩) (v := .int .u32 (n32 (H 4))) (hA.drew.cell (i := 4) (by omega))
  have c5 := fun x : Wd (Ext w.drew) => Upd.cellv x.ok (p := ⟨g, 5, none⟩) (v := .int .u32 (n32 (H 5))) (hA.drew.cell (i := 5) (by omega))
  have c6 := fun x : Wd (Ext w.drew) => Upd.cellv x.ok (p := ⟨g, 6, none⟩) (v := .int .u32 (n32 (H 6))) (hA.drew.cell (i := 6) (by omega))
  have c7 := fun x : Wd (Ext w.drew) => Upd.cellv x.ok (p := ⟨g, 7, none⟩) (v := .int .u32 (n32 (H 7))) (hA.drew.cell (i := 7) (by omega))
  have hA' := hide hA
  have hO' := hide hO
  clear hA hO
  go_enter Try.func118, Try.ntmps118
  go_wp2_with fail
  refine wp_region_plan (Ext _) 16 [(false,0), (false,1), (false,2), (false,3), (false,5), (false,6), (false,7), (false,8), (false,10), (false,11), (false,12), (false,13), (true,4), (true,9), (false,14), (true,15)] (by kernel_rfl) (by kernel_rfl) (Upd.refl _ _) (fun hne => ?_)
  repeat (refine head_q rfl (fun K hK => ?_); have hK2 := hide hK; clear hK; go_simp; refine hK2.out _ ?_; clear hK2 K)
  refine head_l rfl ?_
  go_wp2_with fail
  refine ⟨Cls (Ext w.drew), fun _ h => h, ⟨⟨_, (Upd.refl _ w.drew).alloc _⟩, rfl⟩, ?_⟩
  refine head_l rfl ?_
  go_must (refine wpList_apd by8 one8 Try.el8 [] r r L rfl Hrl.out (by omega) (by unfold maxLen; omega) rfl rfl rfl rfl (Own.lit by8 _ (B := w.heap.size) 5 [] (by simp) (Nat.zero_le _)) rfl Hrl.out (hO'.out.sl.ext ((Upd.refl _ _).drew.alloc _)) (by simp) ?_)
  intro A2 c2 w2 hO2 hU2 hin2
  refine wpList_nil ?_
  simp only [Exit.then]
  have hU2' : Ext w.drew w2 := upd_new (w0 := w.drew) hU2 ((Upd.refl _ w.drew).alloc _) (fun i hi => by simp [inA] at hi; simp; omega)
  refine ⟨Cls (Ext w.drew), fun _ h => h, ⟨⟨_, hU2'⟩, rfl⟩, ?_⟩
  repeat (refine head_q rfl (fun K hK => ?_); have hK2 := hide hK; clear hK; go_simp; refine hK2.out _ ?_; clear hK2 K)
  refine head_l rfl ?_
  go_wp2_with fail
  refine ⟨Cls (Ext w.drew), fun _ h => h, ⟨⟨_, hU2'.alloc _⟩, rfl⟩, ?_⟩
  refine head_nil ?_
  try simp only [List.drop_succ_cons, List.drop_zero]
  go_wp2
  go_ret
  refine ⟨w2.heap.size, fun i => i = w2.heap.size ∨ inA A2 i, rfl, ⟨⟨A2, c2, ?_, ?_, fun _ => Iff.rfl⟩, hU2'.size⟩, hU2'.undrew.alloc _⟩
  · rw [← Hn.out, ← HH.out, ← HL.out]
    exact Arr.new w2 _ _ 10 _ rfl (fun i hi => cells10_at H A2 L c2 n i hi)
  · rw [← Hn.out, ← Hr.out]
    exact (hO2.ows.ext ((Upd.refl _ _).alloc _))

theorem copy_nil (w : World) : Calls Try.prog 118 #[.pointer none] w fun e w' => e = .returned (.pointer none) ∧ w = w' := by
  go_enter Try.func118, Try.ntmps118
  go_wp2
  go_ret
  exact ⟨rfl, rfl⟩
theorem add_nil (A : Option Addr) (n c : Nat) (w : World) : Calls Try.prog 81 #[.pointer none, .slice A n c] w fun e w' => e = .returned (.tuple #[]) ∧ w = w' := by
  go_enter Try.func81, Try.ntmps81
  go_wp2
  exact bodyPost_ret (v := .tuple #[]) (by simp [results, Try.results81, go_sem]) rfl ⟨rfl, rfl⟩
theorem sum_nil (w : World) : Calls Try.prog 82 #[.pointer none] w fun e w' => e = .returned (.slice none 0 0) ∧ w = w' := by
  go_enter Try.func82, Try.ntmps82
  go_wp2
  go_ret
  exact ⟨rfl, rfl⟩
end Go.Proofs.Ytoekbomfepedcaa
