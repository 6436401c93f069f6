/- A slab, walked: Face. -/
import Derived.Test.YtejjofjhcgdedaaSlbE
namespace Go.Proofs.Ytejjofjhcgdedaa
set_option linter.unusedSimpArgs false
set_option linter.unusedVariables false
open Go.RowKit
open Sha
attribute [local go_sem] steady steadyUpon Cls same_cell anyW
attribute [local irreducible] wpHead wpTree wpHeadR
def zero64B : List B8 := List.replicate 64 0
/-- what a sector shows -/
def faceOf (s : Option (List B8) × Option (List B8)) : List B8 := match s.2 with | some b => b | none => match s.1 with | some b => b | none => zero64B
theorem onto_all {ys xs : List B8} (h : xs.length = ys.length) : onto ys xs = xs := by
  unfold onto
  rw [List.take_of_length_le (by omega), h, List.drop_length, List.append_nil]
theorem onto_nil (ys : List B8) : onto ys ([] : List B8) = ys := by unfold onto; simp
def RetFace (w : World) (er : Int) (bs : List B8) (e : Ending) (w' : World) : Prop :=
  Ext w w' ∧ (er ≠ 0 → e = .returned (.tuple #[.slice none 0 0, .int .i64 er])) ∧ (er = 0 → ∃ A c, e = .returned (.tuple #[.slice A 64 c, .int .i64 0]) ∧ Own w' w.heap.size 5 A c (bs.map by8))
theorem name_wx {P : Program} {c : Code} {Q : Exit → Act → World → Prop} {a : Act} {W : World} (h : ∀ W', W' = W → c.wp P Q a W') : c.wp P Q a W := h W rfl
set_option maxRecDepth 100000 in
set_option maxHeartbeats 2000000 in
theorem sface_any (B : Nat) (D : Nat → Prop) (g gl : Nat) (f : Nat → Value) (x : Slv) (n : Int) (w : World) (h : Slb w B D g gl f x) :
    Calls Try.prog 8 #[.pointer (some ⟨g, 0, none⟩), .int .i64 n] w (RetFace w (x.look n) (faceOf (gat x.secs n.toNat))) := by
  have H := hide h
  clear h
  go_enter Try.func8, Try.ntmps8
  go_wp2_with fail
  refine (slook_any B D g gl f x n w H.out).mono ?_
  rintro e w1 ⟨rfl, rfl⟩
  obtain ⟨r, hr⟩ : ∃ r, r = x.look n := ⟨_, rfl⟩
  rw [← hr]
  have Hr := hide hr
  clear hr
  by_cases h0 : r = 0
  case neg =>
    have h0b : (r == 0) = false := beq_eq_false_iff_ne.2 h0
    have H0 := hide h0
    go_wp2_with fail
    refine bodyPost_ret (v := .tuple #[.slice none 0 0, .int .i64 r]) ?_ rfl ⟨Upd.refl _ _, fun _ => by rw [← Hr.out], fun h => absurd (Hr.out.trans h) H0.out⟩
    simp [results, Try.results8, go_sem]
  subst h0
  have hlk : x.look n = 0 := Hr.out.symm
  have hnn : 0 ≤ n ∧ n < (x.secs.length : Int) := by
    unfold Slv.look at hlk
    split at hlk
    · cases hlk
    · split at hlk
      · cases hlk
      · omega
  obtain ⟨i, rfl⟩ : ∃ i : Nat, n = (i : Int) := ⟨n.toNat, by omega⟩
  have hi : i < x.secs.length := by omega
  obtain ⟨N, hN⟩ : ∃ N, N = x.secs.length := ⟨_, rfl⟩
  have hiN : i < N := by omega
  have hiI : (i : Int) < (N : Int) := by omega
  have hN4 : N ≤ 4096 := by have := H.out.len; omega
  have Hi := hide hi
  have Hlk := hide hlk
  have HN := hide hN
  clear hnn hlk Hr hi hN
  go_upto_region 5 with (at_make; go_must (refine wpList_mk _ _ _ Try.el8 rfl rfl 64 rfl rfl rfl rfl (by omega) (by unfold maxLen; omega) by8 rfl rfl (B := w1.heap.size) (by simp) ?_); rintro g2 w2 hO2 rfl hU2)
  have hS2 := H.out.ext hU2
  have q0 : w2.cell? ⟨g, 0, none⟩ = some (.slice (some ⟨gl, 0, none⟩) N N) := by rw [HN.out]; exact hS2.cells.at 0 rfl
  have r0 : w2.cell? ⟨gl, i * 2, none⟩ = some (f (2 * i)) := by rw [Nat.mul_comm i 2]; exact hS2.rows.cell (by have := Hi.out; omega)
  have r1 : w2.cell? ⟨gl, i * 2 + 1, none⟩ = some (f (2 * i + 1)) := by rw [Nat.mul_comm i 2]; exact hS2.rows.cell (by have := Hi.out; omega)
  have k0 := hS2.burnt i Hi.out
  have k1 := hS2.ink i Hi.out
  have hz : (List.replicate 64 (default : B8)) = zero64B := rfl
  rw [hz] at hO2
  have HO2 := hide hO2
  have HU2 := hide hU2
  obtain ⟨⟨bu, ik⟩, hs⟩ : ∃ s, s = gat x.secs i := ⟨_, rfl⟩
  have hto : gat x.secs i = (bu, ik) := hs.symm
  rw [← hs] at k0 k1
  have Hto := hide hto
  have K0 := hide k0
  have K1 := hide k1
  clear hS2 hO2 hU2 hz hs hto k0 k1
  cases ik with
  | none =>
    have k1 : f (2 * i + 1) = .slice none 0 0 := K1.out
    rw [k1] at r1
    cases bu with
    | none =>
      have k0 : f (2 * i) = .slice none 0 0 := K0.out
      rw [k0] at r0
      clear k0 k1
      go_wp2_with (refine wpList_copy_onto by8 one8 zero64B [] rfl rfl Try.under_bs Try.sz8 rfl rfl (Sl.nil) (rfl) (show zero64B.length = 64 by kernel_rfl) (HO2.out.ext ((Upd.refl _ _).alloc _)) ?_; intro w5 hO5 hU5)
      rw [onto_nil] at hO5
      have hE5 : Ext w1 w5 := upd_new hU5 (HU2.out.alloc _) (fun k hk => by have : k = w1.heap.size := hk; omega)
      refine bodyPost_ret (v := .tuple #[.slice (some ⟨w1.heap.size, 0, none⟩) 64 64, .int .i64 0]) ?_ rfl ⟨hE5, fun h => absurd Hlk.out h, fun _ => ⟨_, _, rfl, by rw [Hto.out]; exact hO5⟩⟩
      simp [results, Try.results8, go_sem]
    | some bs =>
      obtain ⟨b, c, k0, hl, hc1, hc2, hD, hS⟩ := K0.out
      rw [k0] at r0
      have HS := hide hS
      have Hl := hide hl
      clear k0 k1 hS hl hD
      go_wp2_with (refine wpList_copy_onto by8 one8 zero64B bs rfl rfl Try.under_bs Try.sz8 rfl rfl (HS.out.ext ((Upd.refl _ _).alloc _)) (Hl.out) (show zero64B.length = 64 by kernel_rfl) (HO2.out.ext ((Upd.refl _ _).alloc _)) ?_; intro w5 hO5 hU5)
      rw [onto_all (Hl.out.trans (show 64 = zero64B.length by kernel_rfl))] at hO5
      have hE5 : Ext w1 w5 := upd_new hU5 (HU2.out.alloc _) (fun k hk => by have : k = w1.heap.size := hk; omega)
      refine bodyPost_ret (v := .tuple #[.slice (some ⟨w1.heap.size, 0, none⟩) 64 64, .int .i64 0]) ?_ rfl ⟨hE5, fun h => absurd Hlk.out h, fun _ => ⟨_, _, rfl, by rw [Hto.out]; exact hO5⟩⟩
      simp [results, Try.results8, go_sem]
  | some is =>
    obtain ⟨b, c, k1, hl, hc1, hc2, hD, hS⟩ := K1.out
    rw [k1] at r1
    have HS := hide hS
    have Hl := hide hl
    clear k1 hS hl hD
    cases bu with
    | none =>
      have k0 : f (2 * i) = .slice none 0 0 := K0.out
      rw [k0] at r0
      clear k0
      go_wp2_with (refine wpList_copy_onto by8 one8 zero64B is rfl rfl Try.under_bs Try.sz8 rfl rfl (HS.out.ext ((Upd.refl _ _).alloc _)) (Hl.out) (show zero64B.length = 64 by kernel_rfl) (HO2.out.ext ((Upd.refl _ _).alloc _)) ?_; intro w5 hO5 hU5)
      rw [onto_all (Hl.out.trans (show 64 = zero64B.length by kernel_rfl))] at hO5
      have hE5 : Ext w1 w5 := upd_new hU5 (HU2.out.alloc _) (fun k hk => by have : k = w1.heap.size := hk; omega)
      refine bodyPost_ret (v := .tuple #[.slice (some ⟨w1.heap.size, 0, none⟩) 64 64, .int .i64 0]) ?_ rfl ⟨hE5, fun h => absurd Hlk.out h, fun _ => ⟨_, _, rfl, by rw [Hto.out]; exact hO5⟩⟩
      simp [results, Try.results8, go_sem]
    | some bs =>
      obtain ⟨b', c', k0, hl', hc1', hc2', hD', hS'⟩ := K0.out
      rw [k0] at r0
      clear k0 hl' hD' hS'
      go_wp2_with (refine wpList_copy_onto by8 one8 zero64B is rfl rfl Try.under_bs Try.sz8 rfl rfl (HS.out.ext ((Upd.refl _ _).alloc _)) (Hl.out) (show zero64B.length = 64 by kernel_rfl) (HO2.out.ext ((Upd.refl _ _).alloc _)) ?_; intro w5 hO5 hU5)
      rw [onto_all (Hl.out.trans (show 64 = zero64B.length by kernel_rfl))] at hO5
      have hE5 : Ext w1 w5 := upd_new hU5 (HU2.out.alloc _) (fun k hk => by have : k = w1.heap.size := hk; omega)
      refine bodyPost_ret (v := .tuple #[.slice (some ⟨w1.heap.size, 0, none⟩) 64 64, .int .i64 0]) ?_ rfl ⟨hE5, fun h => absurd Hlk.out h, fun _ => ⟨_, _, rfl, by rw [Hto.out]; exact hO5⟩⟩
      simp [results, Try.results8, go_sem]
end Go.Proofs.Ytejjofjhcgdedaa
