/- The store's lower, walked. -/
import Derived.Test.YtejjofjhcgdedaaStoQ
namespace Go.Proofs.Ytejjofjhcgdedaa
set_option linter.unusedSimpArgs false
set_option linter.unusedVariables false
open Go.RowKit Go.Shelf
open Sha
attribute [local go_sem] steady steadyUpon Cls same_cell anyW
attribute [local irreducible] wpHead wpTree wpHeadR Sha.sum
def RetLow (w0 w : World) (g gl : Nat) (x : Slv) (p k : Nat) (e : Ending) (w' : World) : Prop :=
  ∃ y er, e = .returned (.int .i64 er) ∧ SlO w0 w' g gl y ∧ Upd (fun q => q = g ∨ q = gl) w w' ∧ Sto.LowR x p k y er
set_option maxRecDepth 100000 in
set_option maxHeartbeats 4000000 in
theorem stlower_any (w0 : World) (g gl : Nat) (x : Slv) (s k0 n k : Nat) (dead : Bool) (w : World) (h : SlO w0 w g gl x) (hx : x.fit k) (hk : k ≤ 800000) (hB : Blk w s 92 (stcs g k0 dead)) (hs : s ≠ g ∧ s ≠ gl) (hcl : Sto.CleanS x) (hx0 : 4 ≤ x.secs.length) (hx1 : x.secs.length ≤ 4096) (hn : n < 18446744073709551616) :
    Calls Try.prog 46 #[.pointer (some ⟨s, 0, none⟩), .int .u64 (n : Int)] w (RetLow w0 w g gl x (n % 2) k) := by
  obtain ⟨p, hp⟩ : ∃ p, p = n % 2 := ⟨_, rfl⟩
  rw [← hp]
  have hp2 : p < 2 := by omega
  have hpm : (n : Int).tmod 2 = (p : Int) := by rw [Int.tmod_eq_emod_of_nonneg (by omega)]; omega
  have hpi : IntKind.i64.wrap (p : Int) = (p : Int) := IntWalk.i64_in _ (by omega)
  have d0 : w.cell? ⟨s, 0, none⟩ = some (.pointer (some ⟨g, 0, none⟩)) := hB.at 0 rfl
  have hpl : p < x.secs.length := by omega
  have hlook := Slv.look_in (x := x) (n := (p : Int)) (by omega) (by omega)
  have h64 := h.face64 hpl
  have H := hide h
  have HX := hide hx
  have Hcl := hide hcl
  have Hx0 := hide hx0
  have Hx1 := hide hx1
  have Hlook := hide hlook
  have H64 := hide h64
  have Hp := hide hp
  clear h hx hcl hx0 hx1 hlook h64 hp hB hn
  go_enter Try.func46, Try.ntmps46
  cases hout : x.out with
  | true =>
    go_wp2_with (go_at_call 8; refine (soface w0 g gl x (p : Int) w H.out).mono ?_; rintro e w1 ⟨hE1, h1, -⟩; have hl := Hlook.out; rw [hout, if_pos rfl] at hl; rw [hl] at h1; obtain rfl := h1 (by decide); have HE1 := hide hE1; clear hE1 h1 hl)
    go_ret
    exact ⟨x, 12, rfl, H.out.keep HE1.out, Upd.ofExt HE1.out, Sto.LowR.out hout HX.out⟩
  | false =>
    go_wp2_with (go_at_call 8; refine (sfc_any w0 g gl x p w H.out hout hpl).mono ?_; rintro e w1 ⟨A1, c1, rfl, hO1, hE1⟩; have d1 := hE1.cellv d0; have HE1 := hide hE1; have HO1 := hide hO1; clear hE1 hO1)
    refine (sup_any A1 c1 (Sto.faceN x p) w1 HO1.out.sl H64.out).mono ?_
    rintro e w2 ⟨rfl, hw⟩
    rw [hw]
    clear hw w2
    by_cases hz : Sto.faceN x p = zero64B
    · have hd : decide (Sto.faceN x p ≠ zero64B) = false := by simp [hz]
      rw [hd]
      go_wp2_with fail
      go_ret
      exact ⟨x, 0, rfl, H.out.keep HE1.out, Upd.ofExt HE1.out, Sto.LowR.down hz HX.out Hcl.out⟩
    have hd : decide (Sto.faceN x p ≠ zero64B) = true := by simp [hz]
    rw [hd]
    have kb := fun z : Wd (Upd (fun q => q = g ∨ q = gl) w1.drew) => (z.ok.cell (p := ⟨s, 0, none⟩) (World.block_lt_of_cell? w1 _ d1) (fun e => e.elim hs.1 hs.2)).trans d1
    obtain ⟨zs, hzs⟩ : ∃ zs, zs = List.replicate 64 (default : B8) := ⟨_, rfl⟩
    have hzl : zs.length = 64 := by rw [hzs]; rfl
    have Hzs := hide hzs
    have Hzl := hide hzl
    have Hz := hide hz
    clear hzs hzl hz hd
    go_wp2_with fail
    refine wp_region_plan (Upd (fun q => q = g ∨ q = gl) _) 9 [(false,0), (false,1), (false,2), (false,3), (false,4), (false,5), (false,6), (true,7), (true,8)] (by kernel_rfl) (by kernel_rfl) (Upd.refl _ _) (fun hne => ?_)
    repeat (refine head_q rfl (fun K hK => ?_); have hK2 := hide hK; clear hK; go_simp; refine hK2.out _ ?_; clear hK2 K)
    refine head_l rfl ?_
    obtain ⟨wd, hwd⟩ : ∃ wd, wd = w1.drew := ⟨_, rfl⟩
    rw [← hwd]
    have Hwd := hide hwd
    clear hwd
    refine wpList_mk _ _ _ Try.el8 rfl rfl 64 rfl rfl rfl rfl (by omega) (by unfold maxLen; omega) by8 rfl rfl (B := wd.heap.size) (Nat.le_refl _) ?_
    rintro g2 w2 hO2 rfl hU2
    go_wp2_with fail
    rw [← Hzs.out] at hO2
    have hE2 : Ext w w2 := by rw [Hwd.out] at hU2; exact (HE1.out.drew).trans hU2
    refine ⟨_, fun _ h => h, ⟨⟨_, Upd.ofExt hU2⟩, rfl⟩, ?_⟩
    repeat (refine head_q rfl (fun K hK => ?_); have hK2 := hide hK; clear hK; go_simp; refine hK2.out _ ?_; clear hK2 K)
    refine head_l rfl ?_
    have hne := own_apart (w := w) H.out hO2 (by rw [Hwd.out]; exact HE1.out.size)
    have hQ : Calls Try.prog 47 #[.pointer (some ⟨g, 0, none⟩), .int .i64 (p : Int), .slice (some ⟨wd.heap.size, 0, none⟩) 64 64] w2 (RetBrn w0 w2 g gl x p k zs) := by
      have hi : p + 1 ≤ x.secs.length := hpl
      have hp : 0 < x.secs.length := by omega
      have hm : (1 : Nat) ≤ 4096 := by decide
      have h20 : (0 : Nat) < 1 := by decide
      have h1 := H.out.keep hE2
      have h2 := hO2.sl
      have h3 : (64 : Nat) = 64 * 1 := rfl
      exact sbn_any w0 g gl x p k _ 64 64 1 zs w2 h1 HX.out hk h2 Hzl.out h3 h20 hm (Nat.le_refl _) hne hi Hcl.out hp Hx1.out
    go_wp2_with (go_at_call 47; go_must (refine hQ.mono ?_); rintro e w3 hR; have hR' := RetBrn.from_ hE2 hR; obtain ⟨y, er, rfl, hS3, hU3, hB3⟩ := hR)
    refine ⟨Cls (Ext _), cls_narrowT (by have hU4 := Upd.ofExt (T := fun q => q = g ∨ q = gl) hU2; exact hU4.trans hU3), ⟨⟨_, Upd.refl _ _⟩, rfl⟩, ?_⟩
    repeat (refine head_q rfl (fun K hK => ?_); have hK2 := hide hK; clear hK; go_simp; refine hK2.out _ ?_; clear hK2 K)
    refine head_nil ?_
    try simp only [List.drop_succ_cons, List.drop_zero]
    go_wp2_with fail
    go_ret
    rw [Hzs.out] at hB3
    exact ⟨y, er, rfl, hS3, (Upd.ofExt hE2).trans hU3, Sto.LowR.burnt Hz.out hB3⟩
end Go.Proofs.Ytejjofjhcgdedaa
