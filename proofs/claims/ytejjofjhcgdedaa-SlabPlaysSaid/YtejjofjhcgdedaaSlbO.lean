/- The document's slab, walked: Put. -/
import Derived.Test.YtejjofjhcgdedaaSlbZ
namespace Go.Proofs.Ytejjofjhcgdedaa
set_option linter.unusedSimpArgs false
set_option linter.unusedVariables false
open Go.RowKit
open Sha
attribute [local go_sem] steady steadyUpon Cls same_cell anyW
attribute [local irreducible] wpHead wpTree wpHeadR
theorem fndI_some {l : List (Int × List B8)} {n : Int} {k : Nat} (h : fnd l n = some k) : fndI l n = (k : Int) := by unfold fndI; rw [h]
theorem fndI_none {l : List (Int × List B8)} {n : Int} (h : fnd l n = none) : fndI l n = -1 := by unfold fndI; rw [h]
theorem Dsl.asked_range {d : Dsl} {n : Int} (h : d.asked n = 0) : 0 ≤ n ∧ n < (d.burnt.length : Int) := by
  unfold Dsl.asked at h
  split at h
  · cases h
  · split at h
    · cases h
    · omega
theorem zero64_bV : zero64B.map by8 = List.replicate 64 (.int .u8 0) := by
  unfold zero64B
  rw [List.map_replicate]
  rfl
theorem ink_zero (n : Int) : Try.zeroCells85.setIfInBounds 0 (.int .i64 n) = (iV (n, zero64B)).toArray := by
  have h : Try.zeroCells85 = (.int .i64 0 :: List.replicate 64 (.int .u8 0) : List Value).toArray := by kernel_rfl
  unfold iV
  rw [h, zero64_bV]
  rfl
section
variable {w : World} {B g gb : Nat} {A : Option Addr} {c N : Nat} {d : Dsl}
def RetPut (w : World) (B g gb : Nat) (A : Option Addr) (N : Nat) (er : Int) (d' : Dsl) (e : Ending) (w' : World) : Prop :=
  e = .returned (.int .i64 er) ∧ ∃ A' c', DslW w' B g gb A' c' N d' ∧ (∀ k, inA A' k → inA A k ∨ w.heap.size ≤ k) ∧ Upd (DT g gb A) w w'
set_option maxRecDepth 100000 in
set_option maxHeartbeats 4000000 in
theorem rsput_any (n : Int) (F : Option Addr) (l cf : Nat) (bs : List B8) (h : DslW w B g gb A c N d) (hS : Sl by8 w F bs) (hl : bs.length = l) (hlm : l ≤ 100000000) (hm : d.made < 4611686018427387904) (hf : d.inks.length < 5000) (hB : B ≤ w.heap.size) :
    Calls Try.prog 21 #[.pointer (some ⟨g, 0, none⟩), .int .i64 n, .slice F l cf] w (RetPut w B g gb A N (d.putE n l) (d.put n bs)) := by
  have H := hide h
  have HS := hide hS
  have Hl := hide hl
  have Hm := hide hm
  clear h hS hl hm
  go_enter Try.func21, Try.ntmps21
  go_wp2_with fail
  refine (rsasked_any n H.out).mono ?_
  rintro e w1 ⟨rfl, rfl⟩
  obtain ⟨r, hr⟩ : ∃ r, r = d.asked n := ⟨_, rfl⟩
  rw [← hr]
  have Hr := hide hr
  clear hr
  by_cases h0 : r = 0
  case neg =>
    have hE : d.putE n l = r := by unfold Dsl.putE; rw [← Hr.out, if_neg h0]
    have hI : d.put n bs = d := by unfold Dsl.put; rw [Hl.out, hE, if_neg h0]
    have h0b : (r == 0) = false := beq_eq_false_iff_ne.2 h0
    have HE := hide hE
    have HI := hide hI
    clear hE hI
    go_wp2_with fail
    go_ret
    exact ⟨by rw [HE.out]; rfl, A, c, by rw [HI.out]; exact H.out, fun k hk => .inl hk, Upd.refl _ _⟩
  by_cases h64 : l = 64
  case neg =>
    have hE : d.putE n l = 3 := by unfold Dsl.putE; rw [← Hr.out, if_pos h0, if_neg h64]
    have hI : d.put n bs = d := by unfold Dsl.put; rw [Hl.out, hE, if_neg (by omega)]
    have h0b : ((l : Int) == 64) = false := beq_eq_false_iff_ne.2 (by omega)
    have h0n : ¬ (l : Int) = 64 := by omega
    have HE := hide hE
    have HI := hide hI
    subst h0
    clear hE hI
    go_wp2_with fail
    go_ret
    exact ⟨by rw [HE.out]; rfl, A, c, by rw [HI.out]; exact H.out, fun k hk => .inl hk, Upd.refl _ _⟩
  subst h64
  subst h0
  have hE : d.putE n 64 = 0 := by unfold Dsl.putE; rw [← Hr.out, if_pos rfl, if_pos rfl]
  have hI : d.put n bs = ⟨d.burnt, (match fnd d.inks n with | some i => d.inks.set i (n, bs) | none => d.inks ++ [(n, bs)]), d.stroke.supply, d.stroke.made⟩ := by unfold Dsl.put; rw [Hl.out, hE, if_pos rfl]; rfl
  have HE := hide hE
  have HI := hide hI
  clear hE hI Hr
  go_wp2_with fail
  refine (rsstroke_any H.out Hm.out).mono ?_
  rintro e w2 ⟨rfl, hS2, hU2⟩
  have hF2 : Sl by8 w2 F bs := HS.out.upd hU2 (fun b o e hb => sl8_blk H.out.cells H.out.not8 HS.out (by rw [Hl.out]; decide) (by rw [e]; simp [inA]; exact hb))
  have HS2 := hide hS2
  have HF2 := hide hF2
  have HU2 := hide hU2
  have hsz2 := hU2.size
  clear hS2 hF2 hU2
  go_upto_region 8 with (refine wpList_store_blk (vs := iV (n, zero64B)) rfl rfl rfl (congrArg Value.agg (ink_zero n)) (Blk.new _ _ _) (by rw [iV_len zero64_len]; kernel_rfl) (by rw [iV_len zero64_len]; exact Try.info_ink) (iV_one _) ?_; intro W hBW hUW)
  have b8 : Blk W w2.heap.size 85 ([Value.int .i64 n] ++ zero64B.map by8).toArray := hBW
  have hEW : Ext w2 W := upd_new hUW ((Upd.refl _ _).alloc _) (fun k hk => by have : k = w2.heap.size := hk; omega)
  clear hBW hUW
  have HF3 := hide (HF2.out.ext hEW)
  have Hb8 := hide b8
  clear b8
  go_upto_region 9 with (refine wpList_copy_part by8 one8 [Value.int .i64 n] zero64B bs rfl rfl Try.under_bs Try.sz8 rfl rfl rfl HF3.out Hl.out (show zero64B.length = 64 by kernel_rfl) Hb8.out ?_; intro w4 hB4 hU4)
  rw [onto_all (Hl.out.trans (show 64 = zero64B.length by kernel_rfl))] at hB4
  have hE4 : Ext w2 w4 := upd_new hU4 hEW (fun k hk => by have : k = w2.heap.size := hk; omega)
  have hS4 := HS2.out.ext hE4
  have hB4' : Blk w4 w2.heap.size 85 (iV (n, bs)).toArray := hB4
  have HB4 := hide hB4'
  have HS4 := hide hS4
  have hivl : (iV (n, bs)).length = 65 := iV_len Hl.out
  have Hivl := hide hivl
  have hrg : w4.rangeAt w2.heap.size 0 (iV (n, bs)) := fun j v hv => by rw [Nat.zero_add]; exact HB4.out.at j (by simpa using hv)
  have Hrg := hide hrg
  clear hB4 hB4' hU4 hS4 HF3 Hb8 hivl hrg
  go_wp2_with fail
  refine (rsinked_any n HS4.out).mono ?_
  rintro e w5 ⟨rfl, rfl⟩
  obtain ⟨m, hmm⟩ : ∃ m, m = d.inks.length := ⟨_, rfl⟩
  have hm4 : m < 5000 := by omega
  have q1 : w5.cell? ⟨g, 1, none⟩ = some (.slice A m c) := by rw [hmm]; exact HS4.out.cells.at 1 rfl
  have Hmm := hide hmm
  have hz1 := HS4.out.cells.frozen 1
  clear hmm
  cases hfd : fnd d.inks n with
  | some k =>
    rw [show fndI d.stroke.inks n = (k : Int) from fndI_some hfd]
    obtain ⟨f1, -, -, -⟩ := fnd_some hfd
    have hkm : k < m := by rw [Hmm.out]; exact f1
    have hkI : (k : Int) < (m : Int) := by omega
    obtain ⟨gi, rfl, -, -, -⟩ := HS4.out.ink (i := k) f1
    have HI2 : Hid (d.put n bs = ⟨d.burnt, d.inks.set k (n, bs), d.stroke.supply, d.stroke.made⟩) := hide (by rw [HI.out, hfd])
    have HK := hide f1
    obtain ⟨hS6, hU6⟩ := (HS4.out.ext (Upd.refl _ _).drew).setI (k := k) f1 (n := n) (b := bs) Hl.out
    have HS6 := hide hS6
    have HU6 := hide hU6
    have hth : w5.drew.there gi (k * 65) 65 := (HS4.out.ext (Upd.refl _ _).drew).thereI f1
    have Hth := hide hth
    clear hfd f1 hS6 hU6 hth
    go_wp2_with fail
    refine wp_region_plan (Same _) 7 [(false,0), (false,1), (false,2), (false,3), (false,4), (true,5), (false,6)] (by kernel_rfl) (by kernel_rfl) rfl (fun hne => ?_)
    repeat (refine head_q rfl (fun K hK => ?_); have hK2 := hide hK; clear hK; go_simp; refine hK2.out _ ?_; clear hK2 K)
    refine head_l rfl ?_
    refine wpList_load_mid rfl _ _ rfl w2.heap.size 0 rfl (iV (n, bs)) _ (rangeAt_ext Hrg.out (Upd.refl _ _).drew) Try.underlying85 rfl (by rw [Hivl.out]; exact Try.info_ink) ?_
    go_wp2_with fail
    refine ⟨_, fun _ h => h, ⟨⟨_, rfl⟩, rfl⟩, ?_⟩
    repeat (refine head_q rfl (fun K hK => ?_); have hK2 := hide hK; clear hK; go_simp; refine hK2.out _ ?_; clear hK2 K)
    refine head_nil ?_
    try simp only [List.drop_succ_cons, List.drop_zero]
    go_wp2_with (refine wpList_store_mid rfl _ _ _ rfl gi (k * 65) (iV (n, bs)).toArray rfl rfl (by rw [List.size_toArray, Hivl.out]; exact Hth.out) (by rw [List.size_toArray, Hivl.out]; exact Try.info_ink) (all_oneCell_toArray (iV_one _)) ?_)
    go_ret
    exact ⟨by rw [HE.out]; rfl, some ⟨gi, 0, none⟩, c, by rw [HI2.out]; exact HS6.out, fun k hk => .inl hk, (((HU2.out.mono (fun _ _ h => .inl h)).trans ((Upd.ofExt hE4).trans (Upd.refl _ _).drew)).trans (HU6.out.mono (fun k _ h => .inr (.inr (by have : k = gi := h; simp [inA, this])))))⟩
  | none =>
    rw [show fndI d.stroke.inks n = -1 from fndI_none hfd]
    have HI2 : Hid (d.put n bs = ⟨d.burnt, d.inks ++ [(n, bs)], d.stroke.supply, d.stroke.made⟩) := hide (by rw [HI.out, hfd])
    clear hfd
    have hX : Ext w5 w5.drew := (Upd.refl _ _).drew
    have HX := hide (HS4.out.ext hX)
    have ngA : ¬ inA A g := ownK_blk HS4.out.inks HS4.out.cells (by decide)
    have ngb : ¬ inA A gb := ownK_blk HS4.out.inks HS4.out.burnt (by decide)
    have hgl : g < w5.drew.heap.size := HX.out.cells.lt
    have q1 := fun z : Wd (Upd (inA A) w5.drew) => (z.ok.cell (p := ⟨g, 1, none⟩) hgl ngA).trans (show w5.drew.cell? ⟨g, 1, none⟩ = some (.slice A m c) from by rw [Hmm.out]; exact HX.out.cells.at 1 rfl)
    have hB5 : B ≤ w5.drew.heap.size := Nat.le_trans hB (Nat.le_trans hsz2 hE4.size)
    go_wp2_with fail
    refine wp_region_plan (Upd (inA A) _) 10 [(false,0), (false,1), (false,2), (false,3), (false,4), (true,5), (true,6), (true,7), (false,8), (false,9)] (by kernel_rfl) (by kernel_rfl) (Upd.refl _ _) (fun hne => ?_)
    repeat (refine head_q rfl (fun K hK => ?_); have hK2 := hide hK; clear hK; go_simp; refine hK2.out _ ?_; clear hK2 K)
    refine head_l rfl ?_
    refine wpList_load_mid rfl _ _ rfl w2.heap.size 0 rfl (iV (n, bs)) _ (rangeAt_ext Hrg.out hX) Try.underlying85 rfl (by rw [Hivl.out]; exact Try.info_ink) ?_
    go_wp2_with fail
    refine ⟨_, fun _ h => h, ⟨⟨_, Upd.refl _ _⟩, rfl⟩, ?_⟩
    repeat (refine head_q rfl (fun K hK => ?_); have hK2 := hide hK; clear hK; go_simp; refine hK2.out _ ?_; clear hK2 K)
    refine head_l rfl ?_
    refine wpList_build1 Try.n_elInk rfl rfl rfl Hivl.out (by omega) ?_
    go_wp2_with fail
    refine ⟨_, fun _ h => h, ⟨⟨_, (Upd.refl _ _).alloc _⟩, rfl⟩, ?_⟩
    repeat (refine head_q rfl (fun K hK => ?_); have hK2 := hide hK; clear hK; go_simp; refine hK2.out _ ?_; clear hK2 K)
    have hal : Ext w5.drew (w5.drew.alloc (.cells (iV (n, bs)).toArray 85)) := (Upd.refl _ _).alloc _
    refine head_l rfl ?_
    refine wpList_apk Try.n_elInk (d.inks.flatMap iV) (iV (n, bs)) Hivl.out (iV_one _) rfl rfl rfl (by rw [Hmm.out]; exact HX.out.inks.ext hal) rfl (fun j u hu => by rw [Addr.add_mid, Nat.zero_add]; exact (Blk.new w5.drew _ _).at j (by simpa using hu)) (by unfold maxLen; omega) (by omega) (Nat.le_trans hB5 hal.size) ?_
    intro A2 c2 w6 hO6 hU6 hin6
    have hUA : Upd (inA A) w5.drew w6 := (Upd.ofExt hal).trans hU6
    go_wp2_with fail
    refine ⟨_, fun _ h => h, ⟨⟨_, hUA⟩, rfl⟩, ?_⟩
    repeat (refine head_q rfl (fun K hK => ?_); have hK2 := hide hK; clear hK; go_simp; refine hK2.out _ ?_; clear hK2 K)
    refine head_nil ?_
    try simp only [List.drop_succ_cons, List.drop_zero]
    have hc6 := HX.out.cells.upd hUA ngA
    have y1 := hc6.at 1 rfl
    have y2 := hc6.frozen 1
    have ngA2 : ¬ inA A2 g := fun h => (hin6 g h).elim ngA (fun e => by
      have := hal.size
      rw [e] at hgl
      omega)
    have hset := hc6.set 1 (.slice A2 (m + 1) c2)
    have hUg : Upd (only g) w6 (w6.setCell ⟨g, 1, none⟩ (.slice A2 (m + 1) c2)) := (Upd.refl (only g) _).setCell (T := only g) (p := ⟨g, 1, none⟩) (.inl rfl) _
    have hO7 := hO6.upd hUg (fun k hk e => by have e : k = g := e; subst e; exact ngA2 hk)
    have hlen1 : (d.inks ++ [(n, bs)]).length = m + 1 := by rw [List.length_append, ← Hmm.out]; rfl
    have hfm1 : (d.inks ++ [(n, bs)]).flatMap iV = d.inks.flatMap iV ++ iV (n, bs) := by rw [List.flatMap_append]; simp
    have hUall : Upd (fun k => only g k ∨ inA A k) w5.drew (w6.setCell ⟨g, 1, none⟩ (.slice A2 (m + 1) c2)) := (hUA.mono (fun _ _ h => .inr h)).trans (hUg.mono (fun _ _ h => .inl h))
    have hfin := HX.out.setC (A' := A2) (c' := c2) (d' := ⟨d.burnt, d.inks ++ [(n, bs)], d.stroke.supply, d.stroke.made⟩) (w' := w6.setCell ⟨g, 1, none⟩ (.slice A2 (m + 1) c2)) (by dsimp only; rw [hlen1]; exact hset) hUall (fun h => h.elim (fun e => blk_ne HX.out.cells HX.out.burnt (by decide) (show g = gb from e.symm)) ngb) rfl (by dsimp only; rw [hlen1, hfm1]; exact hO7) (fun p hp => (List.mem_append.1 hp).elim (fun h => HX.out.i64 p h) (fun h => by rw [List.mem_singleton.1 h]; exact Hl.out)) (by dsimp only; rw [hlen1]; omega) HX.out.sup HX.out.mad
    have Hfin := hide hfin
    have HUall := hide hUall
    have hin7 : ∀ k, inA A2 k → inA A k ∨ w1.heap.size ≤ k := fun k hk => (hin6 k hk).imp id (fun e => by
      have h1 := hal.size
      have h2 := hE4.size
      have h3 : w5.drew.heap.size = w5.heap.size := rfl
      omega)
    have Hin7 := hide hin7
    clear hfin hset hUg hO6 hO7 hlen1 hfm1 hUall hin7 hin6 hc6 q1 hU6
    go_wp2_with fail
    go_ret
    exact ⟨by rw [HE.out]; rfl, A2, c2, by rw [HI2.out]; exact Hfin.out, Hin7.out, ((HU2.out.mono (fun _ _ h => .inl h)).trans ((Upd.ofExt hE4).trans (Upd.refl _ _).drew)).trans (HUall.out.mono (fun k _ h => h.imp id .inr))⟩
end
end Go.Proofs.Ytejjofjhcgdedaa
