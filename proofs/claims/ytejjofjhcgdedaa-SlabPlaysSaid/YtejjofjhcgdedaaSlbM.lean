/- The document's slab, walked: Wake. -/
import Derived.Test.YtejjofjhcgdedaaSlbN
namespace Go.Proofs.Ytejjofjhcgdedaa
set_option linter.unusedSimpArgs false
set_option linter.unusedVariables false
open Go.RowKit
open Sha
attribute [local go_sem] steady steadyUpon Cls same_cell anyW
attribute [local irreducible] wpHead wpTree wpHeadR
theorem Dsl.scar_same (d : Dsl) (s : Int × List B8) : (d.scar s).inks = d.inks ∧ (d.scar s).supply = d.supply ∧ (d.scar s).made = d.made := by
  unfold Dsl.scar
  cases fnd d.inks s.1 <;> exact ⟨rfl, rfl, rfl⟩
theorem Dsl.scars_same (d : Dsl) : ∀ l : List (Int × List B8), (d.scars l).inks = d.inks ∧ (d.scars l).supply = d.supply ∧ (d.scars l).made = d.made := fun l => by
  unfold Dsl.scars
  induction l generalizing d with
  | nil => exact ⟨rfl, rfl, rfl⟩
  | cons s r ih =>
    rw [List.foldl_cons]
    obtain ⟨h1, h2, h3⟩ := ih (d.scar s)
    obtain ⟨k1, k2, k3⟩ := d.scar_same s
    exact ⟨h1.trans k1, h2.trans k2, h3.trans k3⟩
theorem Dsl.scars_snoc (d : Dsl) (l : List (Int × List B8)) (s : Int × List B8) : d.scars (l ++ [s]) = (d.scars l).scar s := by
  unfold Dsl.scars
  rw [List.foldl_append]
  rfl
theorem name_cq' {P : Program} {f : Nat} {vs : Array Value} {Q : Ending → World → Prop} {W : World} (h : ∀ W', W' = W → Calls P f vs W' Q) : Calls P f vs W Q := h W rfl
section
variable {w : World} {B g gb : Nat} {A : Option Addr} {c N : Nat} {d : Dsl}
set_option maxRecDepth 100000 in
set_option maxHeartbeats 8000000 in
theorem rswake_any (F : Option Addr) (n cf : Nat) (ss : List Sca) (h : DslW w B g gb A c N d) (hL : ScaL w F ss) (hn : ss.length = n) (hm : n ≤ maxLen) (hB : B ≤ w.heap.size) (hkey : ∀ p ∈ d.inks, 0 ≤ p.1 ∧ p.1 < (N : Int)) (hsF : 0 < n → ¬ inA F gb) (hsA : ∀ i, i < ss.length → 0 < (gat ss i).l → ¬ inA (gat ss i).A gb) :
    Calls Try.prog 25 #[.pointer (some ⟨g, 0, none⟩), .slice F n cf] w fun e w' => e = .returned (.tuple #[]) ∧ DslW w' B g gb none 0 N (d.woken (scaV ss)) ∧ Upd (DT g gb A) w w' := by
  have H := hide h
  have HL := hide hL
  have Hn := hide hn
  have Hkey := hide hkey
  have HsF := hide hsF
  have HsA := hide hsA
  have hn9 : n ≤ 9223372036854775807 := by unfold maxLen at hm; omega
  clear h hL hn hkey hsF hsA hm
  go_enter Try.func25, Try.ntmps25
  go_wp2_with fail
  go_loopw [9] (fun iv wr => ∃ (k : Nat) (d' : Dsl), k ≤ n ∧ iv = .int .i64 (k : Int) ∧ Hid (d' = d.scars ((scaV ss).take k)) ∧ DslW wr B g gb A c N d' ∧ Upd (only gb) w wr) (fun iv _ => n - (Go.RowKit.intOf iv).toNat)
  case atStart => exact ⟨0, d, Nat.zero_le _, rfl, hide rfl, H.out, Upd.refl _ _⟩
  case round =>
    obtain ⟨k, d', hk, rfl, Hd, hD, hU⟩ := hrel
    have HD := hide hD
    have HU := hide hU
    have hsame := d.scars_same ((scaV ss).take k)
    rw [← Hd.out] at hsame
    have Hsame := hide hsame
    clear hD hU hsame
    by_cases hlt : k < n
    case neg =>
      obtain rfl : k = n := by omega
      have hltI : ¬ (k : Int) < (k : Int) := by omega
      have htk : (scaV ss).take k = scaV ss := List.take_of_length_le (by unfold scaV; rw [List.length_map, Hn.out]; exact Nat.le_refl _)
      have hw : d.woken (scaV ss) = ⟨d'.burnt, [], -1, d'.made⟩ := by
        unfold Dsl.woken
        rw [Hsame.out.2.2, Hd.out, htk]
      have Hw := hide hw
      have z1 := HD.out.cells.at 1 rfl
      have z2 := HD.out.cells.at 2 rfl
      have z3 := HD.out.cells.frozen 1
      have z4 := HD.out.cells.frozen 2
      have c1 := (HD.out.cells.set 1 (.slice none 0 0)).set 2 (.int .i64 (-1))
      have hU1 : Upd (only g) wr ((wr.setCell ⟨g, 1, none⟩ (.slice none 0 0)).setCell ⟨g, 2, none⟩ (.int .i64 (-1))) := ((Upd.refl (only g) _).setCell (T := only g) (p := ⟨g, 1, none⟩) (.inl rfl) _).setCell (T := only g) (p := ⟨g, 2, none⟩) (.inl rfl) _
      have hne : ¬ only g gb := fun e => blk_ne HD.out.cells HD.out.burnt (by decide) (show g = gb from e.symm)
      have hfin := HD.out.setC (A' := none) (c' := 0) (d' := ⟨d'.burnt, [], -1, d'.made⟩) c1 hU1 hne rfl OwnK.nil (fun p hp => absurd hp (by simp)) (by simp) ⟨by show (-1 : Int) ≤ -1; decide, by show (-1 : Int) ≤ 9223372036854775807; decide⟩ HD.out.mad
      have Hfin := hide hfin
      have HU1 := hide hU1
      clear htk hw c1 hU1 hfin
      go_wp2_with fail
      go_end0
      exact ⟨rfl, by rw [Hw.out]; exact Hfin.out, (HU.out.mono (fun _ _ h => .inr (.inl h))).trans (HU1.out.mono (fun _ _ h => .inl h))⟩
    have hltI : (k : Int) < (n : Int) := by omega
    obtain ⟨s, hs⟩ : ∃ s, s = gat ss k := ⟨_, rfl⟩
    have hkl : k < ss.length := by rw [Hn.out]; exact hlt
    obtain ⟨b0, o0, rfl, c0, c1, hok⟩ := HL.out k hkl
    have hb0 : ¬ only gb b0 := fun e => HsF.out (by omega) (by have e : b0 = gb := e; simp [inA, e])
    replace c0 := (HU.out.cell (World.block_lt_of_cell? w _ c0) hb0).trans c0
    replace c1 := (HU.out.cell (World.block_lt_of_cell? w _ c1) hb0).trans c1
    have hrow : Sl by8 wr s.A s.bs := by
      rw [hs]
      rcases Nat.eq_zero_or_pos (gat ss k).l with h0 | h0
      · exact fun i hi => absurd hi (by rw [hok.len, h0]; omega)
      · exact hok.row.upd HU.out (fun b o e hb => HsA.out k hkl h0 (by have hb : b = gb := hb; rw [e]; simp [inA, hb]))
    have hsl := hok.len
    have hsl9 : s.l ≤ 9223372036854775807 := by have h1 := hok.cap; have h2 := hok.max; unfold maxLen at h2; rw [hs]; omega
    rw [← hs] at c0 c1 hsl
    have htk : (scaV ss).take (k + 1) = (scaV ss).take k ++ [(s.n, s.bs)] := by
      have h1 : k < (scaV ss).length := by unfold scaV; rw [List.length_map]; exact hkl
      have h2 : (scaV ss)[k]'h1 = (s.n, s.bs) := by
        rw [hs, gat_lt hkl]
        exact List.getElem_map _
      rw [List.take_succ_eq_append_getElem h1, h2]
    have hdn : d.scars ((scaV ss).take (k + 1)) = d'.scar (s.n, s.bs) := by rw [htk, Dsl.scars_snoc, ← Hd.out]
    have Hdn := hide hdn
    have Hrow := hide hrow
    have Hsl := hide hsl
    obtain ⟨z, A0, l0, cc0, bs⟩ := s
    dsimp only at c0 c1 hsl9
    clear hs hok hrow hsl htk hdn
    go_wp2_with fail
    refine name_cq' (fun W hW => ?_)
    have hEW : Ext wr W := by rw [hW]; exact (Upd.refl _ _).alloc _
    have b5 : Blk W wr.heap.size 88 #[.int .i64 z, .slice A0 l0 cc0] := by rw [hW]; exact Blk.new _ _ _
    clear hW c0 c1
    have HDW := hide (HD.out.ext hEW)
    refine (rsinked_any z HDW.out).mono ?_
    rintro e w2 ⟨rfl, rfl⟩
    cases hf : fnd d'.inks z with
    | none =>
      rw [fndI_none hf]
      have hsc : Hid (d.scars ((scaV ss).take (k + 1)) = d') := hide (by rw [Hdn.out]; unfold Dsl.scar; dsimp only; rw [hf])
      clear hf
      go_wp2_with fail
      go_roundw
      case rel => exact ⟨k + 1, d', by omega, by go_num, hide hsc.out.symm, HDW.out, HU.out.trans ((Upd.ofExt hEW))⟩
      case measure => simp [Go.RowKit.intOf]; omega
    | some q =>
      obtain ⟨f1, f2, -, -⟩ := fnd_some hf
      have hr := Hkey.out (gat d.inks q) (by have f1' : q < d.inks.length := by rw [← Hsame.out.1]; exact f1
                                             rw [gat_lt f1']; exact List.getElem_mem _)
      rw [← Hsame.out.1, f2] at hr
      obtain ⟨m, rfl⟩ := Int.eq_ofNat_of_zero_le hr.1
      have hmN : m < N := by omega
      have hmI : (m : Int) < (N : Int) := by omega
      have hN4 := HD.out.max
      have hsc : Hid (d.scars ((scaV ss).take (k + 1)) = ⟨d'.burnt.set m (onto zero64B bs), d'.inks, d'.supply, d'.made⟩) := hide (by rw [Hdn.out]; unfold Dsl.scar; dsimp only; rw [hf]; rfl)
      rw [fndI_some hf]
      clear hf f1 f2 hr
      go_upto_region 5 with (refine wpList_store_blk (vs := bV zero64B) rfl rfl rfl rfl (Blk.new _ _ _) (by rw [bV_len zero64_len]; rfl) (by rw [bV_len zero64_len]; exact Try.info_f64) (bV_one _) ?_; intro w3 hB3 hU3)
      have hE3 : Ext w2 w3 := upd_new hU3 ((Upd.refl _ _).alloc _) (fun k hk => by have : k = w2.heap.size := hk; omega)
      have HB3 := hide (show Blk w3 w2.heap.size 83 ([] ++ zero64B.map by8).toArray from hB3)
      clear hB3 hU3
      have b53 := b5.ext hE3
      have q5 : w3.cell? ⟨wr.heap.size, 0, none⟩ = some (.int .i64 (m : Int)) := b53.at 0 rfl
      have q6 : w3.cell? ⟨wr.heap.size, 1, none⟩ = some (.slice A0 l0 cc0) := b53.at 1 rfl
      have HD3 := hide (HDW.out.ext hE3)
      have q0 : w3.cell? ⟨g, 0, none⟩ = some (.slice (some ⟨gb, 0, none⟩) N N) := HD3.out.cells.at 0 rfl
      have hE3r := hEW.trans hE3
      have Hrow3 := hide (Hrow.out.ext hE3r)
      refine wp_region_plan (Same _) 3 [(false,0), (false,1), (false,2)] (by kernel_rfl) (by kernel_rfl) rfl (fun hne => ?_)
      repeat (refine head_q rfl (fun K hK => ?_); have hK2 := hide hK; clear hK; go_simp; refine hK2.out _ ?_; clear hK2 K)
      refine head_nil ?_
      try simp only [List.drop_succ_cons, List.drop_zero]
      go_upto_region 6 with (refine wpList_copy_part by8 one8 [] zero64B bs rfl rfl Try.under_bs Try.sz8 rfl rfl rfl (Hrow3.out.ext (Upd.refl _ _).drew) Hsl.out (show zero64B.length = 64 by kernel_rfl) (HB3.out.ext (Upd.refl _ _).drew) ?_; intro w4 hB4 hU4)
      have hE4 : Ext w2 w4 := upd_new hU4 (hE3.trans (Upd.refl _ _).drew) (fun k hk => by have : k = w2.heap.size := hk; omega)
      obtain ⟨b2, hb2⟩ : ∃ b, b = onto zero64B bs := ⟨_, rfl⟩
      have hb2l : b2.length = 64 := by rw [hb2, onto_length]; exact zero64_len
      rw [← hb2] at hB4 hsc
      have HB4 := hide (show Blk w4 w2.heap.size 83 (bV b2).toArray from hB4)
      have HbV := hide (bV_len hb2l)
      have Hb2l := hide hb2l
      have hr4 : w4.rangeAt w2.heap.size 0 (bV b2) := fun j v hv => by rw [Nat.zero_add]; exact HB4.out.at j (by simpa using hv)
      have Hr4 := hide hr4
      have HD4 := hide (HDW.out.ext hE4)
      have r0 : w4.cell? ⟨g, 0, none⟩ = some (.slice (some ⟨gb, 0, none⟩) N N) := HD4.out.cells.at 0 rfl
      have r5 : w4.cell? ⟨wr.heap.size, 0, none⟩ = some (.int .i64 (m : Int)) := (b5.ext hE4).at 0 rfl
      have HX4 := hide (HD4.out.ext (Upd.refl _ w4).drew)
      have Hth := hide (HX4.out.thereB hmN)
      obtain ⟨hS5, hU5⟩ := HX4.out.setB hmN Hb2l.out
      have HS5 := hide hS5
      have HU5 := hide hU5
      have HE4 := hide (hEW.trans hE4)
      clear hB4 hb2 hb2l hr4 hS5 hU5 hU4 hE3 hE3r b53 q5 q6 q0 hE4 b5 hEW
      go_wp2_with fail
      refine wp_region_plan (Same _) 8 [(false,0), (false,1), (false,2), (false,3), (false,4), (false,5), (true,6), (false,7)] (by kernel_rfl) (by kernel_rfl) rfl (fun hne => ?_)
      repeat (refine head_q rfl (fun K hK => ?_); have hK2 := hide hK; clear hK; go_simp; refine hK2.out _ ?_; clear hK2 K)
      refine head_l rfl ?_
      refine wpList_load_mid rfl _ _ rfl w2.heap.size 0 rfl (bV b2) _ (rangeAt_ext Hr4.out (Upd.refl _ _).drew) Try.underlying83 rfl (by rw [HbV.out]; exact Try.info_f64) ?_
      go_wp2_with fail
      refine ⟨_, fun _ h => h, ⟨⟨_, rfl⟩, rfl⟩, ?_⟩
      repeat (refine head_q rfl (fun K hK => ?_); have hK2 := hide hK; clear hK; go_simp; refine hK2.out _ ?_; clear hK2 K)
      refine head_nil ?_
      try simp only [List.drop_succ_cons, List.drop_zero]
      clear r0 r5
      go_wp2_with (refine wpList_store_mid rfl _ _ _ rfl gb (m * 64) (bV b2).toArray rfl rfl (by rw [List.size_toArray, HbV.out]; exact Hth.out) (by rw [List.size_toArray, HbV.out]; exact Try.info_f64) (all_oneCell_toArray (bV_one _)) ?_)
      go_roundw
      case rel => exact ⟨k + 1, _, by omega, by go_num, hide hsc.out.symm, HS5.out, HU.out.trans ((Upd.ofExt (HE4.out.trans (Upd.refl _ _).drew)).trans HU5.out)⟩
      case measure => simp [Go.RowKit.intOf]; omega
end
end Go.Proofs.Ytejjofjhcgdedaa
