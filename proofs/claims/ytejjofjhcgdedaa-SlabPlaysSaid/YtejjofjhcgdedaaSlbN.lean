/- The document's slab, walked: Burn. -/
import Derived.Test.YtejjofjhcgdedaaSlbO
import Derived.Test.YtejjofjhcgdedaaApkz
namespace Go.Proofs.Ytejjofjhcgdedaa
set_option linter.unusedSimpArgs false
set_option linter.unusedVariables false
open Go.RowKit
open Sha
attribute [local go_sem] steady steadyUpon Cls same_cell anyW
attribute [local irreducible] wpHead wpTree wpHeadR
/-- how many inks a slab of the document holds in this world -/
def inkLen (w : World) (g : Nat) : Nat := match w.cell? ⟨g, 1, none⟩ with | some (.slice _ n _) => n | _ => 0
section
variable {w : World} {B g gb : Nat} {A : Option Addr} {c N : Nat} {d : Dsl}
theorem DslW.inkLen_eq (h : DslW w B g gb A c N d) : inkLen w g = d.inks.length := by
  unfold inkLen
  rw [show w.cell? ⟨g, 1, none⟩ = some (.slice A d.inks.length c) from h.cells.at 1 rfl]
theorem DslW.srcL (h : DslW w B g gb A c N d) {k : Nat} (hk : k ≤ d.inks.length) : 0 < k → ∃ ad, A = some ad ∧ ∀ j u, ((d.inks.take k).flatMap iV)[j]? = some u → w.cell? (ad.add j) = some u := fun h0 => by
  obtain ⟨gi, rfl, -, -, hc⟩ := h.inks.open_ (by omega)
  have hl : ∀ p ∈ d.inks, (iV p).length = 65 := fun p hp => iV_len (h.i64 p hp)
  refine ⟨_, rfl, fun j u hu => ?_⟩
  rw [Addr.add_mid, Nat.zero_add]
  rw [← fm_take iV 65 hl hk, List.getElem?_take] at hu
  split at hu
  · rw [hc j (List.getElem?_eq_some_iff.1 hu).1]; exact hu
  · cases hu
theorem DslW.srcR (h : DslW w B g gb A c N d) {k : Nat} (hk : k + 1 ≤ d.inks.length) : 0 < d.inks.length - (k + 1) → ∃ ad, shZ A c (k + 1) 65 = some ad ∧ ∀ j u, ((d.inks.drop (k + 1)).flatMap iV)[j]? = some u → w.cell? (ad.add j) = some u := fun h0 => by
  obtain ⟨gi, rfl, -, -, hc⟩ := h.inks.open_ (by omega)
  have hl : ∀ p ∈ d.inks, (iV p).length = 65 := fun p hp => iV_len (h.i64 p hp)
  have hcap := h.inks.cap.1
  refine ⟨⟨gi, (k + 1) * 65, none⟩, ?_, fun j u hu => ?_⟩
  · unfold shZ
    rw [if_neg (by omega)]
    simp only [Option.map_some, Addr.add_mid, Nat.zero_add]
  · rw [Addr.add_mid]
    rw [← fm_drop iV 65 hl hk, List.getElem?_drop] at hu
    rw [hc _ (List.getElem?_eq_some_iff.1 hu).1]; exact hu
theorem Dsl.burnN_succ {f : Nat} {d : Dsl} (h : d.inks ≠ []) (hs : d.supply ≠ 0) : Dsl.burnN (f + 1) d = Dsl.burnN f d.burn1 := by
  rw [Dsl.burnN, if_neg h, if_neg hs]
theorem Dsl.burnN_dead {f : Nat} {d : Dsl} (h : d.inks ≠ []) (hs : d.supply = 0) : Dsl.burnN (f + 1) d = (d, 12) := by
  rw [Dsl.burnN, if_neg h, if_pos hs]
set_option maxRecDepth 100000 in
set_option maxHeartbeats 8000000 in
theorem rsburn_any (h : DslW w B g gb A c N d) (hB : B ≤ w.heap.size) (hm : d.made + d.inks.length < 4611686018427387904) (hkey : ∀ p ∈ d.inks, 0 ≤ p.1 ∧ p.1 < (N : Int)) :
    Calls Try.prog 23 #[.pointer (some ⟨g, 0, none⟩)] w (RetPut w B g gb A N d.burn.2 d.burn.1) := by
  have q2 : w.cell? ⟨g, 2, none⟩ = some (.int .i64 d.supply) := h.cells.at 2 rfl
  have H := hide h
  obtain ⟨s, hs⟩ : ∃ s, s = d.supply := ⟨_, rfl⟩
  rw [← hs] at q2
  have Hs := hide hs
  have Hm := hide hm
  have Hkey := hide hkey
  clear h hs hm hkey
  go_enter Try.func23, Try.ntmps23
  by_cases h0 : s = 0
  · have hb : Hid (d.burn = (d, 12)) := hide (by unfold Dsl.burn; rw [if_pos (Hs.out.symm.trans h0)])
    subst h0
    go_wp2_with fail
    go_ret
    exact ⟨by rw [hb.out]; rfl, A, c, by rw [hb.out]; exact H.out, fun k hk => .inl hk, Upd.refl _ _⟩
  have h0b : (s == 0) = false := beq_eq_false_iff_ne.2 h0
  have hb : Hid (d.burn = Dsl.burnN d.inks.length d) := hide (by unfold Dsl.burn; rw [if_neg (fun e => h0 (Hs.out.trans e))])
  go_wp2_with fail
  clear q2 h0b
  go_loopw [3] (fun v wr => ∃ (A' : Option Addr) (c' : Nat) (d' : Dsl), DslW wr B g gb A' c' N d' ∧ Hid (d.burn = Dsl.burnN d'.inks.length d') ∧ Hid (d'.made + d'.inks.length < 4611686018427387904) ∧ Hid (∀ p ∈ d'.inks, 0 ≤ p.1 ∧ p.1 < (N : Int)) ∧ Hid (∀ k, inA A' k → inA A k ∨ w.heap.size ≤ k) ∧ Upd (DT g gb A) w wr) (fun _ wr => inkLen wr g)
  case atStart => exact ⟨A, c, d, H.out, hb, Hm, Hkey, hide (fun k hk => .inl hk), Upd.refl _ _⟩
  case round =>
    clear hb Hm Hkey Hs h0
    refine name_wx (fun Z hZ => ?_)
    subst hZ
    obtain ⟨A', c', d', hD, Hb, Hm, Hkey, Hin, hU⟩ := hrel
    have HD := hide hD
    have HU := hide hU
    obtain ⟨m, hmm⟩ : ∃ m, m = d'.inks.length := ⟨_, rfl⟩
    have hm4 : m ≤ 5000 := by rw [hmm]; exact hD.few
    have q1 : Z.cell? ⟨g, 1, none⟩ = some (.slice A' m c') := by rw [hmm]; exact hD.cells.at 1 rfl
    obtain ⟨s, hs⟩ : ∃ s, s = d'.supply := ⟨_, rfl⟩
    have q2 : Z.cell? ⟨g, 2, none⟩ = some (.int .i64 s) := by rw [hs]; exact hD.cells.at 2 rfl
    have hIL := hD.inkLen_eq
    rw [← hmm] at hIL
    have Hmm := hide hmm
    have Hs := hide hs
    have HIL := hide hIL
    clear hD hU hmm hs hIL
    by_cases hm0 : m = 0
    · have hmI : ¬ (0 : Int) < (m : Int) := by omega
      have hfin : Hid (d.burn = (d', 0)) := hide (by rw [Hb.out, ← Hmm.out, hm0]; rfl)
      go_wp2_with fail
      go_ret
      exact ⟨by rw [hfin.out]; rfl, A', c', by rw [hfin.out]; exact HD.out, Hin.out, HU.out⟩
    have hmI : (0 : Int) < (m : Int) := by omega
    have hne0 : d'.inks ≠ [] := fun e => hm0 (by rw [Hmm.out, e]; rfl)
    have Hne0 := hide hne0
    clear hne0
    by_cases hs0 : s = 0
    · have hfin : Hid (d.burn = (d', 12)) := hide (by
        obtain ⟨f, hf⟩ : ∃ f, d'.inks.length = f + 1 := ⟨m - 1, by rw [← Hmm.out]; omega⟩
        rw [Hb.out, hf, Dsl.burnN_dead Hne0.out (Hs.out.symm.trans hs0)])
      subst hs0
      go_wp2_with fail
      go_ret
      exact ⟨by rw [hfin.out]; rfl, A', c', by rw [hfin.out]; exact HD.out, Hin.out, HU.out⟩
    have hs0b : (s == 0) = false := beq_eq_false_iff_ne.2 hs0
    have hmD : decide (0 < m) = true := decide_eq_true (by omega)
    have hnext : Hid (d.burn = Dsl.burnN d'.burn1.inks.length d'.burn1) := hide (by
      rw [Hb.out, Dsl.burn1_len Hne0.out]
      obtain ⟨f, hf⟩ : ∃ f, d'.inks.length = f + 1 := ⟨m - 1, by rw [← Hmm.out]; omega⟩
      rw [hf, Dsl.burnN_succ Hne0.out (fun e => hs0 (Hs.out.trans e))]
      rfl)
    have Hs0 := hide hs0
    clear hs0
    go_wp2_with fail
    clear hs0b q1 q2
    go_loopw [26, 3] (fun iv lv wr => ∃ (i l : Nat), i ≤ m ∧ iv = .int .i64 (i : Int) ∧ lv = .int .i64 (l : Int) ∧ Hid (l = lowAt d'.inks i) ∧ Ext Z wr) (fun iv _ _ => m - (Go.RowKit.intOf iv).toNat)
    case atStart => exact ⟨0, 0, Nat.zero_le _, rfl, rfl, hide rfl, Upd.refl _ _⟩
    case round =>
      obtain ⟨i, l, hi, rfl, rfl, Hl, hEl⟩ := hrel
      have HDl := hide (HD.out.ext hEl)
      have q1 : wr.cell? ⟨g, 1, none⟩ = some (.slice A' m c') := by rw [Hmm.out]; exact HDl.out.cells.at 1 rfl
      by_cases hlt : i < m
      · have hltI : (i : Int) < (m : Int) := by omega
        have hlm : l < m := by rw [Hl.out]; exact lowAt_lt _ (by omega) _ hi
        have hlmI : (l : Int) < (m : Int) := by omega
        obtain ⟨gi, rfl, hci, -, -⟩ := HDl.out.ink (i := i) (by rw [← Hmm.out]; exact hlt)
        obtain ⟨gi', e, hcl, -, -⟩ := HDl.out.ink (i := l) (by rw [← Hmm.out]; exact hlm)
        injection e with e
        injection e with e
        subst e
        obtain ⟨x, hx⟩ : ∃ x, x = (gat d'.inks i).1 := ⟨_, rfl⟩
        obtain ⟨y, hy⟩ : ∃ y, y = (gat d'.inks l).1 := ⟨_, rfl⟩
        rw [← hx] at hci
        rw [← hy] at hcl
        have hstep : lowAt d'.inks (i + 1) = if x < y then i else l := by
          rw [lowAt, ← Hl.out, ← hx, ← hy]
        have Hstep := hide hstep
        clear hx hy hstep
        by_cases hxy : x < y
        · go_wp2_with fail
          refine wp_region_plan (Same _) 16 [(false,0), (false,1), (false,2), (false,3), (false,4), (false,5), (false,6), (false,7), (false,8), (false,9), (false,10), (false,11), (false,12), (false,13), (false,14), (false,15)] (by kernel_rfl) (by kernel_rfl) rfl (fun hne => ?_)
          repeat (refine head_q rfl (fun K hK => ?_); have hK2 := hide hK; clear hK; go_simp; refine hK2.out _ ?_; clear hK2 K)
          refine head_nil ?_
          try simp only [List.drop_succ_cons, List.drop_zero]
          go_wp2_with fail
          go_roundw
          case rel => exact ⟨i + 1, i, by omega, by go_num, rfl, hide (by rw [Hstep.out, if_pos hxy]), hEl.trans (Upd.refl _ _).drew⟩
          case measure => simp [Go.RowKit.intOf]; omega
        · go_wp2_with fail
          refine wp_region_plan (Same _) 16 [(false,0), (false,1), (false,2), (false,3), (false,4), (false,5), (false,6), (false,7), (false,8), (false,9), (false,10), (false,11), (false,12), (false,13), (false,14), (false,15)] (by kernel_rfl) (by kernel_rfl) rfl (fun hne => ?_)
          repeat (refine head_q rfl (fun K hK => ?_); have hK2 := hide hK; clear hK; go_simp; refine hK2.out _ ?_; clear hK2 K)
          refine head_nil ?_
          try simp only [List.drop_succ_cons, List.drop_zero]
          go_wp2_with fail
          go_roundw
          case rel => exact ⟨i + 1, l, by omega, by go_num, rfl, hide (by rw [Hstep.out, if_neg (by omega)]), hEl.trans (Upd.refl _ _).drew⟩
          case measure => simp [Go.RowKit.intOf]; omega
      · obtain rfl : m = i := by omega
        have hltI : ¬ (m : Int) < (m : Int) := by omega
        obtain ⟨k, hk⟩ : ∃ k, k = l := ⟨_, rfl⟩
        have hkm : k < m := by rw [hk, Hl.out]; exact lowAt_lt _ (by omega) _ (Nat.le_refl _)
        have hkl : k < d'.inks.length := by rw [← Hmm.out]; exact hkm
        have hkd : k = lowAt d'.inks d'.inks.length := by rw [hk, Hl.out, Hmm.out]
        obtain rfl : k = l := hk
        obtain ⟨p, hp⟩ : ∃ p, p = gat d'.inks k := ⟨_, rfl⟩
        obtain ⟨n, b⟩ := p
        have hmem : (n, b) ∈ d'.inks := by rw [hp, gat_lt hkl]; exact List.getElem_mem _
        have hnr := Hkey.out _ hmem
        dsimp only at hnr
        obtain ⟨q, rfl⟩ := Int.eq_ofNat_of_zero_le hnr.1
        have hqN : q < N := by omega
        have hqI : (q : Int) < (N : Int) := by omega
        have hN4 := HD.out.max
        have hbl : b.length = 64 := HD.out.i64 _ hmem
        have hb1 : d'.burn1 = ⟨d'.burnt.set q b, d'.inks.eraseIdx k, d'.stroke.supply, d'.stroke.made⟩ := by
          unfold Dsl.burn1
          rw [← hkd, ← hp]
          rfl
        have Hb1 := hide hb1
        have Hp := hide hp
        have Hkl := hide hkl
        have Hbl := hide hbl
        have hkmI : (k : Int) < (m : Int) := by omega
        clear hkd hp hmem hnr hbl hb1 hkl Hl
        have hmade : d'.made < 4611686018427387904 := by have := Hm.out; omega
        go_wp2_with fail
        refine (rsstroke_any HDl.out hmade).mono ?_
        rintro e w2 ⟨rfl, hS2, hU2⟩
        have HS2 := hide hS2
        have HU2 := hide hU2
        obtain ⟨gi, rfl, hci, hrb, -⟩ := HS2.out.ink (i := k) Hkl.out
        have hst : gat d'.stroke.inks k = ((q : Int), b) := Hp.out.symm
        rw [hst] at hci hrb
        have q0 : w2.cell? ⟨g, 0, none⟩ = some (.slice (some ⟨gb, 0, none⟩) N N) := HS2.out.cells.at 0 rfl
        have q1 : w2.cell? ⟨g, 1, none⟩ = some (.slice (some ⟨gi, 0, none⟩) m c') := by rw [Hmm.out]; exact HS2.out.cells.at 1 rfl
        have Hrb := hide hrb
        have HbV := hide (bV_len Hbl.out)
        have hX2 : Ext w2 w2.drew := (Upd.refl _ _).drew
        have HX2 := hide (HS2.out.ext hX2)
        have Hth := hide (HX2.out.thereB hqN)
        obtain ⟨hS3, hU3⟩ := HX2.out.setB hqN Hbl.out
        have HS3 := hide hS3
        have HU3 := hide hU3
        clear hS2 hU2 hst hrb hS3 hU3 hX2
        go_wp2_with fail
        refine wp_region_plan (Same _) 21 [(false,0), (false,1), (false,2), (false,3), (false,4), (false,5), (false,6), (false,7), (false,8), (false,9), (false,10), (false,11), (false,12), (false,13), (false,14), (false,15), (false,16), (false,17), (false,18), (true,19), (false,20)] (by kernel_rfl) (by kernel_rfl) rfl (fun hne => ?_)
        repeat (refine head_q rfl (fun K hK => ?_); have hK2 := hide hK; clear hK; go_simp; refine hK2.out _ ?_; clear hK2 K)
        refine head_l rfl ?_
        refine wpList_load_mid rfl _ _ rfl gi (k * 65 + 1) rfl (bV b) _ (rangeAt_ext Hrb.out (Upd.refl _ _).drew) Try.underlying83 rfl (by rw [HbV.out]; exact Try.info_f64) ?_
        go_wp2_with fail
        refine ⟨_, fun _ h => h, ⟨⟨_, rfl⟩, rfl⟩, ?_⟩
        repeat (refine head_q rfl (fun K hK => ?_); have hK2 := hide hK; clear hK; go_simp; refine hK2.out _ ?_; clear hK2 K)
        refine head_nil ?_
        try simp only [List.drop_succ_cons, List.drop_zero]
        clear q0 q1 hci
        go_upto_region 15 with (refine wpList_store_mid rfl _ _ _ rfl gb (q * 64) (bV b).toArray rfl rfl (by rw [List.size_toArray, HbV.out]; exact Hth.out) (by rw [List.size_toArray, HbV.out]; exact Try.info_f64) (all_oneCell_toArray (bV_one _)) ?_)
        refine name_wx (fun w3 hw3 => ?_)
        have hS3 := HS3.out
        have hU3 := HU3.out
        rw [show w2.drew.setCells gb (q * 64) (bV b) = w3 from hw3.symm] at hS3 hU3
        have HS4 := hide hS3
        have HU4 := hide hU3
        clear hw3 hS3 hU3
        have hX3 : Ext w3 w3.drew := (Upd.refl _ _).drew
        have HX3 := hide (HS4.out.ext hX3)
        have hcap : m ≤ c' := by have := HX3.out.inks.cap.1; rw [Hmm.out]; exact this
        obtain ⟨k1, hk1I, hk1⟩ : ∃ k1 : Nat, (k : Int) + 1 = (k1 : Int) ∧ k1 = k + 1 := ⟨k + 1, by omega, rfl⟩
        have hk1m : k1 ≤ m := by omega
        have hk1w : IntKind.i64.wrap (k1 : Int) = (k1 : Int) := by simp [IntKind.wrap, IntKind.signed, IntKind.bits]; omega
        obtain ⟨m1, hm1⟩ : ∃ m1, m1 = m - 1 := ⟨_, rfl⟩
        have hm1k : k + (m - k1) = m1 := by omega
        have Hk1 := hide hk1
        have Hm1 := hide hm1
        clear hk1 hm1
        have hcH := fun w : World => run_cutz_h (P := Try.prog) (T := 50) (e := 85) (sz := 65) Try.underlying50 Try.info_ink (some ⟨gi, 0, none⟩) m c' k .i64 (by omega) w
        have hcL := fun w : World => run_cutz_l (P := Try.prog) (T := 50) (e := 85) (sz := 65) Try.underlying50 Try.info_ink (some ⟨gi, 0, none⟩) m c' k1 .i64 hk1m w
        have q1 := fun z : Wd (Ext w3.drew) => z.ok.cellv (show w3.drew.cell? ⟨g, 1, none⟩ = some (.slice (some ⟨gi, 0, none⟩) m c') from by rw [Hmm.out]; exact HX3.out.cells.at 1 rfl)
        have HUz : Hid (Upd (fun k => k = g ∨ k = gb) Z w3.drew) := hide (((Upd.ofExt hEl).trans ((HU2.out.mono (fun _ _ h => .inl h)).trans (Upd.refl _ _).drew)).trans ((HU4.out.mono (fun _ _ h => .inr h)).trans (Upd.refl _ _).drew))
        have hBz : w.heap.size ≤ w3.drew.heap.size := Nat.le_trans HU.out.size HUz.out.size
        have hB3 : B ≤ w3.drew.heap.size := Nat.le_trans hB hBz
        have hi64 : ∀ p ∈ d'.inks, p.2.length = 64 := HX3.out.i64
        have hll : ((d'.inks.take k).flatMap iV).length = k * 65 := by
          rw [fm_len iV 65 _ (fun p hp => iV_len (hi64 p (List.mem_of_mem_take hp))), List.length_take, Nat.min_eq_left (Nat.le_of_lt Hkl.out)]
        have hlr : ((d'.inks.drop (k + 1)).flatMap iV).length = (m - k1) * 65 := by
          rw [fm_len iV 65 _ (fun p hp => iV_len (hi64 p (List.mem_of_mem_drop hp))), List.length_drop, Hk1.out, ← Hmm.out]
        have hcut : (d'.inks.eraseIdx k).flatMap iV = (d'.inks.take k).flatMap iV ++ (d'.inks.drop (k + 1)).flatMap iV := by rw [List.eraseIdx_eq_take_drop_succ, List.flatMap_append]
        have hlen1 : (d'.inks.eraseIdx k).length = m1 := by rw [List.length_eraseIdx_of_lt Hkl.out, ← Hmm.out, Hm1.out]
        have Hll := hide hll
        have Hlr := hide hlr
        have Hcut := hide hcut
        have Hlen1 := hide hlen1
        have hng : ¬ inA (some ⟨gi, 0, none⟩) g := ownK_blk HX3.out.inks HX3.out.cells (by decide)
        have hgl : g < w3.drew.heap.size := HX3.out.cells.lt
        clear hll hlr hcut hlen1 hX3
        go_wp2_with fail
        refine wp_region_plan (Ext _) 19 [(false,0), (false,2), (false,3), (false,4), (false,5), (false,6), (false,7), (false,9), (false,10), (false,11), (false,12), (false,13), (false,14), (false,15), (true,1), (true,8), (true,16), (false,17), (false,18)] (by kernel_rfl) (by kernel_rfl) (Upd.refl _ _) (fun hne => ?_)
        repeat (refine head_q rfl (fun K hK => ?_); have hK2 := hide hK; clear hK; go_simp; refine hK2.out _ ?_; clear hK2 K)
        refine head_l rfl ?_
        go_wp2_with fail
        refine ⟨Cls (Ext _), fun _ h => h, ⟨⟨_, ((Upd.refl _ _).alloc _)⟩, rfl⟩, ?_⟩
        repeat (refine head_q rfl (fun K hK => ?_); have hK2 := hide hK; clear hK; go_simp; refine hK2.out _ ?_; clear hK2 K)
        refine head_l rfl ?_
        have hal : Ext w3.drew (w3.drew.alloc (.cells #[] 85)) := (Upd.refl _ _).alloc _
        refine wpList_apks Try.n_elInk [] ((d'.inks.take k).flatMap iV) k k Hll.out (fmI_one _) rfl rfl rfl (OwnK.lit0 w3.drew _ 65 (Nat.le_refl _)) rfl ((HX3.out.ext hal).srcL (Nat.le_of_lt Hkl.out)) (Nat.zero_add _) (by unfold maxLen; omega) (by omega) hal.size ?_
        intro A5 c5 w5 hO5 hU5 hin5
        rw [List.nil_append] at hO5
        have hE5 : Ext w3.drew w5 := upd_new hU5 hal (fun kk hk => by have : kk = w3.drew.heap.size := (by simpa [inA] using hk.symm); omega)
        go_wp2_with fail
        refine ⟨_, fun _ h => h, ⟨⟨_, hE5⟩, rfl⟩, ?_⟩
        repeat (refine head_q rfl (fun K hK => ?_); have hK2 := hide hK; clear hK; go_simp; refine hK2.out _ ?_; clear hK2 K)
        have hA5 : ∀ k, inA A5 k → w3.drew.heap.size ≤ k := fun kk hk => (hO5.in_ hk).1
        refine head_l rfl ?_
        refine wpList_apks Try.n_elInk ((d'.inks.take k).flatMap iV) ((d'.inks.drop (k + 1)).flatMap iV) (m - k1) m1 Hlr.out (fmI_one _) rfl rfl rfl hO5 rfl (by have h := (HX3.out.ext hE5).srcR (k := k) Hkl.out; rw [Hk1.out, Hmm.out]; exact h) hm1k (by unfold maxLen; omega) (by omega) hE5.size ?_
        intro A6 c6 w6 hO6 hU6 hin6
        have hE6 : Ext w3.drew w6 := upd_new hU6 hE5 hA5
        go_wp2_with fail
        refine ⟨_, fun _ h => h, ⟨⟨_, hE6⟩, rfl⟩, ?_⟩
        repeat (refine head_q rfl (fun K hK => ?_); have hK2 := hide hK; clear hK; go_simp; refine hK2.out _ ?_; clear hK2 K)
        refine head_nil ?_
        try simp only [List.drop_succ_cons, List.drop_zero]
        have hA6 : ∀ k, inA A6 k → w3.drew.heap.size ≤ k := fun kk hk => (hO6.in_ hk).1
        have hc6 := HX3.out.cells.ext hE6
        have y1 := hc6.at 1 rfl
        have y2 := hc6.frozen 1
        have ngA6 : ¬ inA A6 g := fun h => by have := hA6 g h; omega
        have hset := hc6.set 1 (.slice A6 m1 c6)
        have hUg : Upd (only g) w6 (w6.setCell ⟨g, 1, none⟩ (.slice A6 m1 c6)) := (Upd.refl (only g) _).setCell (T := only g) (p := ⟨g, 1, none⟩) (.inl rfl) _
        have hO7 : OwnK (w6.setCell ⟨g, 1, none⟩ (.slice A6 m1 c6)) B 85 65 A6 m1 c6 ((d'.inks.take k).flatMap iV ++ (d'.inks.drop (k + 1)).flatMap iV) := by
          have h1 := hO6.upd hUg (fun k hk e => by have e : k = g := e; subst e; exact ngA6 hk)
          obtain ⟨z1, z2⟩ := h1
          refine ⟨z1, z2.imp id ?_⟩
          rintro ⟨g', cap, cur, hv, hb, r⟩
          exact ⟨g', cap, cur, hv, Nat.le_trans hB3 hb, r⟩
        have hUall : Upd (only g) w3.drew (w6.setCell ⟨g, 1, none⟩ (.slice A6 m1 c6)) := (Upd.ofExt hE6).trans hUg
        have hne : ¬ only g gb := fun e => blk_ne HX3.out.cells HX3.out.burnt (by decide) (show g = gb from e.symm)
        have hfin := HX3.out.setC (A' := A6) (c' := c6) (d' := ⟨d'.burnt.set q b, d'.inks.eraseIdx k, d'.stroke.supply, d'.stroke.made⟩) (w' := w6.setCell ⟨g, 1, none⟩ (.slice A6 m1 c6)) (by dsimp only; rw [Hlen1.out]; exact hset) hUall hne rfl (by dsimp only; rw [Hlen1.out, Hcut.out]; exact hO7) (fun p hp => HX3.out.i64 p (List.mem_of_mem_eraseIdx hp)) (by dsimp only; rw [Hlen1.out]; omega) HX3.out.sup HX3.out.mad
        rw [← Hb1.out] at hfin
        have hIL2 : inkLen (w6.setCell ⟨g, 1, none⟩ (.slice A6 m1 c6)) g = m1 := by rw [hfin.inkLen_eq, Hb1.out]; exact Hlen1.out
        have HIL2 := hide hIL2
        have Hfin := hide hfin
        have HUf := hide (HU.out.trans ((HUz.out.trans (hUall.mono (fun _ _ h => .inl h))).mono (fun k _ h => h.elim .inl (fun h => .inr (.inl h)))))
        have Hin6 : Hid (∀ k, inA A6 k → inA A k ∨ w.heap.size ≤ k) := hide (fun k hk => .inr (Nat.le_trans hBz (hA6 k hk)))
        have Hm2 : Hid (d'.burn1.made + d'.burn1.inks.length < 4611686018427387904) := hide (by
          rw [Hb1.out]
          dsimp only
          rw [Hlen1.out]
          have h1 := Hm.out
          rw [← Hmm.out] at h1
          have h2 : d'.stroke.made = d'.made + 1 := rfl
          have h3 := Hm1.out
          omega)
        have Hk2 : Hid (∀ p ∈ d'.burn1.inks, 0 ≤ p.1 ∧ p.1 < (N : Int)) := hide (fun p hp => Hkey.out p (by rw [Hb1.out] at hp; exact List.mem_of_mem_eraseIdx hp))
        clear hset hUg hO6 hO7 hfin hUall hc6 hO5 hU5 hin5 hU6 hin6 hIL2 q1 hcH hcL hA5 hA6
        go_wp2_with fail
        go_roundw
        case rel => exact ⟨A6, c6, d'.burn1, Hfin.out, hnext, Hm2, Hk2, Hin6, HUf.out⟩
        case measure =>
          have h1 := HIL.out
          have h2 := HIL2.out
          have h3 := Hm1.out
          first | omega | (simp only [h1, h2]; omega)
end
end Go.Proofs.Ytejjofjhcgdedaa
