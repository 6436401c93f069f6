/- The store's Save, walked. -/
import Derived.Test.YtejjofjhcgdedaaStoR
namespace Go.Proofs.Ytejjofjhcgdedaa
set_option linter.unusedSimpArgs false
set_option linter.unusedVariables false
open Go.RowKit Go.Shelf
open Sha
attribute [local go_sem] steady steadyUpon Cls same_cell anyW
attribute [local irreducible] wpHead wpTree wpHeadR Sha.sum
theorem tmod2_N (n : Nat) : (n : Int).tmod 2 = ((n % 2 : Nat) : Int) := by rw [Int.tmod_eq_emod_of_nonneg (by omega)]; omega
theorem wrapi_N {p : Nat} (h : p < 2) : IntKind.i64.wrap (p : Int) = (p : Int) := IntWalk.i64_in _ (by omega)
theorem wrapu_N {n : Nat} (h : n < 18446744073709551616) : IntKind.u64.wrap (n : Int) = (n : Int) := IntWalk.u64_in _ (by omega)
set_option maxRecDepth 100000 in
set_option maxHeartbeats 4000000 in
/-- a state that is too long -/
theorem stsave_long (w0 : World) (g gl : Nat) (x : Slv) (S s k0 l c : Nat) (A : Option Addr) (w : World) (h : SlO w0 w g gl x) (hS : x.secs.length = S) (hS4 : 4 ≤ S) (hS2 : S ≤ 4096) (hB : Blk w s 92 (stcs g k0 false)) (hl : 64 * ((S - 2) / 2) - 44 < l) :
    Calls Try.prog 30 #[.pointer (some ⟨s, 0, none⟩), .slice A l c] w fun e w' => e = .returned (.int .i64 4) ∧ w' = w := by
  have hroomc := sroom_any w0 g gl x S w h hS hS4 hS2
  obtain ⟨room, hroom⟩ : ∃ room, room = 64 * ((S - 2) / 2) - 44 := ⟨_, rfl⟩
  rw [← hroom] at hroomc hl
  have hli : (room : Int) < (l : Int) := by omega
  have d0 : w.cell? ⟨s, 0, none⟩ = some (.pointer (some ⟨g, 0, none⟩)) := hB.at 0 rfl
  have d2 : w.cell? ⟨s, 2, none⟩ = some (.bool false) := hB.at 2 rfl
  clear hB hroom hl
  go_enter Try.func30, Try.ntmps30
  go_wp2_with (go_at_call 44; refine hroomc.mono ?_; rintro e w1 ⟨rfl, rfl⟩)
  go_ret
  exact ⟨rfl, rfl⟩
def RetSav (w0 w : World) (g gl s : Nat) (x : Slv) (S k kk : Nat) (st next : List B8) (e : Ending) (w' : World) : Prop :=
  ∃ y er, e = .returned (.int .i64 er) ∧ SlO w0 w' g gl y ∧ y.secs.length = S ∧ Upd (fun q => q = g ∨ q = gl ∨ q = s) w w' ∧ y.fit (kk + 14400) ∧ (x.endless = true → er = 0 ∧ y.endless = true) ∧
    (er = 0 ∧ Sto.CleanS y ∧ Sto.FndS Sha.sum (Sto.faceN y) S (k + 1) next ∧ Blk w' s 92 (stcs g (k + 1) false) ∨
      er = 12 ∧ ∀ L, Sto.FndS Sha.sum (Sto.faceN (y.woken L)) S k st ∨ Sto.FndS Sha.sum (Sto.faceN (y.woken L)) S (k + 1) next)
theorem stcs_not8 (g n : Nat) (d : Bool) : ∀ v ∈ (stcs g n d).toList, not8 v = true := fun v hv => by
  unfold stcs at hv
  simp at hv
  rcases hv with rfl | rfl | rfl <;> rfl
set_option maxRecDepth 100000 in
set_option maxHeartbeats 4000000 in
theorem stsave_any (w0 : World) (g gl : Nat) (x : Slv) (S s k kk l c : Nat) (A : Option Addr) (st next : List B8) (w : World) (h : SlO w0 w g gl x) (hx : x.fit kk) (hkk : kk ≤ 700000) (hS : x.secs.length = S) (hS4 : 4 ≤ S) (hS2 : S ≤ 4096) (hB : Blk w s 92 (stcs g k false)) (hs : s ≠ g ∧ s ≠ gl ∧ w0.heap.size ≤ s)
    (hcl : Sto.CleanS x) (hf : Sto.FndS Sha.sum (Sto.faceN x) S k st) (hk : k + 1 < 18446744073709551616) (hA : Sl by8 w A next) (hl : next.length = l) (hlc : l ≤ c) (hcm : c ≤ maxLen) (hsep : ∀ b o, A = some ⟨b, o, none⟩ → ¬ (b = g ∨ b = gl)) (hr : l ≤ 64 * ((S - 2) / 2) - 44) :
    Calls Try.prog 30 #[.pointer (some ⟨s, 0, none⟩), .slice A l c] w (RetSav w0 w g gl s x S k kk st next) := by
  have hroomc := sroom_any w0 g gl x S w h hS hS4 hS2
  have hareac := sarea_any w0 g gl x (k + 1) S w h hS hS4 hS2 hk
  have hlow := stlower_any w0 g gl x s k (k + 1) kk false w h hx (by omega) hB ⟨hs.1, hs.2.1⟩ hcl (by omega) (by omega) hk
  obtain ⟨room, hroom⟩ : ∃ room, room = 64 * ((S - 2) / 2) - 44 := ⟨_, rfl⟩
  rw [← hroom] at hroomc
  have hli : ¬ (room : Int) < (l : Int) := by omega
  obtain ⟨m, hm⟩ : ∃ m, m = (S - 2) / 2 := ⟨_, rfl⟩
  rw [← hm] at hareac
  obtain ⟨n, hn⟩ : ∃ n, n = k + 1 := ⟨_, rfl⟩
  rw [← hn] at hareac hlow hk
  obtain ⟨a, ha⟩ : ∃ a, a = Sto.areaF S n := ⟨_, rfl⟩
  rw [← ha] at hareac
  obtain ⟨p, hp⟩ : ∃ p, p = n % 2 := ⟨_, rfl⟩
  rw [← hp] at hlow
  have hpm : (n : Int).tmod 2 = (p : Int) := by rw [hp]; exact tmod2_N n
  have hpi : IntKind.i64.wrap (p : Int) = (p : Int) := wrapi_N (by omega)
  have hkn : (k : Int) + 1 = (n : Int) := by omega
  have hwn : IntKind.u64.wrap (n : Int) = (n : Int) := wrapu_N hk
  have d0 : w.cell? ⟨s, 0, none⟩ = some (.pointer (some ⟨g, 0, none⟩)) := hB.at 0 rfl
  have d1 : w.cell? ⟨s, 1, none⟩ = some (.int .u64 (k : Int)) := hB.at 1 rfl
  have d2 : w.cell? ⟨s, 2, none⟩ = some (.bool false) := hB.at 2 rfl
  have hx4 : 4 ≤ x.secs.length := by omega
  have hnr : next.length ≤ 64 * ((x.secs.length - 2) / 2) - 44 := by rw [hS, hl]; exact hr
  have hfx : Sto.FndS Sha.sum (Sto.faceN x) x.secs.length k st := by rw [hS]; exact hf
  have H := hide h
  have HX := hide hx
  have HSl := hide hA
  have HS := hide hS
  have HB := hide hB
  have Hcl := hide hcl
  have Hf := hide hfx
  have Hlow := hide hlow
  have Hl := hide hl
  have Hnr := hide hnr
  have Hn := hide hn
  have Ha := hide ha
  have Hp := hide hp
  have Hm := hide hm
  have Hroom := hide hroom
  have Hk := hide hk
  have Hr := hide hr
  clear h hx hA hS hB hcl hf hfx hlow hl hnr hn ha hp hm hroom hk hr
  go_enter Try.func30, Try.ntmps30
  go_wp2_with (first
    | (go_at_call 44; refine hroomc.mono ?_; rintro e w1 ⟨rfl, hw1⟩; rw [hw1]; clear hw1 w1)
    | (go_at_call 45; refine hareac.mono ?_; rintro e w1 ⟨rfl, hw1⟩; rw [hw1]; clear hw1 w1))
  refine Hlow.out.mono ?_
  rintro e w1 ⟨y1, e1, rfl, hS1, hU1, hL1⟩
  have hB1 := HB.out.upd hU1 (fun h => h.elim hs.1 hs.2.1)
  rw [Hp.out, Hn.out] at hL1
  have hT1 : ∀ q, q < w.heap.size → (q = g ∨ q = gl) → (q = g ∨ q = gl ∨ q = s) := fun q _ h => h.elim .inl (fun h => .inr (.inl h))
  clear d0 d1 d2 hroomc hareac Hlow Hroom HB
  have hlen1 := hL1.same.1
  rcases hL1.err with rfl | rfl
  rotate_left
  · have HS1 := hide hS1
    have HU1 := hide hU1
    have HL1 := hide hL1
    have HB1 := hide hB1
    have Hlen1 := hide hlen1
    clear hS1 hU1 hL1 hB1 hlen1
    -- w1 world, y1 slab, HS1 it is there, HU1 what turned, HB1 the store's block, by rw [Hlen1.out]; exact HS.out its length, by have := HL1.out.fit; refine Slv.fit_up this ?_; have := HS.out; omega fit, by have := HL1.out.endless hx; exact absurd this.1 (by decide) not endless, by have := HL1.out.cut Hcl.out hx4 Hf.out L; rw [HS.out] at this; exact .inl this what wakes
    have hB9 := HB1.out.set 2 (.bool true)
    have hS9 := SlO.other HS1.out HB1.out (stcs_not8 _ _ _) hs.1 hs.2.1 hs.2.2 ((Upd.refl (only s) w1).setCell (p := ⟨s, 2, none⟩) (.inl rfl) (.bool true))
    have hU9 : Upd (fun q => q = g ∨ q = gl ∨ q = s) w (w1.setCell ⟨s, 2, none⟩ (.bool true)) := (HU1.out.mono hT1).setCell (p := ⟨s, 2, none⟩) (.inl (.inr (.inr rfl))) _
    have f9 := HB1.out.frozen 2
    have c9 : w1.cell? ⟨s, 2, none⟩ = some (.bool false) := HB1.out.at 2 rfl
    have HS9 := hide hS9
    have HU9 := hide hU9
    clear hS9 hU9 hB9
    go_wp2_with fail
    go_ret
    exact ⟨y1, 12, rfl, HS9.out, by rw [Hlen1.out]; exact HS.out, HU9.out, by have := HL1.out.fit; refine Slv.fit_up this ?_; have := HS.out; omega, fun hx => by have := HL1.out.endless hx; exact absurd this.1 (by decide), .inr ⟨rfl, fun L => by have := HL1.out.cut Hcl.out hx4 Hf.out L; rw [HS.out] at this; exact .inl this⟩⟩
  have hst1 := hL1.stp hx4 Hf.out
  have hft1 : y1.fit (kk + 4097) := Slv.fit_up hL1.fit (by have := HS.out; omega)
  have hen1 : x.endless = true → y1.endless = true := fun h => (hL1.endless h).2
  have d0 : w1.cell? ⟨s, 0, none⟩ = some (.pointer (some ⟨g, 0, none⟩)) := hB1.at 0 rfl
  have hSl1 : Sl by8 w1 A next := HSl.out.upd hU1 hsep
  have HS1 := hide hS1
  have HU1 := hide hU1
  have HB1 := hide hB1
  have Hst1 := hide hst1
  have Hft1 := hide hft1
  have Hen1 := hide hen1
  have HSl1 := hide hSl1
  have Hlen1 := hide hlen1
  clear hS1 hU1 hL1 hB1 hst1 hft1 hen1 hSl1 hlen1 HSl Hcl
  go_wp2_with fail
  obtain ⟨mw, hmw⟩ : ∃ mw, mw = (44 + l + 63) / 64 := ⟨_, rfl⟩
  obtain ⟨Lw, hLw⟩ : ∃ Lw, Lw = 64 * mw := ⟨_, rfl⟩
  have hmb : 1 ≤ mw ∧ mw ≤ m ∧ m ≤ 2048 ∧ a + m ≤ S ∧ l ≤ 131072 := by
    have := Hr.out
    have hm := Hm.out
    have ha := Ha.out
    unfold Sto.areaF at ha
    rcases Nat.mod_two_eq_zero_or_one n with h0 | h0
    · rw [h0, Nat.zero_mul] at ha; omega
    · rw [h0, Nat.one_mul] at ha; omega
  have hLe : (44 + next.length + 63) / 64 * 64 = Lw := by rw [Hl.out, hLw, hmw]; omega
  have Hmw := hide hmw
  have HLw := hide hLw
  have Hmb := hide hmb
  have HLe := hide hLe
  clear hmw hLw hmb hLe
  obtain ⟨zs, hzs⟩ : ∃ zs, zs = Sto.wholeB Sha.sum n next := ⟨_, rfl⟩
  have hzl : zs.length = Lw := by rw [hzs, Sto.wholeB_length Sha.sum sum_length]; exact HLe.out
  have Hzs := hide hzs
  have Hzl := hide hzl
  clear hzs hzl
  have h1a : a + mw ≤ y1.secs.length := by rw [Hlen1.out]; have := HS.out; have := Hmb.out; omega
  have h1l : 4 ≤ y1.secs.length := by rw [Hlen1.out]; exact hx4
  have h1m : y1.secs.length ≤ 4096 := by rw [Hlen1.out, HS.out]; exact hS2
  have hmw4 : 0 < mw ∧ mw ≤ 4096 := by have := Hmb.out; omega
  -- 11 region, w1 world, y1 slab, HS1 it is there, HU1 what turned, Hft1 fit, Hst1 clean, a first, kk + 4097 fit's number, Lw length, mw sectors, go_wp2_with (go_at_call 48; go_must (refine (swhole_any n A l c next wd (HSl1.out.ext (by rw [Hwd.out]; exact (Upd.refl _ _).drew)) Hl.out hlc hcm (by have := Hmb.out; omega) Hk.out).mono ?_); rintro e w2 ⟨A2, c2, rfl, hO2, hU2⟩; rw [← Hzs.out] at hO2; rw [HLe.out]) arm
  have kb := fun z : Wd (Upd (fun q => q = g ∨ q = gl) w1.drew) => (z.ok.cell (p := ⟨s, 0, none⟩) (World.block_lt_of_cell? w1 _ d0) (fun e => e.elim hs.1 hs.2.1)).trans d0
  refine wp_region_plan (Upd (fun q => q = g ∨ q = gl) _) 9 [(false,0), (false,1), (false,2), (false,3), (false,4), (false,5), (false,6), (true,7), (true,8)] (by kernel_rfl) (by kernel_rfl) (Upd.refl _ _) (fun hne => ?_)
  repeat (refine head_q rfl (fun K hK => ?_); have hK2 := hide hK; clear hK; go_simp; refine hK2.out _ ?_; clear hK2 K)
  refine head_l rfl ?_
  obtain ⟨wd, hwd⟩ : ∃ wd, wd = w1.drew := ⟨_, rfl⟩
  rw [← hwd]
  have Hwd := hide hwd
  clear hwd
  go_wp2_with (go_at_call 48; go_must (refine (swhole_any n A l c next wd (HSl1.out.ext (by rw [Hwd.out]; exact (Upd.refl _ _).drew)) Hl.out hlc hcm (by have := Hmb.out; omega) Hk.out).mono ?_); rintro e w2 ⟨A2, c2, rfl, hO2, hU2⟩; rw [← Hzs.out] at hO2; rw [HLe.out])
  have hE2 : Ext w1 w2 := by rw [Hwd.out] at hU2; exact (Upd.refl _ _).drew.trans hU2
  refine ⟨_, fun _ h => h, ⟨⟨_, Upd.ofExt hU2⟩, rfl⟩, ?_⟩
  repeat (refine head_q rfl (fun K hK => ?_); have hK2 := hide hK; clear hK; go_simp; refine hK2.out _ ?_; clear hK2 K)
  refine head_l rfl ?_
  have hne := own_apart (w := w1) HS1.out hO2 (by rw [Hwd.out]; exact Nat.le_refl _)
  have hQ : Calls Try.prog 47 #[.pointer (some ⟨g, 0, none⟩), .int .i64 (a : Int), .slice A2 Lw c2] w2 (RetBrn w0 w2 g gl y1 a (kk + 4097) zs) := by
    have h1 := HS1.out.keep hE2
    have h2 := hO2.sl
    have hcc : Lw ≤ c2 := by have := hO2.cap.1; rw [List.length_map, Hzl.out] at this; exact this
    exact sbn_any w0 g gl y1 a (kk + 4097) _ Lw c2 mw zs w2 h1 Hft1.out (by omega) h2 Hzl.out HLw.out hmw4.1 hmw4.2 hcc hne h1a Hst1.out.clean (Nat.lt_of_lt_of_le (by decide) h1l) h1m
  go_wp2_with (go_at_call 47; go_must (refine hQ.mono ?_); rintro e w3 ⟨y2, e2, rfl, hS3, hU3, hB3⟩)
  have hU3w : Upd (fun q => q = g ∨ q = gl) w w3 := (HU1.out.trans (Upd.ofExt hE2)).trans' hU3 (fun _ _ h => h)
  refine ⟨Cls (Ext _), cls_narrowT (by have hU4 := Upd.ofExt (T := fun q => q = g ∨ q = gl) hU2; exact hU4.trans hU3), ⟨⟨_, Upd.refl _ _⟩, rfl⟩, ?_⟩
  repeat (refine head_q rfl (fun K hK => ?_); have hK2 := hide hK; clear hK; go_simp; refine hK2.out _ ?_; clear hK2 K)
  refine head_nil ?_
  try simp only [List.drop_succ_cons, List.drop_zero]
  have hft := hB3.fit
  rw [Hzl.out] at hft
  have hBk := (HB1.out.ext hE2).upd hU3 (fun h => h.elim hs.1 hs.2.1)
  rw [Hzs.out] at hB3
  clear kb hQ hne hE2 hU3 hO2 hU2
  rw [Ha.out, Hn.out, ← HS.out] at hB3
  have hft2 : y2.fit (kk + 10241) := Slv.fit_up hft (by have := Hmb.out; have := HLw.out; omega)
  have hlen2 : y2.secs.length = x.secs.length := hB3.brn.same.1.trans Hlen1.out
  have d0 : w3.cell? ⟨s, 0, none⟩ = some (.pointer (some ⟨g, 0, none⟩)) := hBk.at 0 rfl
  have HS3 := hide hS3
  have HU3 := hide hU3w
  have HB3 := hide hBk
  have Hft2 := hide hft2
  have HR3 := hide hB3
  have Hlen2 := hide hlen2
  clear hS3 hU3w hBk hft hft2 hB3 hlen2 Hzs Hzl zs h1a h1l h1m hmw4
  rcases HR3.out.brn.err with rfl | rfl
  rotate_left
  · clear d0
    -- w3 world, y2 slab, HS3 it is there, HU3 what turned, HB3 the store's block, by rw [Hlen2.out]; exact HS.out its length, by exact Slv.fit_up Hft2.out (by omega) fit, by have := HR3.out.endless (Hen1.out hx); exact absurd this.1 (by decide) not endless, by have := Hst1.out.cut hx4 Hnr.out HR3.out.brn L; rw [HS.out] at this; exact .inl this what wakes
    have hB9 := HB3.out.set 2 (.bool true)
    have hS9 := SlO.other HS3.out HB3.out (stcs_not8 _ _ _) hs.1 hs.2.1 hs.2.2 ((Upd.refl (only s) w3).setCell (p := ⟨s, 2, none⟩) (.inl rfl) (.bool true))
    have hU9 : Upd (fun q => q = g ∨ q = gl ∨ q = s) w (w3.setCell ⟨s, 2, none⟩ (.bool true)) := (HU3.out.mono hT1).setCell (p := ⟨s, 2, none⟩) (.inl (.inr (.inr rfl))) _
    have f9 := HB3.out.frozen 2
    have c9 : w3.cell? ⟨s, 2, none⟩ = some (.bool false) := HB3.out.at 2 rfl
    have HS9 := hide hS9
    have HU9 := hide hU9
    clear hS9 hU9 hB9
    go_wp2_with fail
    go_ret
    exact ⟨y2, 12, rfl, HS9.out, by rw [Hlen2.out]; exact HS.out, HU9.out, by exact Slv.fit_up Hft2.out (by omega), fun hx => by have := HR3.out.endless (Hen1.out hx); exact absurd this.1 (by decide), .inr ⟨rfl, fun L => by have := Hst1.out.cut hx4 Hnr.out HR3.out.brn L; rw [HS.out] at this; exact .inl this⟩⟩
  have hst2 := Hst1.out.stq hx4 Hnr.out HR3.out.brn
  have hen2 : x.endless = true → y2.endless = true := fun h => (HR3.out.endless (Hen1.out h)).2
  have Hst2 := hide hst2
  have Hen2 := hide hen2
  clear hst2 hen2 Hst1 HS1 HU1 HB1 HR3 HSl1 HLw HLe Hmw
  go_wp2_with fail
  obtain ⟨zs, hzs⟩ : ∃ zs, zs = Sto.flagB := ⟨_, rfl⟩
  have hzl : zs.length = 64 := by rw [hzs]; rfl
  have Hzs := hide hzs
  have Hzl := hide hzl
  clear hzs hzl
  have h1a : p + 1 ≤ y2.secs.length := by rw [Hlen2.out]; have := Hp.out; omega
  have h1l : 4 ≤ y2.secs.length := by rw [Hlen2.out]; exact hx4
  have h1m : y2.secs.length ≤ 4096 := by rw [Hlen2.out, HS.out]; exact hS2
  have hmw4 : 0 < 1 ∧ 1 ≤ 4096 := by decide
  -- 13 region, w3 world, y2 slab, HS3 it is there, HU3 what turned, Hft2 fit, Hst2 clean, p first, kk + 10241 fit's number, 64 length, 1 sectors, go_wp2_with (go_at_call 49; go_must (refine (sflag_any wd).mono ?_); rintro e w2 ⟨A2, c2, rfl, hO2, hU2⟩; rw [← Hzs.out] at hO2) arm
  have kb := fun z : Wd (Upd (fun q => q = g ∨ q = gl) w3.drew) => (z.ok.cell (p := ⟨s, 0, none⟩) (World.block_lt_of_cell? w3 _ d0) (fun e => e.elim hs.1 hs.2.1)).trans d0
  refine wp_region_plan (Upd (fun q => q = g ∨ q = gl) _) 9 [(false,0), (false,1), (false,2), (false,3), (false,4), (false,5), (false,6), (true,7), (true,8)] (by kernel_rfl) (by kernel_rfl) (Upd.refl _ _) (fun hne => ?_)
  repeat (refine head_q rfl (fun K hK => ?_); have hK2 := hide hK; clear hK; go_simp; refine hK2.out _ ?_; clear hK2 K)
  refine head_l rfl ?_
  obtain ⟨wd, hwd⟩ : ∃ wd, wd = w3.drew := ⟨_, rfl⟩
  rw [← hwd]
  have Hwd := hide hwd
  clear hwd
  go_wp2_with (go_at_call 49; go_must (refine (sflag_any wd).mono ?_); rintro e w2 ⟨A2, c2, rfl, hO2, hU2⟩; rw [← Hzs.out] at hO2)
  have hE2 : Ext w3 w2 := by rw [Hwd.out] at hU2; exact (Upd.refl _ _).drew.trans hU2
  refine ⟨_, fun _ h => h, ⟨⟨_, Upd.ofExt hU2⟩, rfl⟩, ?_⟩
  repeat (refine head_q rfl (fun K hK => ?_); have hK2 := hide hK; clear hK; go_simp; refine hK2.out _ ?_; clear hK2 K)
  refine head_l rfl ?_
  have hne := own_apart (w := w3) HS3.out hO2 (by rw [Hwd.out]; exact Nat.le_refl _)
  have hQ : Calls Try.prog 47 #[.pointer (some ⟨g, 0, none⟩), .int .i64 (p : Int), .slice A2 64 c2] w2 (RetBrn w0 w2 g gl y2 p (kk + 10241) zs) := by
    have h1 := HS3.out.keep hE2
    have h2 := hO2.sl
    have hcc : 64 ≤ c2 := by have := hO2.cap.1; rw [List.length_map, Hzl.out] at this; exact this
    exact sbn_any w0 g gl y2 p (kk + 10241) _ 64 c2 1 zs w2 h1 Hft2.out (by omega) h2 Hzl.out rfl hmw4.1 hmw4.2 hcc hne h1a Hst2.out.clean (Nat.lt_of_lt_of_le (by decide) h1l) h1m
  go_wp2_with (go_at_call 47; go_must (refine hQ.mono ?_); rintro e w5 ⟨y3, e3, rfl, hS3, hU3, hB3⟩)
  have hU3w : Upd (fun q => q = g ∨ q = gl) w w5 := (HU3.out.trans (Upd.ofExt hE2)).trans' hU3 (fun _ _ h => h)
  refine ⟨Cls (Ext _), cls_narrowT (by have hU4 := Upd.ofExt (T := fun q => q = g ∨ q = gl) hU2; exact hU4.trans hU3), ⟨⟨_, Upd.refl _ _⟩, rfl⟩, ?_⟩
  repeat (refine head_q rfl (fun K hK => ?_); have hK2 := hide hK; clear hK; go_simp; refine hK2.out _ ?_; clear hK2 K)
  refine head_nil ?_
  try simp only [List.drop_succ_cons, List.drop_zero]
  have hft := hB3.fit
  rw [Hzl.out] at hft
  have hBk := (HB3.out.ext hE2).upd hU3 (fun h => h.elim hs.1 hs.2.1)
  rw [Hzs.out] at hB3
  clear kb hQ hne hE2 hU3 hO2 hU2
  rw [Hp.out, Hn.out] at hB3
  have hft3 : y3.fit (kk + 14400) := Slv.fit_up hft (by omega)
  have hlen3 : y3.secs.length = x.secs.length := hB3.brn.same.1.trans Hlen2.out
  have HS5 := hide hS3
  have HU5 := hide hU3w
  have HB5 := hide hBk
  have Hft3 := hide hft3
  have HR5 := hide hB3
  have Hlen3 := hide hlen3
  clear hS3 hU3w hBk hft hft3 hB3 hlen3 Hzs Hzl zs h1a h1l h1m hmw4 d0
  rcases HR5.out.brn.err with rfl | rfl
  rotate_left
  · skip
    -- w5 world, y3 slab, HS5 it is there, HU5 what turned, HB5 the store's block, by rw [Hlen3.out]; exact HS.out its length, by exact Hft3.out fit, by have := HR5.out.endless (Hen2.out hx); exact absurd this.1 (by decide) not endless, by have := Hst2.out.cut hx4 Hnr.out HR5.out.brn L; rw [HS.out] at this; exact this what wakes
    have hB9 := HB5.out.set 2 (.bool true)
    have hS9 := SlO.other HS5.out HB5.out (stcs_not8 _ _ _) hs.1 hs.2.1 hs.2.2 ((Upd.refl (only s) w5).setCell (p := ⟨s, 2, none⟩) (.inl rfl) (.bool true))
    have hU9 : Upd (fun q => q = g ∨ q = gl ∨ q = s) w (w5.setCell ⟨s, 2, none⟩ (.bool true)) := (HU5.out.mono hT1).setCell (p := ⟨s, 2, none⟩) (.inl (.inr (.inr rfl))) _
    have f9 := HB5.out.frozen 2
    have c9 : w5.cell? ⟨s, 2, none⟩ = some (.bool false) := HB5.out.at 2 rfl
    have HS9 := hide hS9
    have HU9 := hide hU9
    clear hS9 hU9 hB9
    go_wp2_with fail
    go_ret
    exact ⟨y3, 12, rfl, HS9.out, by rw [Hlen3.out]; exact HS.out, HU9.out, by exact Hft3.out, fun hx => by have := HR5.out.endless (Hen2.out hx); exact absurd this.1 (by decide), .inr ⟨rfl, fun L => by have := Hst2.out.cut hx4 Hnr.out HR5.out.brn L; rw [HS.out] at this; exact this⟩⟩
  have hdone := Hst2.out.done hx4 Hnr.out HR5.out.brn
  have hB9 := HB5.out.set 1 (.int .u64 (n : Int))
  have hS9 := SlO.other HS5.out HB5.out (stcs_not8 _ _ _) hs.1 hs.2.1 hs.2.2 ((Upd.refl (only s) w5).setCell (p := ⟨s, 1, none⟩) (.inl rfl) (.int .u64 (n : Int)))
  have hU9 : Upd (fun q => q = g ∨ q = gl ∨ q = s) w (w5.setCell ⟨s, 1, none⟩ (.int .u64 (n : Int))) := (HU5.out.mono hT1).setCell (p := ⟨s, 1, none⟩) (.inl (.inr (.inr rfl))) _
  have f9 := HB5.out.frozen 1
  have c9 : w5.cell? ⟨s, 1, none⟩ = some (.int .u64 (k : Int)) := HB5.out.at 1 rfl
  have HS9 := hide hS9
  have HU9 := hide hU9
  have HB9 := hide hB9
  have Hdone := hide hdone
  clear hS9 hU9 hB9 hdone
  go_wp2_with fail
  go_ret
  have hd := Hdone.out
  rw [HS.out] at hd
  exact ⟨y3, 0, rfl, HS9.out, by rw [Hlen3.out]; exact HS.out, HU9.out, Hft3.out, fun h => ⟨rfl, (HR5.out.endless (Hen2.out h)).2⟩, .inl ⟨rfl, hd.1, hd.2.2, by rw [← Hn.out]; exact HB9.out⟩⟩
end Go.Proofs.Ytejjofjhcgdedaa
