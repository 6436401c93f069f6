/- The store's Format, walked: its three steps. -/
import Derived.Test.YtejjofjhcgdedaaSto5
import Derived.Test.YtejjofjhcgdedaaSto3
namespace Go.Proofs.Ytejjofjhcgdedaa
set_option linter.unusedSimpArgs false
set_option linter.unusedVariables false
open Go.RowKit Go.Shelf
open Sha
attribute [local go_sem] steady steadyUpon Cls same_cell anyW
attribute [local irreducible] wpHead wpTree wpHeadR Sha.sum
theorem RetBrn.from_ {w0 w w1 : World} {g gl : Nat} {x : Slv} {first k : Nat} {b : List B8} {e : Ending} {w' : World} (hE : Ext w w1) (h : RetBrn w0 w1 g gl x first k b e w') : RetBrn w0 w g gl x first k b e w' := by
  obtain ⟨y, er, h1, h2, h3, h4⟩ := h
  exact ⟨y, er, h1, h2, (hE.mono (fun _ _ h => h.elim)).trans h3, h4⟩
/-- burn, of any bytes that lie apart -/
theorem sbn_any (w0 : World) (g gl : Nat) (x : Slv) (first k : Nat) (A : Option Addr) (l c m : Nat) (b : List B8) (w : World) (h : SlO w0 w g gl x) (hx : x.fit k) (hk : k ≤ 800000) (hS : Sl by8 w A b) (hl : b.length = l) (hlm : l = 64 * m) (hm0 : 0 < m) (hm : m ≤ 4096) (hc : l ≤ c)
    (hne : ∀ q, inA A q → q ≠ g ∧ q ≠ gl) (hin : first + m ≤ x.secs.length) (hcl : Sto.CleanS x) (hx0 : 0 < x.secs.length) (hx1 : x.secs.length ≤ 4096) :
    Calls Try.prog 47 #[.pointer (some ⟨g, 0, none⟩), .int .i64 (first : Int), .slice A l c] w (RetBrn w0 w g gl x first k b) := by
  subst hlm
  obtain ⟨gA, oA, rfl, -, -⟩ := hS.open_ (by omega)
  exact stburn_any w0 g gl x first k gA oA m c b w h hx hk hS hl hm hc (hne gA (by unfold inA; rfl)) hin hcl hx0 hx1
theorem own_apart {w w0 w1 : World} {g gl : Nat} {x : Slv} {B : Nat} {A : Option Addr} {c : Nat} {vs : List Value} {t : TypeId} (h : SlO w0 w g gl x) (hO : Own w1 B t A c vs) (hB : w.heap.size ≤ B) : ∀ q, inA A q → q ≠ g ∧ q ≠ gl := fun q hq => by
  have := h.lt
  have := (hO.in_ hq).1
  omega
set_option maxRecDepth 100000 in
set_option maxHeartbeats 4000000 in
theorem sf1_any (w0 : World) (g gl : Nat) (x : Slv) (k bx : Nat) (w : World) (h : SlO w0 w g gl x) (hx : x.fit k) (hk : k ≤ 800000) (hb : w.cell? ⟨bx, 0, none⟩ = some (.pointer (some ⟨g, 0, none⟩))) (hbx : bx ≠ g ∧ bx ≠ gl) (hcl : Sto.CleanS x) (hx0 : 4 ≤ x.secs.length) (hx1 : x.secs.length ≤ 4096) :
    Calls Try.prog 52 #[.pointer (some ⟨bx, 0, none⟩)] w (RetBrn w0 w g gl x 0 k (List.replicate 128 (default : B8))) := by
  obtain ⟨zs, hzs⟩ : ∃ zs, zs = List.replicate 128 (default : B8) := ⟨_, rfl⟩
  rw [← hzs]
  have hzl : zs.length = 128 := by rw [hzs]; rfl
  have Hzs := hide hzs
  have Hzl := hide hzl
  clear hzs hzl
  have H := hide h
  have HX := hide hx
  have Hcl := hide hcl
  have Hx0 := hide hx0
  have Hx1 := hide hx1
  have kb := fun z : Wd (Upd (fun q => q = g ∨ q = gl) w.drew) => (z.ok.cell (p := ⟨bx, 0, none⟩) (World.block_lt_of_cell? w _ hb) (fun e => e.elim hbx.1 hbx.2)).trans hb
  clear h hx hcl hx0 hx1 hbx
  go_enter Try.func52, Try.ntmps52
  go_wp2_with fail
  refine wp_region_plan (Upd (fun q => q = g ∨ q = gl) _) 3 [(false,0), (true,1), (true,2)] (by kernel_rfl) (by kernel_rfl) (Upd.refl _ _) (fun hne => ?_)
  repeat (refine head_q rfl (fun K hK => ?_); have hK2 := hide hK; clear hK; go_simp; refine hK2.out _ ?_; clear hK2 K)
  refine head_l rfl ?_
  obtain ⟨wd, hwd⟩ : ∃ wd, wd = w.drew := ⟨_, rfl⟩
  rw [← hwd]
  have Hwd := hide hwd
  clear hwd
  refine wpList_mk _ _ _ Try.el8 rfl rfl 128 rfl rfl rfl rfl (by omega) (by unfold maxLen; omega) by8 rfl rfl (B := wd.heap.size) (Nat.le_refl _) ?_
  rintro g2 w2 hO2 rfl hU2
  go_wp2_with fail
  rw [← Hzs.out] at hO2
  refine ⟨_, fun _ h => h, ⟨⟨_, Upd.ofExt hU2⟩, rfl⟩, ?_⟩
  repeat (refine head_q rfl (fun K hK => ?_); have hK2 := hide hK; clear hK; go_simp; refine hK2.out _ ?_; clear hK2 K)
  have hE2 : Ext w w2 := by rw [Hwd.out] at hU2; exact (Upd.refl _ _).drew.trans hU2
  refine head_l rfl ?_
  have hne := own_apart (w := w) H.out hO2 (by rw [Hwd.out]; exact Nat.le_refl _)
  have hQ : Calls Try.prog 47 #[.pointer (some ⟨g, 0, none⟩), .int .i64 0, .slice (some ⟨wd.heap.size, 0, none⟩) 128 128] w2 (RetBrn w0 w2 g gl x 0 k zs) := by
    have hi : 0 + 2 ≤ x.secs.length := by have := Hx0.out; omega
    have hp : 0 < x.secs.length := by have := Hx0.out; omega
    have hm : (2 : Nat) ≤ 4096 := by omega
    have h20 : (0 : Nat) < 2 := by omega
    have h1 := H.out.keep hE2
    have h2 := hO2.sl
    have h3 : (128 : Nat) = 64 * 2 := by omega
    exact sbn_any w0 g gl x 0 k _ 128 128 2 zs w2 h1 HX.out hk h2 Hzl.out h3 h20 hm (Nat.le_refl _) hne hi Hcl.out hp Hx1.out
  go_wp2_with (go_at_call 47; go_must (refine hQ.mono ?_); rintro e w3 hR; have hR' := RetBrn.from_ hE2 hR; obtain ⟨y, er, rfl, hS3, hU3, hB3⟩ := hR)
  refine ⟨Cls (Ext _), cls_narrowT (by have hU4 := Upd.ofExt (T := fun q => q = g ∨ q = gl) hU2; exact hU4.trans hU3), ⟨⟨_, Upd.refl _ _⟩, rfl⟩, ?_⟩
  repeat (refine head_q rfl (fun K hK => ?_); have hK2 := hide hK; clear hK; go_simp; refine hK2.out _ ?_; clear hK2 K)
  refine head_nil ?_
  try simp only [List.drop_succ_cons, List.drop_zero]
  go_wp2_with fail
  go_ret
  exact hR'
-- sf2_any the theorem, 2 the function, 2 first, Sto.wholeB Sha.sum 0 [] its bytes, exact (Sto.wholeB_length Sha.sum sum_length 0 []) their length, go_wp2_with (go_at_call 48; go_must (refine (swhole_any 0 none 0 0 [] wd (Sl.nil) rfl (Nat.le_refl _) (by unfold maxLen; omega) (by omega) (by omega)).mono ?_); rintro e w2 ⟨A2, c2, rfl, hO2, hU2⟩; rw [← Hzs.out] at hO2) sectors
set_option maxRecDepth 100000 in
set_option maxHeartbeats 4000000 in
theorem sf2_any (w0 : World) (g gl : Nat) (x : Slv) (k bx : Nat) (w : World) (h : SlO w0 w g gl x) (hx : x.fit k) (hk : k ≤ 800000) (hb : w.cell? ⟨bx, 0, none⟩ = some (.pointer (some ⟨g, 0, none⟩))) (hbx : bx ≠ g ∧ bx ≠ gl) (hcl : Sto.CleanS x) (hx0 : 4 ≤ x.secs.length) (hx1 : x.secs.length ≤ 4096) :
    Calls Try.prog 53 #[.pointer (some ⟨bx, 0, none⟩)] w (RetBrn w0 w g gl x 2 k (Sto.wholeB Sha.sum 0 [])) := by
  obtain ⟨zs, hzs⟩ : ∃ zs, zs = Sto.wholeB Sha.sum 0 [] := ⟨_, rfl⟩
  rw [← hzs]
  have hzl : zs.length = 64 := by rw [hzs]; exact (Sto.wholeB_length Sha.sum sum_length 0 [])
  have Hzs := hide hzs
  have Hzl := hide hzl
  clear hzs hzl
  have H := hide h
  have HX := hide hx
  have Hcl := hide hcl
  have Hx0 := hide hx0
  have Hx1 := hide hx1
  have kb := fun z : Wd (Upd (fun q => q = g ∨ q = gl) w.drew) => (z.ok.cell (p := ⟨bx, 0, none⟩) (World.block_lt_of_cell? w _ hb) (fun e => e.elim hbx.1 hbx.2)).trans hb
  clear h hx hcl hx0 hx1 hbx
  go_enter Try.func53, Try.ntmps53
  go_wp2_with fail
  refine wp_region_plan (Upd (fun q => q = g ∨ q = gl) _) 3 [(false,0), (true,1), (true,2)] (by kernel_rfl) (by kernel_rfl) (Upd.refl _ _) (fun hne => ?_)
  repeat (refine head_q rfl (fun K hK => ?_); have hK2 := hide hK; clear hK; go_simp; refine hK2.out _ ?_; clear hK2 K)
  refine head_l rfl ?_
  obtain ⟨wd, hwd⟩ : ∃ wd, wd = w.drew := ⟨_, rfl⟩
  rw [← hwd]
  have Hwd := hide hwd
  clear hwd
  go_wp2_with (go_at_call 48; go_must (refine (swhole_any 0 none 0 0 [] wd (Sl.nil) rfl (Nat.le_refl _) (by unfold maxLen; omega) (by omega) (by omega)).mono ?_); rintro e w2 ⟨A2, c2, rfl, hO2, hU2⟩; rw [← Hzs.out] at hO2)
  have hE2 : Ext w w2 := by rw [Hwd.out] at hU2; exact (Upd.refl _ _).drew.trans hU2
  refine ⟨_, fun _ h => h, ⟨⟨_, Upd.ofExt hU2⟩, rfl⟩, ?_⟩
  repeat (refine head_q rfl (fun K hK => ?_); have hK2 := hide hK; clear hK; go_simp; refine hK2.out _ ?_; clear hK2 K)
  refine head_l rfl ?_
  have hne := own_apart (w := w) H.out hO2 (by rw [Hwd.out]; exact Nat.le_refl _)
  have hQ : Calls Try.prog 47 #[.pointer (some ⟨g, 0, none⟩), .int .i64 2, .slice A2 64 c2] w2 (RetBrn w0 w2 g gl x 2 k zs) := by
    have hi : 2 + 1 ≤ x.secs.length := by have := Hx0.out; omega
    have hp : 0 < x.secs.length := by have := Hx0.out; omega
    have hm : (1 : Nat) ≤ 4096 := by omega
    have h20 : (0 : Nat) < 1 := by omega
    have h1 := H.out.keep hE2
    have h2 := hO2.sl
    have h3 : (64 : Nat) = 64 * 1 := by omega
    have hcc : 64 ≤ c2 := by have := hO2.cap.1; rw [List.length_map, Hzl.out] at this; exact this
    exact sbn_any w0 g gl x 2 k _ 64 c2 1 zs w2 h1 HX.out hk h2 Hzl.out h3 h20 hm hcc hne hi Hcl.out hp Hx1.out
  go_wp2_with (go_at_call 47; go_must (refine hQ.mono ?_); rintro e w3 hR; have hR' := RetBrn.from_ hE2 hR; obtain ⟨y, er, rfl, hS3, hU3, hB3⟩ := hR)
  refine ⟨Cls (Ext _), cls_narrowT (by have hU4 := Upd.ofExt (T := fun q => q = g ∨ q = gl) hU2; exact hU4.trans hU3), ⟨⟨_, Upd.refl _ _⟩, rfl⟩, ?_⟩
  repeat (refine head_q rfl (fun K hK => ?_); have hK2 := hide hK; clear hK; go_simp; refine hK2.out _ ?_; clear hK2 K)
  refine head_nil ?_
  try simp only [List.drop_succ_cons, List.drop_zero]
  go_wp2_with fail
  go_ret
  exact hR'
-- sf3_any the theorem, 3 the function, 0 first, Sto.flagB its bytes, rfl their length, go_wp2_with (go_at_call 49; go_must (refine (sflag_any wd).mono ?_); rintro e w2 ⟨A2, c2, rfl, hO2, hU2⟩; rw [← Hzs.out] at hO2) sectors
set_option maxRecDepth 100000 in
set_option maxHeartbeats 4000000 in
theorem sf3_any (w0 : World) (g gl : Nat) (x : Slv) (k bx : Nat) (w : World) (h : SlO w0 w g gl x) (hx : x.fit k) (hk : k ≤ 800000) (hb : w.cell? ⟨bx, 0, none⟩ = some (.pointer (some ⟨g, 0, none⟩))) (hbx : bx ≠ g ∧ bx ≠ gl) (hcl : Sto.CleanS x) (hx0 : 4 ≤ x.secs.length) (hx1 : x.secs.length ≤ 4096) :
    Calls Try.prog 54 #[.pointer (some ⟨bx, 0, none⟩)] w (RetBrn w0 w g gl x 0 k (Sto.flagB)) := by
  obtain ⟨zs, hzs⟩ : ∃ zs, zs = Sto.flagB := ⟨_, rfl⟩
  rw [← hzs]
  have hzl : zs.length = 64 := by rw [hzs]; rfl
  have Hzs := hide hzs
  have Hzl := hide hzl
  clear hzs hzl
  have H := hide h
  have HX := hide hx
  have Hcl := hide hcl
  have Hx0 := hide hx0
  have Hx1 := hide hx1
  have kb := fun z : Wd (Upd (fun q => q = g ∨ q = gl) w.drew) => (z.ok.cell (p := ⟨bx, 0, none⟩) (World.block_lt_of_cell? w _ hb) (fun e => e.elim hbx.1 hbx.2)).trans hb
  clear h hx hcl hx0 hx1 hbx
  go_enter Try.func54, Try.ntmps54
  go_wp2_with fail
  refine wp_region_plan (Upd (fun q => q = g ∨ q = gl) _) 3 [(false,0), (true,1), (true,2)] (by kernel_rfl) (by kernel_rfl) (Upd.refl _ _) (fun hne => ?_)
  repeat (refine head_q rfl (fun K hK => ?_); have hK2 := hide hK; clear hK; go_simp; refine hK2.out _ ?_; clear hK2 K)
  refine head_l rfl ?_
  obtain ⟨wd, hwd⟩ : ∃ wd, wd = w.drew := ⟨_, rfl⟩
  rw [← hwd]
  have Hwd := hide hwd
  clear hwd
  go_wp2_with (go_at_call 49; go_must (refine (sflag_any wd).mono ?_); rintro e w2 ⟨A2, c2, rfl, hO2, hU2⟩; rw [← Hzs.out] at hO2)
  have hE2 : Ext w w2 := by rw [Hwd.out] at hU2; exact (Upd.refl _ _).drew.trans hU2
  refine ⟨_, fun _ h => h, ⟨⟨_, Upd.ofExt hU2⟩, rfl⟩, ?_⟩
  repeat (refine head_q rfl (fun K hK => ?_); have hK2 := hide hK; clear hK; go_simp; refine hK2.out _ ?_; clear hK2 K)
  refine head_l rfl ?_
  have hne := own_apart (w := w) H.out hO2 (by rw [Hwd.out]; exact Nat.le_refl _)
  have hQ : Calls Try.prog 47 #[.pointer (some ⟨g, 0, none⟩), .int .i64 0, .slice A2 64 c2] w2 (RetBrn w0 w2 g gl x 0 k zs) := by
    have hi : 0 + 1 ≤ x.secs.length := by have := Hx0.out; omega
    have hp : 0 < x.secs.length := by have := Hx0.out; omega
    have hm : (1 : Nat) ≤ 4096 := by omega
    have h20 : (0 : Nat) < 1 := by omega
    have h1 := H.out.keep hE2
    have h2 := hO2.sl
    have h3 : (64 : Nat) = 64 * 1 := by omega
    have hcc : 64 ≤ c2 := by have := hO2.cap.1; rw [List.length_map, Hzl.out] at this; exact this
    exact sbn_any w0 g gl x 0 k _ 64 c2 1 zs w2 h1 HX.out hk h2 Hzl.out h3 h20 hm hcc hne hi Hcl.out hp Hx1.out
  go_wp2_with (go_at_call 47; go_must (refine hQ.mono ?_); rintro e w3 hR; have hR' := RetBrn.from_ hE2 hR; obtain ⟨y, er, rfl, hS3, hU3, hB3⟩ := hR)
  refine ⟨Cls (Ext _), cls_narrowT (by have hU4 := Upd.ofExt (T := fun q => q = g ∨ q = gl) hU2; exact hU4.trans hU3), ⟨⟨_, Upd.refl _ _⟩, rfl⟩, ?_⟩
  repeat (refine head_q rfl (fun K hK => ?_); have hK2 := hide hK; clear hK; go_simp; refine hK2.out _ ?_; clear hK2 K)
  refine head_nil ?_
  try simp only [List.drop_succ_cons, List.drop_zero]
  go_wp2_with fail
  go_ret
  exact hR'
end Go.Proofs.Ytejjofjhcgdedaa
