/- The store's Format, walked. -/
import Derived.Test.YtejjofjhcgdedaaSto6
namespace Go.Proofs.Ytejjofjhcgdedaa
set_option linter.unusedSimpArgs false
set_option linter.unusedVariables false
open Go.RowKit Go.Shelf
open Sha
attribute [local go_sem] steady steadyUpon Cls same_cell anyW
attribute [local irreducible] wpHead wpTree wpHeadR Sha.sum
theorem Sto.faceN_some {x : Slv} {i : Nat} {b : List B8} (h : gat x.secs i = (some b, none)) : Sto.faceN x i = b := by
  unfold Sto.faceN; rw [h]; rfl
theorem Sto.chunk_whole {b : List B8} (h : b.length = 64) : Sto.chunkB b 0 = b := by
  unfold Sto.chunkB; rw [Nat.mul_zero, List.drop_zero, List.take_of_length_le (by omega)]
theorem Sto.flagB_ne : Sto.flagB ≠ zero64B := by decide
theorem Sto.chunk_zero : Sto.chunkB (List.replicate 128 (default : B8)) 1 = zero64B := by decide
/-- what Format leaves -/
theorem Sto.format_fnd {x a b y : Slv} (hS : 4 ≤ x.secs.length) (h1 : Sto.Brn x 0 (List.replicate 128 (default : B8)) a 0) (h2 : Sto.Brn a 2 (Sto.wholeB Sha.sum 0 []) b 0) (h3 : Sto.Brn b 0 Sto.flagB y 0) :
    Sto.CleanS y ∧ y.secs.length = x.secs.length ∧ Sto.FndS Sha.sum (Sto.faceN y) x.secs.length 0 [] := by
  have l1 := h1.same.1
  have l2 := h2.same.1
  have l3 := h3.same.1
  have hwl : (Sto.wholeB Sha.sum 0 []).length = 64 := Sto.wholeB_length Sha.sum sum_length 0 []
  have hfl : Sto.flagB.length = 64 := rfl
  have e0 : Sto.faceN y 0 = Sto.flagB := by
    have := (h3.ok rfl).2 0 (by rw [hfl]; omega)
    rw [Sto.faceN_some this, Sto.chunk_whole hfl]
  have e1 : Sto.faceN y 1 = zero64B := by
    rw [h3.same.face (by omega) (by rw [hfl]; omega), h2.same.face (by omega) (by omega)]
    have := (h1.ok rfl).2 1 (by rw [List.length_replicate]; omega)
    rw [Sto.faceN_some this, Sto.chunk_zero]
  have e2 : Sto.faceN y 2 = Sto.wholeB Sha.sum 0 [] := by
    rw [h3.same.face (by omega) (by rw [hfl]; omega)]
    have := (h2.ok rfl).2 0 (by rw [hwl]; omega)
    rw [Sto.faceN_some this, Sto.chunk_whole hwl]
  refine ⟨(h3.ok rfl).1, by omega, ⟨?_, ?_, Nat.zero_le _, .inl e1⟩⟩
  · rw [show (0 : Nat) % 2 = 0 from rfl, e0]; exact Sto.flagB_ne
  · have ha : Sto.areaF x.secs.length 0 = 2 := by unfold Sto.areaF; omega
    rw [ha]
    intro j hj
    rw [hwl] at hj
    obtain rfl : j = 0 := by omega
    rw [Nat.add_zero, e2, Sto.chunk_whole hwl]
/-- as far as Format has come -/
def Sto.Fmt (x : Slv) : Nat → Slv → Prop
  | 0, y => y = x
  | 1, y => Sto.Brn x 0 (List.replicate 128 (default : B8)) y 0
  | 2, y => ∃ a, Sto.Brn x 0 (List.replicate 128 (default : B8)) a 0 ∧ Sto.Brn a 2 (Sto.wholeB Sha.sum 0 []) y 0
  | _, y => ∃ a b, Sto.Brn x 0 (List.replicate 128 (default : B8)) a 0 ∧ Sto.Brn a 2 (Sto.wholeB Sha.sum 0 []) b 0 ∧ Sto.Brn b 0 Sto.flagB y 0
structure Sto.FmtS (x : Slv) (k i : Nat) (y : Slv) : Prop where
  clean : Sto.CleanS y
  endless : y.endless = true
  len : y.secs.length = x.secs.length
  fit : y.fit (k + 4100 * i)
  at_ : Sto.Fmt x i y
theorem Sto.FmtS.step {x y z : Slv} {k i first m : Nat} {er : Int} {b : List B8} (h : Sto.FmtS x k i y) (h2 : Sto.BrnR y first (k + 4100 * i) b z er) (hb : b.length = 64 * m) (hm : m ≤ 2) (hx : x.secs.length ≤ 4096) (hn : er = 0 → Sto.Fmt x (i + 1) z) : er = 0 ∧ Sto.FmtS x k (i + 1) z := by
  have he := h2.endless h.endless
  have h0 : er = 0 := he.1
  subst h0
  have hl := h.len
  have hl2 := h2.brn.same.1
  exact ⟨rfl, (h2.brn.ok rfl).1, he.2, by omega, Slv.fit_up h2.fit (by omega), hn rfl⟩
def RetFmt (w0 w : World) (g gl : Nat) (x : Slv) (k : Nat) (e : Ending) (w' : World) : Prop :=
  ∃ y, e = .returned (.int .i64 0) ∧ SlO w0 w' g gl y ∧ Upd (fun q => q = g ∨ q = gl) w w' ∧ y.endless = true ∧ y.fit (k + 12300) ∧ Sto.CleanS y ∧ y.secs.length = x.secs.length ∧ Sto.FndS Sha.sum (Sto.faceN y) x.secs.length 0 []
set_option maxRecDepth 100000 in
set_option maxHeartbeats 4000000 in
theorem sformat_any (w0 : World) (g gl : Nat) (x : Slv) (k : Nat) (w : World) (h : SlO w0 w g gl x) (hx : x.fit k) (hk : k ≤ 700000) (hcl : Sto.CleanS x) (hen : x.endless = true) (hx0 : 4 ≤ x.secs.length) (hx1 : x.secs.length ≤ 4096) :
    Calls Try.prog 43 #[.pointer (some ⟨g, 0, none⟩)] w (RetFmt w0 w g gl x k) := by
  have hlt := h.lt
  have H := hide h
  have Hlt := hide hlt
  have hF : Sto.FmtS x k 0 x := ⟨hcl, hen, rfl, hx, rfl⟩
  have HF := hide hF
  have Hx0 := hide hx0
  have Hx1 := hide hx1
  clear h hlt hx hcl hen hF hx0 hx1
  go_enter Try.func43, Try.ntmps43
  go_wp2_with fail
  refine name_wx (fun w1 hw1 => ?_)
  have hE1 : Ext w w1 := by rw [hw1]; exact ((Upd.refl _ w).alloc _).alloc _
  have c0 : w1.cell? ⟨w.heap.size + 1, 0, none⟩ = some (.func (.func 52) #[] #[.pointer (some ⟨w.heap.size, 0, none⟩)]) := by rw [hw1]; simp
  have c1 : w1.cell? ⟨w.heap.size + 1, 1, none⟩ = some (.func (.func 53) #[] #[.pointer (some ⟨w.heap.size, 0, none⟩)]) := by rw [hw1]; simp
  have c2 : w1.cell? ⟨w.heap.size + 1, 2, none⟩ = some (.func (.func 54) #[] #[.pointer (some ⟨w.heap.size, 0, none⟩)]) := by rw [hw1]; simp
  have cb : w1.cell? ⟨w.heap.size, 0, none⟩ = some (.pointer (some ⟨g, 0, none⟩)) := by rw [hw1]; simp
  have hsz : w1.heap.size = w.heap.size + 1 + 1 := by rw [hw1]; simp
  clear hw1
  have HE1 := hide hE1
  have Hsz := hide hsz
  clear hE1 hsz
  go_loopw [13] (fun iv wr => ∃ (i : Nat) (y : Slv), i ≤ 3 ∧ iv = .int .i64 (i : Int) ∧ SlO w0 wr g gl y ∧ Sto.FmtS x k i y ∧ Upd (fun q => q = g ∨ q = gl) w1 wr) (fun iv _ => 3 - (Go.RowKit.intOf iv).toNat)
  case atStart => exact ⟨0, x, by omega, rfl, H.out.keep HE1.out, HF.out, Upd.refl _ _⟩
  case round =>
    obtain ⟨i, y, hi, rfl, hS, hFm, hU⟩ := hrel
    have hne : ∀ q, w.heap.size ≤ q → ¬ (q = g ∨ q = gl) := fun q hq h => by have := Hlt.out; omega
    have d0 := (hU.cell (p := ⟨w.heap.size + 1, 0, none⟩) (World.block_lt_of_cell? _ _ c0) (hne _ (Nat.le_succ _))).trans c0
    have d1 := (hU.cell (p := ⟨w.heap.size + 1, 1, none⟩) (World.block_lt_of_cell? _ _ c1) (hne _ (Nat.le_succ _))).trans c1
    have d2 := (hU.cell (p := ⟨w.heap.size + 1, 2, none⟩) (World.block_lt_of_cell? _ _ c2) (hne _ (Nat.le_succ _))).trans c2
    have db := (hU.cell (p := ⟨w.heap.size, 0, none⟩) (World.block_lt_of_cell? _ _ cb) (hne _ (Nat.le_refl _))).trans cb
    have HS := hide hS
    have HFm := hide hFm
    have HU := hide hU
    clear hS hFm hU
    by_cases hlt : i < 3
    · rcases (show i = 0 ∨ i = 1 ∨ i = 2 by omega) with rfl | rfl | rfl
      · skip
        go_wp2_with fail
        refine (sf1_any w0 g gl y (k + 4100 * 0) w.heap.size wr HS.out HFm.out.fit (by omega) db ⟨by have := Hlt.out; omega, by have := Hlt.out; omega⟩ HFm.out.clean (by rw [HFm.out.len]; exact Hx0.out) (by rw [HFm.out.len]; exact Hx1.out)).mono ?_
        rintro e w3 ⟨y2, er, rfl, hS3, hU3, h2⟩
        obtain ⟨rfl, hF2⟩ := HFm.out.step (m := 2) h2 List.length_replicate (by omega) Hx1.out (fun he => by subst he; exact (by have h0 : y = x := HFm.out.at_; show Sto.Brn x 0 _ y2 0; rw [← h0]; exact h2.brn))
        have HS3 := hide hS3
        have HU3 := hide (HU.out.trans' hU3 (fun _ _ h => h))
        have HF2 := hide hF2
        clear hS3 hU3 h2 hF2
        go_wp2_with fail
        go_roundw
        case rel => exact ⟨0 + 1, y2, by omega, by go_num, HS3.out, HF2.out, HU3.out⟩
        case measure => simp [Go.RowKit.intOf]
      · skip
        go_wp2_with fail
        refine (sf2_any w0 g gl y (k + 4100 * 1) w.heap.size wr HS.out HFm.out.fit (by omega) db ⟨by have := Hlt.out; omega, by have := Hlt.out; omega⟩ HFm.out.clean (by rw [HFm.out.len]; exact Hx0.out) (by rw [HFm.out.len]; exact Hx1.out)).mono ?_
        rintro e w3 ⟨y2, er, rfl, hS3, hU3, h2⟩
        obtain ⟨rfl, hF2⟩ := HFm.out.step (m := 1) h2 (Sto.wholeB_length Sha.sum sum_length 0 []) (by omega) Hx1.out (fun he => by subst he; exact ⟨y, HFm.out.at_, h2.brn⟩)
        have HS3 := hide hS3
        have HU3 := hide (HU.out.trans' hU3 (fun _ _ h => h))
        have HF2 := hide hF2
        clear hS3 hU3 h2 hF2
        go_wp2_with fail
        go_roundw
        case rel => exact ⟨1 + 1, y2, by omega, by go_num, HS3.out, HF2.out, HU3.out⟩
        case measure => simp [Go.RowKit.intOf]
      · skip
        go_wp2_with fail
        refine (sf3_any w0 g gl y (k + 4100 * 2) w.heap.size wr HS.out HFm.out.fit (by omega) db ⟨by have := Hlt.out; omega, by have := Hlt.out; omega⟩ HFm.out.clean (by rw [HFm.out.len]; exact Hx0.out) (by rw [HFm.out.len]; exact Hx1.out)).mono ?_
        rintro e w3 ⟨y2, er, rfl, hS3, hU3, h2⟩
        obtain ⟨rfl, hF2⟩ := HFm.out.step (m := 1) h2 rfl (by omega) Hx1.out (fun he => by subst he; exact (by obtain ⟨a, h3, h4⟩ := HFm.out.at_; exact ⟨a, y, h3, h4, h2.brn⟩))
        have HS3 := hide hS3
        have HU3 := hide (HU.out.trans' hU3 (fun _ _ h => h))
        have HF2 := hide hF2
        clear hS3 hU3 h2 hF2
        go_wp2_with fail
        go_roundw
        case rel => exact ⟨2 + 1, y2, by omega, by go_num, HS3.out, HF2.out, HU3.out⟩
        case measure => simp [Go.RowKit.intOf]
    · obtain rfl : i = 3 := by omega
      go_wp2_with fail
      go_ret
      have h := HFm.out
      obtain ⟨a, b, h1, h2, h3⟩ := h.at_
      have hf := Sto.format_fnd Hx0.out h1 h2 h3
      exact ⟨y, rfl, HS.out, (Upd.ofExt HE1.out).trans' HU.out (fun _ _ h => h), h.endless, h.fit, h.clean, h.len, hf.2.2⟩
end Go.Proofs.Ytejjofjhcgdedaa
