/- The document's slab in memory. -/
import Derived.Test.YtejjofjhcgdedaaSlbV
import Derived.Test.YtejjofjhcgdedaaApkm
namespace Go.Proofs.Ytejjofjhcgdedaa
set_option linter.unusedSimpArgs false
set_option linter.unusedVariables false
open Go.RowKit
open Sha
/-- an ink's cells, a face's cells -/
def iV (p : Int × List B8) : List Value := .int .i64 p.1 :: p.2.map by8
def bV (b : List B8) : List Value := b.map by8
theorem iV_len {p : Int × List B8} (h : p.2.length = 64) : (iV p).length = 65 := by unfold iV; rw [List.length_cons, List.length_map, h]
theorem bV_len {b : List B8} (h : b.length = 64) : (bV b).length = 64 := by unfold bV; rw [List.length_map, h]
theorem bV_one (b : List B8) : ∀ u ∈ bV b, u.oneCell' = true := fun u hu => by
  obtain ⟨x, -, rfl⟩ := List.mem_map.1 hu; rfl
theorem iV_one (p : Int × List B8) : ∀ u ∈ iV p, u.oneCell' = true := fun u hu => by
  rcases List.mem_cons.1 hu with rfl | hu
  · rfl
  · exact bV_one p.2 u hu
theorem fmI_one (l : List (Int × List B8)) : ∀ u ∈ l.flatMap iV, u.oneCell' = true := fun u hu => by
  obtain ⟨p, -, hp⟩ := List.mem_flatMap.1 hu
  exact iV_one p u hp
theorem ownK_blk {w : World} {B sz n : Nat} {e t : TypeId} {A : Option Addr} {c g : Nat} {xs : List Value} {cs : Array Value} (h : OwnK w B e sz A n c xs) (h' : Blk w g t cs) (hne : e ≠ t) : ¬ inA A g := fun hk => by
  rcases h.2 with ⟨h0, _⟩ | ⟨g', cap, cur, hv, hb, hg, _⟩
  · injection h0 with h0; subst h0; simp [inA] at hk
  · injection hv with hA
    rw [hA] at hk
    simp [inA] at hk
    subst hk
    unfold Blk at h'
    rw [hg] at h'
    injection h' with h'
    injection h' with _ h'
    exact hne h'
theorem blk_ne {w : World} {g g' : Nat} {t t' : TypeId} {cs cs' : Array Value} (h : Blk w g t cs) (h' : Blk w g' t' cs') (hne : t ≠ t') : g ≠ g' := fun e => by
  subst e
  unfold Blk at h h'
  rw [h] at h'
  injection h' with h'
  injection h' with _ h'
  exact hne h'
/-- the document's slab: in block g, its burnt faces in block gb, its ink in rows at A -/
structure DslW (w : World) (B g gb : Nat) (A : Option Addr) (c N : Nat) (d : Dsl) : Prop where
  cells : Blk w g 52 #[.slice (some ⟨gb, 0, none⟩) N N, .slice A d.inks.length c, .int .i64 d.supply, .int .i64 d.made]
  burnt : Blk w gb 83 (d.burnt.flatMap bV).toArray
  inks : OwnK w B 85 65 A d.inks.length c (d.inks.flatMap iV)
  len : d.burnt.length = N
  b64 : ∀ b ∈ d.burnt, b.length = 64
  i64 : ∀ p ∈ d.inks, p.2.length = 64
  lg : B ≤ g
  lgb : B ≤ gb
  max : N ≤ 4096
  few : d.inks.length ≤ 5000
  sup : -1 ≤ d.supply ∧ d.supply ≤ 9223372036854775807
  mad : 0 ≤ d.made ∧ d.made ≤ 4611686018427387904
/-- the blocks that it takes -/
def DT (g gb : Nat) (A : Option Addr) : Nat → Prop := fun k => k = g ∨ k = gb ∨ inA A k
section
variable {w w' : World} {B g gb : Nat} {A : Option Addr} {c N : Nat} {d : Dsl}
theorem DslW.keep {T : Nat → Prop} (h : DslW w B g gb A c N d) (hu : Upd T w w') (hT : ∀ k, DT g gb A k → ¬ T k) : DslW w' B g gb A c N d :=
  ⟨h.cells.upd hu (hT g (.inl rfl)), h.burnt.upd hu (hT gb (.inr (.inl rfl))), h.inks.upd hu (fun k hk => hT k (.inr (.inr hk))), h.len, h.b64, h.i64, h.lg, h.lgb, h.max, h.few, h.sup, h.mad⟩
theorem DslW.ext (h : DslW w B g gb A c N d) (hu : Ext w w') : DslW w' B g gb A c N d := h.keep hu (fun _ _ h => h)
theorem DslW.old (h : DslW w B g gb A c N d) {k : Nat} (hk : DT g gb A k) : B ≤ k ∧ k < w.heap.size := by
  rcases hk with rfl | rfl | hk
  · exact ⟨h.lg, h.cells.lt⟩
  · exact ⟨h.lgb, h.burnt.lt⟩
  · exact h.inks.in_ hk
/-- a face burnt -/
theorem DslW.rangeB (h : DslW w B g gb A c N d) {i : Nat} (hi : i < N) : w.rangeAt gb (i * 64) (bV (gat d.burnt i)) := fun j v hv => by
  have hi' : i < d.burnt.length := by rw [h.len]; exact hi
  have hl : (bV (gat d.burnt i)).length = 64 := bV_len (h.b64 _ (by rw [gat_lt hi']; exact List.getElem_mem _))
  have hj : j < 64 := by rw [← hl]; exact (List.getElem?_eq_some_iff.1 hv).1
  refine h.burnt.at _ ?_
  rw [List.getElem?_toArray, fm_at bV 64 (fun b hb => bV_len (h.b64 b hb)) hi' hj]
  exact hv
/-- an ink -/
theorem DslW.ink (h : DslW w B g gb A c N d) {i : Nat} (hi : i < d.inks.length) : ∃ gi, A = some ⟨gi, 0, none⟩ ∧ w.cell? ⟨gi, i * 65, none⟩ = some (.int .i64 (gat d.inks i).1) ∧ w.rangeAt gi (i * 65 + 1) (bV (gat d.inks i).2) ∧ w.rangeAt gi (i * 65) (iV (gat d.inks i)) := by
  obtain ⟨gi, rfl, -, -, hc⟩ := h.inks.open_ (by omega)
  have hl : ∀ p ∈ d.inks, (iV p).length = 65 := fun p hp => iV_len (h.i64 p hp)
  have hfl := fm_len iV 65 d.inks hl
  have hat : ∀ j, j < 65 → w.cell? ⟨gi, i * 65 + j, none⟩ = (iV (gat d.inks i))[j]? := fun j hj => by
    rw [hc _ (by rw [hfl]; have := Nat.mul_le_mul_right 65 (show i + 1 ≤ d.inks.length from hi); omega), fm_at iV 65 hl hi hj]
  refine ⟨gi, rfl, ?_, fun j v hv => ?_, fun j v hv => ?_⟩
  · have := hat 0 (by omega)
    rw [Nat.add_zero] at this
    rw [this]; rfl
  · have hj : j < (bV (gat d.inks i).2).length := (List.getElem?_eq_some_iff.1 hv).1
    rw [bV_len (h.i64 _ (by rw [gat_lt hi]; exact List.getElem_mem _))] at hj
    rw [Nat.add_assoc, Nat.add_comm 1 j, hat (j + 1) (by omega)]
    exact hv
  · have hj : j < (iV (gat d.inks i)).length := (List.getElem?_eq_some_iff.1 hv).1
    rw [iV_len (h.i64 _ (by rw [gat_lt hi]; exact List.getElem_mem _))] at hj
    rw [hat j hj]
    exact hv
theorem DslW.frozenB (h : DslW w B g gb A c N d) (o : Nat) : w.frozen? ⟨gb, o, none⟩ = false := h.burnt.frozen o
theorem rangeAt_upd {T : Nat → Prop} {w w' : World} {b o : Nat} {cs : List Value} (h : w.rangeAt b o cs) (hu : Upd T w w') (hT : ¬ T b) : w'.rangeAt b o cs := fun j v hv => by
  have := h j v hv
  have hb := World.block_lt_of_cell? w _ this
  rw [hu.cell (p := ⟨b, o + j, none⟩) hb hT]
  exact this
theorem rangeAt_ext {w w' : World} {b o : Nat} {cs : List Value} (h : w.rangeAt b o cs) (hu : Ext w w') : w'.rangeAt b o cs := rangeAt_upd h hu (fun h => h)
/-- a burnt face turns -/
theorem DslW.setB (h : DslW w B g gb A c N d) {i : Nat} (hi : i < N) {b : List B8} (hb : b.length = 64) :
    DslW (w.setCells gb (i * 64) (bV b)) B g gb A c N ⟨d.burnt.set i b, d.inks, d.supply, d.made⟩ ∧ Upd (only gb) w (w.setCells gb (i * 64) (bV b)) := by
  have hU := setCells_upd gb (bV b) w (i * 64)
  have hl : ∀ b ∈ d.burnt, (bV b).length = 64 := fun b hb => bV_len (h.b64 b hb)
  have hi' : i < d.burnt.length := by rw [h.len]; exact hi
  have hfl := fm_len bV 64 d.burnt hl
  have hle := Nat.mul_le_mul_right 64 (show i + 1 ≤ d.burnt.length from hi')
  have hB := setCells_blk (bV b) w _ (i * 64) h.burnt (by rw [List.size_toArray, hfl, bV_len hb]; omega)
  have hne : g ≠ gb := blk_ne h.cells h.burnt (by decide)
  refine ⟨⟨h.cells.upd hU (fun e => hne e), ?_, h.inks.upd hU (fun k hk e => by have e : k = gb := e; subst e; exact ownK_blk h.inks h.burnt (by decide) hk), by simpa using h.len, fun x hx => ?_, h.i64, h.lg, h.lgb, h.max, h.few, h.sup, h.mad⟩, hU⟩
  · have e := fm_set bV 64 hl hi' b
    dsimp only
    rw [e]
    rw [bV_len hb, show i * 64 + 64 = (i + 1) * 64 by omega] at hB
    exact hB
  · rcases List.mem_or_eq_of_mem_set hx with hx | rfl
    · exact h.b64 x hx
    · exact hb
/-- the block's cells turn -/
theorem DslW.setC (h : DslW w B g gb A c N d) {A' : Option Addr} {c' : Nat} {d' : Dsl} (hC : Blk w' g 52 #[.slice (some ⟨gb, 0, none⟩) N N, .slice A' d'.inks.length c', .int .i64 d'.supply, .int .i64 d'.made]) {T : Nat → Prop} (hu : Upd T w w') (hT : ¬ T gb) (hb : d'.burnt = d.burnt)
    (hI : OwnK w' B 85 65 A' d'.inks.length c' (d'.inks.flatMap iV)) (hi : ∀ p ∈ d'.inks, p.2.length = 64) (hf : d'.inks.length ≤ 5000) (hs : -1 ≤ d'.supply ∧ d'.supply ≤ 9223372036854775807) (hm : 0 ≤ d'.made ∧ d'.made ≤ 4611686018427387904) : DslW w' B g gb A' c' N d' :=
  ⟨hC, by rw [hb]; exact h.burnt.upd hu hT, hI, by rw [hb]; exact h.len, by rw [hb]; exact h.b64, hi, h.lg, h.lgb, h.max, hf, hs, hm⟩
end
end Go.Proofs.Ytejjofjhcgdedaa
