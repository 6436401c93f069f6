/- The law on lasting faces, walked. -/
import Derived.Test.YtejjofjhcgdedaaSlbS
namespace Go.Proofs.Ytejjofjhcgdedaa
set_option linter.unusedSimpArgs false
set_option linter.unusedVariables false
open Go.RowKit
open Sha
attribute [local go_sem] steady steadyUpon Cls same_cell anyW by8 str_eq
attribute [local irreducible] wpHead wpTree wpHeadR
theorem u64_mod32 (z : Int) : ∃ K : Nat, (IntKind.u64.wrap z).tmod 32 = (K : Int) ∧ K < 32 := by
  have hw0 : 0 ≤ IntKind.u64.wrap z := by
    unfold IntKind.wrap
    simp [IntKind.signed, IntKind.bits]
    omega
  rw [Int.tmod_eq_emod_of_nonneg hw0]
  exact ⟨(IntKind.u64.wrap z % 32).toNat, by omega, by omega⟩
theorem DeeOk.ext {w w' : World} {d : Dee} (h : DeeOk w d) (hu : Ext w w') : DeeOk w' d := ⟨h.wk, h.wa, h.wn, h.scars.ext hu, h.len, h.cap, h.max⟩
theorem DeeOk.sep {w : World} {d : Dee} (h : DeeOk w d) {g gl : Nat} (hg : w.heap.size ≤ g) (hgl : w.heap.size ≤ gl) : ∀ i, i < d.ss.length → 0 < (gat d.ss i).l → ∀ k, inA (gat d.ss i).A k → k ≠ g ∧ k ≠ gl := fun i hi h0 k hk => by
  obtain ⟨-, -, -, -, -, hok⟩ := h.scars i hi
  obtain ⟨b0, o0, e0, h1, -⟩ := hok.row.open_ (by rw [hok.len]; exact h0)
  have : k = b0 := by rw [e0] at hk; simpa [inA] using hk.symm
  omega
theorem Slv.done_fit {x : Slv} {k : Nat} (h : x.fit k) (hl : x.secs.length = 32) {d : Dee} (hn : (Lit.int .i64 d.N).wf = true) : (x.done d).fit (k + 32) := by
  have hn2 : d.N ≤ 9223372036854775807 := by
    simp [Lit.wf, IntKind.min, IntKind.max, IntKind.signed, IntKind.bits] at hn
    omega
  unfold Slv.done
  split
  · exact Slv.fit_up (Slv.inked_fit h _ _) (by omega)
  · split
    · have := Slv.burnt_fit h
      rwa [hl] at this
    · split
      · exact Slv.fit_up (Slv.supplied_fit h hn2) (by omega)
      · split
        · exact Slv.fit_up (Slv.woken_fit h _) (by omega)
        · exact Slv.fit_up h (by omega)
theorem Slv.Has.done {x : Slv} {N at_ : Nat} {bs : List B8} (h : x.Has N at_ bs) (hat : at_ < N) {d : Dee} (hd : d.kind ≠ 0 ∨ d.at_ ≠ (at_ : Int)) : (x.done d).Has N at_ bs := by
  unfold Slv.done
  split
  · rename_i h0
    exact h.inked hat (hd.resolve_left (fun h => h h0)) _
  · split
    · exact h.burnt hat
    · split
      · exact h.supplied _
      · split
        · exact h.woken hat _
        · exact h
theorem lasts_start {p : Nat} (hp : p < 32) (x : B8) : ((Slv.new 32).inked p (pl64 x)).fit 1 ∧ (Slv.new 32).inkE p 64 = 0 ∧ ((Slv.new 32).inked p (pl64 x)).burnE = 0 ∧ (((Slv.new 32).inked p (pl64 x)).burnt).fit 33 ∧ (((Slv.new 32).inked p (pl64 x)).burnt).Has 32 p (pl64 x) := by
  have hl0 : (Slv.new 32).secs.length = 32 := by simp [Slv.new]
  have e0 : (Slv.new 32).endless = true := rfl
  obtain ⟨e1, s1⟩ := Slv.inked_endless e0 (n := p) (by omega) (pl64_len x)
  have f1 := Slv.inked_fit (Slv.new_fit 32) (p : Int) (pl64 x)
  have hl1 := Slv.inked_len (Slv.new 32) (p : Int) (pl64 x)
  obtain ⟨hb, e3, s3⟩ := Slv.burnt_endless e1 (by omega)
  have f3 := Slv.burnt_fit f1
  have hl3 := Slv.burnt_len ((Slv.new 32).inked p (pl64 x))
  refine ⟨f1, Slv.inkE_endless e0 (by omega) (by omega), hb, Slv.fit_up f3 (by omega), by omega, ?_⟩
  rw [s3 p (by omega), s1, gat_setp _ _ _ _ (by omega), if_pos rfl]
  rfl
end Go.Proofs.Ytejjofjhcgdedaa
