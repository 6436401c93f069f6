/- A slab, and what is asked of it, walked: Out, look, Sectors, Strokes, stroke. -/
import Derived.Test.YtejjofjhcgdedaaBlk
import Derived.Test.YtejjofjhcgdedaaShas
import Derived.Deep.DeepCutAuto
namespace Go.Proofs.Ytejjofjhcgdedaa
set_option linter.unusedSimpArgs false
set_option linter.unusedVariables false
open Go.RowKit
open Sha
attribute [local go_sem] steady steadyUpon Cls same_cell
attribute [local irreducible] wpHead wpTree wpHeadR
/-- A slab, plainly: of each sector its burnt face and its ink (none: noughts, none), and the supply. -/
structure Slv where
  secs : List (Option (List B8) × Option (List B8))
  endless : Bool
  supply : Int
  strokes : Int
def Slv.out (x : Slv) : Bool := !x.endless && decide (x.supply = 0)
def Slv.look (x : Slv) (n : Int) : Int := if x.out then 12 else if n < 0 ∨ (x.secs.length : Int) ≤ n then 2 else 0
/-- A face in a slice: none, or 64 bytes in a block of D. -/
def FaceOk (w : World) (D : Nat → Prop) (v : Value) (o : Option (List B8)) : Prop :=
  match o with
  | none => v = .slice none 0 0
  | some bs => ∃ b c, v = .slice (some ⟨b, 0, none⟩) 64 c ∧ bs.length = 64 ∧ 64 ≤ c ∧ c ≤ maxLen ∧ D b ∧ Sl by8 w (some ⟨b, 0, none⟩) bs
theorem FaceOk.keep {w w' : World} {D T : Nat → Prop} {v : Value} {o : Option (List B8)} (h : FaceOk w D v o) (hu : Upd T w w') (hT : ∀ k, D k → ¬ T k) : FaceOk w' D v o := by
  cases o with
  | none => exact h
  | some bs =>
    obtain ⟨b, c, h1, h2, h3, h4, h5, h6⟩ := h
    exact ⟨b, c, h1, h2, h3, h4, h5, h6.upd hu (fun b' o e => by injection e with e; injection e with e _; subst e; exact hT _ h5)⟩
theorem FaceOk.more {w : World} {D D' : Nat → Prop} {v : Value} {o : Option (List B8)} (h : FaceOk w D v o) (hD : ∀ k, D k → D' k) : FaceOk w D' v o := by
  cases o with
  | none => exact h
  | some bs =>
    obtain ⟨b, c, h1, h2, h3, h4, h5, h6⟩ := h
    exact ⟨b, c, h1, h2, h3, h4, hD _ h5, h6⟩
def slcs (gl n : Nat) (x : Slv) : Array Value := #[.slice (some ⟨gl, 0, none⟩) n n, .bool x.endless, .int .i64 x.supply, .int .i64 x.strokes]
/-- A slab in block g, its sectors in block gl, its faces in blocks of D. -/
structure Slb (w : World) (B : Nat) (D : Nat → Prop) (g gl : Nat) (f : Nat → Value) (x : Slv) : Prop where
  cells : Blk w g 71 (slcs gl x.secs.length x)
  rows : Arr w gl 74 (2 * x.secs.length) f
  burnt : ∀ i, i < x.secs.length → FaceOk w D (f (2 * i)) (gat x.secs i).1
  ink : ∀ i, i < x.secs.length → FaceOk w D (f (2 * i + 1)) (gat x.secs i).2
  data : ∀ k, D k → B ≤ k ∧ k < w.heap.size ∧ k ≠ g ∧ k ≠ gl
  lg : B ≤ g
  lgl : B ≤ gl
  ne : g ≠ gl
  len : x.secs.length ≤ 4096
theorem Slb.keep {w w' : World} {B : Nat} {D T : Nat → Prop} {g gl : Nat} {f : Nat → Value} {x : Slv} (h : Slb w B D g gl f x) (hu : Upd T w w') (hT : ∀ k, B ≤ k → k < w.heap.size → ¬ T k) : Slb w' B D g gl f x :=
  ⟨h.cells.upd hu (hT g h.lg h.cells.lt), h.rows.upd hu (hT gl h.lgl h.rows.lt), fun i hi => (h.burnt i hi).keep hu (fun k hk => hT k (h.data k hk).1 (h.data k hk).2.1), fun i hi => (h.ink i hi).keep hu (fun k hk => hT k (h.data k hk).1 (h.data k hk).2.1),
    fun k hk => ⟨(h.data k hk).1, Nat.lt_of_lt_of_le (h.data k hk).2.1 hu.size, (h.data k hk).2.2⟩, h.lg, h.lgl, h.ne, h.len⟩
theorem Slb.ext {w w' : World} {B : Nat} {D : Nat → Prop} {g gl : Nat} {f : Nat → Value} {x : Slv} (h : Slb w B D g gl f x) (hu : Ext w w') : Slb w' B D g gl f x := h.keep hu (fun _ _ _ h => h)
set_option maxRecDepth 100000 in
theorem sout_any (B : Nat) (D : Nat → Prop) (g gl : Nat) (f : Nat → Value) (x : Slv) (w : World) (h : Slb w B D g gl f x) :
    Calls Try.prog 17 #[.pointer (some ⟨g, 0, none⟩)] w fun e w' => e = .returned (.bool x.out) ∧ w' = w := by
  have q1 : w.cell? ⟨g, 1, none⟩ = some (.bool x.endless) := h.cells.at 1 rfl
  have q2 : w.cell? ⟨g, 2, none⟩ = some (.int .i64 x.supply) := h.cells.at 2 rfl
  obtain ⟨r, hr⟩ : ∃ r, r = x.out := ⟨_, rfl⟩
  rw [← hr]
  unfold Slv.out at hr
  obtain ⟨secs, endless, supply, strokes⟩ := x
  dsimp only at q1 q2 hr
  clear h
  go_enter Try.func17, Try.ntmps17
  cases endless with
  | true =>
    obtain rfl : r = false := hr
    go_wp2_with fail
    go_ret
    exact ⟨rfl, rfl⟩
  | false =>
    by_cases h0 : supply = 0
    · obtain rfl : r = true := by rw [hr, decide_eq_true h0]; rfl
      clear hr
      subst h0
      go_wp2_with fail
      go_ret
      exact ⟨rfl, rfl⟩
    · have h0b : (supply == 0) = false := beq_eq_false_iff_ne.2 h0
      obtain rfl : r = false := by rw [hr, decide_eq_false h0]; rfl
      clear hr
      go_wp2_with fail
      go_ret
      exact ⟨rfl, rfl⟩
set_option maxRecDepth 100000 in
theorem slook_any (B : Nat) (D : Nat → Prop) (g gl : Nat) (f : Nat → Value) (x : Slv) (n : Int) (w : World) (h : Slb w B D g gl f x) :
    Calls Try.prog 35 #[.pointer (some ⟨g, 0, none⟩), .int .i64 n] w fun e w' => e = .returned (.int .i64 (x.look n)) ∧ w' = w := by
  have q0 : w.cell? ⟨g, 0, none⟩ = some (.slice (some ⟨gl, 0, none⟩) x.secs.length x.secs.length) := h.cells.at 0 rfl
  obtain ⟨N, hN⟩ : ∃ N, N = x.secs.length := ⟨_, rfl⟩
  rw [← hN] at q0
  have hN4 : N ≤ 4096 := by rw [hN]; exact h.len
  have H := hide h
  obtain ⟨r, hr⟩ : ∃ r, r = x.look n := ⟨_, rfl⟩
  rw [← hr]
  have hr2 : r = if x.out then 12 else if n < 0 ∨ (N : Int) ≤ n then 2 else 0 := by rw [hr, hN]; rfl
  have Hr := hide hr2
  clear h hr hr2 hN
  go_enter Try.func35, Try.ntmps35
  go_wp2_with fail
  refine (sout_any B D g gl f x w H.out).mono ?_
  rintro e w1 ⟨rfl, rfl⟩
  cases hout : x.out with
  | true =>
    obtain rfl : r = 12 := by rw [Hr.out, hout]; rfl
    go_wp2_with fail
    go_ret
    exact ⟨rfl, rfl⟩
  | false =>
    have hr3 : r = if n < 0 ∨ (N : Int) ≤ n then 2 else 0 := by rw [Hr.out, hout]; rfl
    have Hr3 := hide hr3
    clear hr3 Hr hout
    by_cases h1 : n < 0
    · obtain rfl : r = 2 := by rw [Hr3.out, if_pos (.inl h1)]
      go_wp2_with fail
      go_ret
      exact ⟨rfl, rfl⟩
    · by_cases h2 : (N : Int) ≤ n
      · obtain rfl : r = 2 := by rw [Hr3.out, if_pos (.inr h2)]
        go_wp2_with fail
        go_ret
        exact ⟨rfl, rfl⟩
      · obtain rfl : r = 0 := by rw [Hr3.out, if_neg (by omega)]
        go_wp2_with fail
        go_ret
        exact ⟨rfl, rfl⟩
set_option maxRecDepth 100000 in
theorem ssectors_any (B : Nat) (D : Nat → Prop) (g gl : Nat) (f : Nat → Value) (x : Slv) (w : World) (h : Slb w B D g gl f x) :
    Calls Try.prog 14 #[.pointer (some ⟨g, 0, none⟩)] w fun e w' => e = .returned (.int .i64 (x.secs.length : Int)) ∧ w' = w := by
  have q0 : w.cell? ⟨g, 0, none⟩ = some (.slice (some ⟨gl, 0, none⟩) x.secs.length x.secs.length) := h.cells.at 0 rfl
  obtain ⟨N, hN⟩ : ∃ N, N = x.secs.length := ⟨_, rfl⟩
  rw [← hN] at q0
  rw [← hN]
  have hN4 : N ≤ 4096 := by rw [hN]; exact h.len
  clear h hN
  go_enter Try.func14, Try.ntmps14
  go_wp2_with fail
  go_ret
  exact ⟨rfl, rfl⟩
set_option maxRecDepth 100000 in
theorem sstrokes_any (B : Nat) (D : Nat → Prop) (g gl : Nat) (f : Nat → Value) (x : Slv) (w : World) (h : Slb w B D g gl f x) :
    Calls Try.prog 16 #[.pointer (some ⟨g, 0, none⟩)] w fun e w' => e = .returned (.int .i64 x.strokes) ∧ w' = w := by
  have q3 : w.cell? ⟨g, 3, none⟩ = some (.int .i64 x.strokes) := h.cells.at 3 rfl
  clear h
  go_enter Try.func16, Try.ntmps16
  go_wp2_with fail
  go_ret
  exact ⟨rfl, rfl⟩
end Go.Proofs.Ytejjofjhcgdedaa
