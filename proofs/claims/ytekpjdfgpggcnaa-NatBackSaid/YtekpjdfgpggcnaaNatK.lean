/- Division of numbers, walked: the plain cases. -/
import Derived.Test.YtekpjdfgpggcnaaNatJ
namespace Go.Proofs.Ytekpjdfgpggcnaa
set_option linter.unusedSimpArgs false
set_option linter.unusedVariables false
open Go.RowKit
open Nt
attribute [local go_sem] by32 wrap_w32 steady steadyUpon Cls same_cell

/-- Two numbers and a word are handed back. -/
def RetD (w : World) (q r : Nat) (t : Int) (e : Ending) (w' : World) : Prop := ∃ A1 l1 c1 A2 l2 c2, e = .returned (.tuple #[.agg #[.slice A1 l1 c1], .agg #[.slice A2 l2 c2], .int .i64 t]) ∧ NatV w' (.agg #[.slice A1 l1 c1]) q ∧ NatV w' (.agg #[.slice A2 l2 c2]) r ∧ Ext w w'

set_option maxRecDepth 100000 in
set_option maxHeartbeats 1000000 in
theorem div_zero (va vb : Value) (a : Nat) (w : World) (hVa : NatV w va a) (hVb : NatV w vb 0) :
    Calls Try.prog 28 #[va, vb] w (RetD w 0 0 5) := by
  obtain ⟨A, la, ca, xs, rfl, -⟩ := hVa.open_
  obtain ⟨B, lb, cb, ys, rfl, -⟩ := hVb.open_
  go_enter Try.func28, Try.ntmps28
  go_wp2_with (go_at_call 23; go_must (refine (zero_any _ 0 _ (hVb.ext (by repeat (first | (with_reducible exact Upd.refl _ _) | (with_reducible assumption) | (refine Upd.setCell ?_ (.inr (by first | exact Nat.le_refl _ | (dsimp only; omega) | (simp; done) | (simp; omega))) _) | (with_reducible refine Upd.alloc ?_ _) | (with_reducible refine Upd.drew ?_) | (with_reducible refine Upd.trans ?_ (by with_reducible assumption)))))).mono ?_); rintro e w4 ⟨rfl, hU⟩; have hB4 : Box w4 (w.heap.size + 1 + 1) 26 (.slice none 0 0) := (by repeat (first | (with_reducible refine Box.new_at ?_; (simp; done)) | (with_reducible assumption) | (with_reducible refine Box.alloc ?_ _) | (with_reducible refine Box.drew ?_) | (with_reducible refine Box.ext ?_ (by with_reducible assumption)))); have hB5 : Box w4 (w.heap.size + 1 + 1 + 1) 26 (.slice none 0 0) := (by repeat (first | (with_reducible refine Box.new_at ?_; (simp; done)) | (with_reducible assumption) | (with_reducible refine Box.alloc ?_ _) | (with_reducible refine Box.drew ?_) | (with_reducible refine Box.ext ?_ (by with_reducible assumption)))); have hE4 : Ext w w4 := (by repeat (first | (with_reducible exact Upd.refl _ _) | (with_reducible assumption) | (refine Upd.setCell ?_ (.inr (by first | exact Nat.le_refl _ | (dsimp only; omega) | (simp; done) | (simp; omega))) _) | (with_reducible refine Upd.alloc ?_ _) | (with_reducible refine Upd.drew ?_) | (with_reducible refine Upd.trans ?_ (by with_reducible assumption)))); have c4 := hB4.cell; have f4 := hB4.frozen; have c5 := hB5.far (p := ⟨w.heap.size + 1 + 1, 0, none⟩) (by simp) (.slice none 0 0); have d5 := c5.cell; have f5 := c5.frozen)
  have q4 := ((hB4.set (.slice none 0 0)).far (p := ⟨w.heap.size + 1 + 1 + 1, 0, none⟩) (by simp) (.slice none 0 0)).cell
  have q5 := ((hB5.far (p := ⟨w.heap.size + 1 + 1, 0, none⟩) (by simp) (.slice none 0 0)).set (.slice none 0 0)).cell
  exact bodyPost_ret (v := .tuple #[.agg #[.slice none 0 0], .agg #[.slice none 0 0], .int .i64 5]) (by simp [results, Try.results28, go_sem, q4, q5]) rfl ⟨_, _, _, _, _, _, rfl, NatV.nil _, NatV.nil _, (hE4.setCell (p := ⟨w.heap.size + 1 + 1, 0, none⟩) (.inr (by simp; omega)) _).setCell (p := ⟨w.heap.size + 1 + 1 + 1, 0, none⟩) (.inr (by simp; omega)) _⟩

set_option maxRecDepth 100000 in
set_option maxHeartbeats 1000000 in
theorem div_less (va vb : Value) (a b k : Nat) (w : World) (hVa : NatV w va a) (hVb : NatV w vb b) (hFa : Fit k a) (hFb : Fit k b) (hk : k ≤ 1000000) (hab : a < b) :
    Calls Try.prog 28 #[va, vb] w (RetD w 0 a 0) := by
  obtain ⟨A, la, ca, xs, rfl, -⟩ := hVa.open_
  obtain ⟨B, lb, cb, ys, rfl, -⟩ := hVb.open_
  have hcn : cmpI a b < 0 := by rw [cmpI_neg]; exact hab
  have hb0 : ¬ b = 0 := by omega
  go_enter Try.func28, Try.ntmps28
  go_wp2_with (first
    | (go_at_call 23; go_must (refine (zero_any _ b _ (hVb.ext (by repeat (first | (with_reducible exact Upd.refl _ _) | (with_reducible assumption) | (refine Upd.setCell ?_ (.inr (by first | exact Nat.le_refl _ | (dsimp only; omega) | (simp; done) | (simp; omega))) _) | (with_reducible refine Upd.alloc ?_ _) | (with_reducible refine Upd.drew ?_) | (with_reducible refine Upd.trans ?_ (by with_reducible assumption)))))).mono ?_); rintro e w4 ⟨rfl, hU4⟩; have hB2 : Box w4 w.heap.size 26 (.slice A la ca) := (by repeat (first | (with_reducible refine Box.new_at ?_; (simp; done)) | (with_reducible assumption) | (with_reducible refine Box.alloc ?_ _) | (with_reducible refine Box.drew ?_) | (with_reducible refine Box.ext ?_ (by with_reducible assumption)))); have hB3 : Box w4 (w.heap.size + 1) 26 (.slice B lb cb) := (by repeat (first | (with_reducible refine Box.new_at ?_; (simp; done)) | (with_reducible assumption) | (with_reducible refine Box.alloc ?_ _) | (with_reducible refine Box.drew ?_) | (with_reducible refine Box.ext ?_ (by with_reducible assumption)))); have hB4 : Box w4 (w.heap.size + 1 + 1) 26 (.slice none 0 0) := (by repeat (first | (with_reducible refine Box.new_at ?_; (simp; done)) | (with_reducible assumption) | (with_reducible refine Box.alloc ?_ _) | (with_reducible refine Box.drew ?_) | (with_reducible refine Box.ext ?_ (by with_reducible assumption)))); have hB5 : Box w4 (w.heap.size + 1 + 1 + 1) 26 (.slice none 0 0) := (by repeat (first | (with_reducible refine Box.new_at ?_; (simp; done)) | (with_reducible assumption) | (with_reducible refine Box.alloc ?_ _) | (with_reducible refine Box.drew ?_) | (with_reducible refine Box.ext ?_ (by with_reducible assumption)))); have hE4 : Ext w w4 := (by repeat (first | (with_reducible exact Upd.refl _ _) | (with_reducible assumption) | (refine Upd.setCell ?_ (.inr (by first | exact Nat.le_refl _ | (dsimp only; omega) | (simp; done) | (simp; omega))) _) | (with_reducible refine Upd.alloc ?_ _) | (with_reducible refine Upd.drew ?_) | (with_reducible refine Upd.trans ?_ (by with_reducible assumption)))); have c2 := hB2.cell; have c3 := hB3.cell; clear hU4)
    | (go_at_call 24; go_must (refine (cmp_any _ _ a b k _ (hVa.ext (by repeat (first | (with_reducible exact Upd.refl _ _) | (with_reducible assumption) | (refine Upd.setCell ?_ (.inr (by first | exact Nat.le_refl _ | (dsimp only; omega) | (simp; done) | (simp; omega))) _) | (with_reducible refine Upd.alloc ?_ _) | (with_reducible refine Upd.drew ?_) | (with_reducible refine Upd.trans ?_ (by with_reducible assumption))))) (hVb.ext (by repeat (first | (with_reducible exact Upd.refl _ _) | (with_reducible assumption) | (refine Upd.setCell ?_ (.inr (by first | exact Nat.le_refl _ | (dsimp only; omega) | (simp; done) | (simp; omega))) _) | (with_reducible refine Upd.alloc ?_ _) | (with_reducible refine Upd.drew ?_) | (with_reducible refine Upd.trans ?_ (by with_reducible assumption))))) hFa hFb hk).mono ?_); rintro e w5 ⟨rfl, hU5⟩; have hE5 := hE4.trans hU5; have hB2' := hB2.ext hU5; have hB4' := hB4.ext hU5; have hB5' := hB5.ext hU5; clear hB2 hB3 hB4 hB5 hU5 hE4 c2 c3))
  obtain ⟨T2, hT2⟩ : ∃ T2 : Nat → Prop, T2 = fun k => k = w.heap.size + 1 + 1 ∨ k = w.heap.size + 1 + 1 + 1 := ⟨_, rfl⟩
  have ht4 : T2 (w.heap.size + 1 + 1) := by rw [hT2]; exact .inl rfl
  have ht5 : T2 (w.heap.size + 1 + 1 + 1) := by rw [hT2]; exact .inr rfl
  have hn2 : ¬ T2 w.heap.size := by rw [hT2]; omega
  clear hT2 hcn
  have c2 := fun x : Wd (Upd T2 w5.drew) => (x.ok.cell (p := ⟨w.heap.size, 0, none⟩) hB2'.lt hn2).trans hB2'.cell
  -- w5 world, hB4' hB5' boxes of the results, .slice none 0 0 first value, .slice A la ca second value, 4 region, clear c2 clear
  refine wp_region_plan (Upd T2 _) 4 [(false,0), (false,1), (true,2), (true,3)] (by kernel_rfl) (by kernel_rfl) (Upd.refl _ _) (fun hne => ?_)
  repeat (refine head_q rfl (fun K hK => ?_); have hK2 := hide hK; clear hK; go_simp; refine hK2.out _ ?_; clear hK2 K)
  clear c2
  refine head_l rfl ?_
  have cm4 := hB4'.drew.cell
  have fm4 := hB4'.drew.frozen
  go_wp2_with fail
  refine ⟨Cls (Upd T2 w5.drew), fun _ h => h, ⟨⟨_, (Upd.refl T2 _).setCell (p := ⟨w.heap.size + 1 + 1, 0, none⟩) (.inl ht4) _⟩, rfl⟩, ?_⟩
  refine head_l rfl ?_
  have cm5 := (hB5'.far (p := ⟨w.heap.size + 1 + 1, 0, none⟩) (by simp) (.slice none 0 0)).drew.cell
  have fm5 := (hB5'.far (p := ⟨w.heap.size + 1 + 1, 0, none⟩) (by simp) (.slice none 0 0)).drew.frozen
  go_wp2_with fail
  refine ⟨Cls (Upd T2 w5.drew), fun _ h => h, ⟨⟨_, ((Upd.refl T2 _).setCell (p := ⟨w.heap.size + 1 + 1, 0, none⟩) (.inl ht4) _).setCell (p := ⟨w.heap.size + 1 + 1 + 1, 0, none⟩) (.inl ht5) _⟩, rfl⟩, ?_⟩
  refine head_nil ?_
  try simp only [List.drop_succ_cons, List.drop_zero]
  go_wp2
  have q4 := ((hB4'.set (.slice none 0 0)).far (p := ⟨w.heap.size + 1 + 1 + 1, 0, none⟩) (by simp) (.slice A la ca)).drew.cell
  have q5 := ((hB5'.far (p := ⟨w.heap.size + 1 + 1, 0, none⟩) (by simp) (.slice none 0 0)).set (.slice A la ca)).drew.cell
  have hVx := ((hVa.ext hE5).far (v := .slice none 0 0) hB4'.cell).far (v := .slice A la ca) cm5
  exact bodyPost_ret (v := .tuple #[.agg #[.slice none 0 0], .agg #[.slice A la ca], .int .i64 0]) (by simp [results, Try.results28, go_sem, q4, q5]) rfl ⟨_, _, _, _, _, _, rfl, NatV.nil _, hVx, (hE5.drew.setCell (p := ⟨w.heap.size + 1 + 1, 0, none⟩) (.inr (by simp; omega)) _).setCell (p := ⟨w.heap.size + 1 + 1 + 1, 0, none⟩) (.inr (by simp; omega)) _⟩
end Go.Proofs.Ytekpjdfgpggcnaa
