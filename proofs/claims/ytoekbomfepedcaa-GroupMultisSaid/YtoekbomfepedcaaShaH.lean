/- The sum's hash in memory: new, added to. -/
import Derived.Test.YtoekbomfepedcaaShaB
namespace Go.Proofs.Ytoekbomfepedcaa
set_option linter.unusedSimpArgs false
set_option linter.unusedVariables false
open Go.RowKit
open Sha
attribute [local go_sem] steady steadyUpon Cls same_cell by8 by32 by64

/-- The ten cells of a hash. -/
def hcell (H : Nat → BitVec 32) (A : Option Addr) (l c n : Nat) : Nat → Value := fun j => if j < 8 then by32 (H j) else if j = 8 then .slice A l c else .int .i64 n
/-- Block g is a hash that has taken msg in: T are the blocks that it is made of. -/
structure Hsh (w : World) (B : Nat) (T : Nat → Prop) (g : Nat) (msg : List (BitVec 8)) : Prop where
  ex : ∃ A c, Arr w g 168 10 (hcell (hs msg (msg.length / 64)) A (msg.length % 64) c msg.length) ∧ Ows w B 5 A c ((msg.drop (64 * (msg.length / 64))).map by8) ∧ ∀ k, T k ↔ k = g ∨ inA A k
  old : B ≤ g

theorem Hsh.in_ {w : World} {B : Nat} {T : Nat → Prop} {g : Nat} {msg : List (BitVec 8)} (h : Hsh w B T g msg) {k : Nat} (hk : T k) : B ≤ k ∧ k < w.heap.size := by
  obtain ⟨A, c, hA, hO, hT⟩ := h.ex
  rcases (hT k).1 hk with rfl | h1
  · exact ⟨h.old, hA.lt⟩
  · exact hO.in_ h1
theorem Hsh.upd {w w' : World} {B : Nat} {T T' : Nat → Prop} {g : Nat} {msg : List (BitVec 8)} (h : Hsh w B T g msg) (hu : Upd T' w w') (hd : ∀ k, T k → ¬ T' k) : Hsh w' B T g msg := by
  obtain ⟨A, c, hA, hO, hT⟩ := h.ex
  exact ⟨⟨A, c, hA.upd hu (hd g ((hT g).2 (.inl rfl))), hO.upd hu (fun k hk => hd k ((hT k).2 (.inr hk))), hT⟩, h.old⟩
theorem Hsh.ext {w w' : World} {B : Nat} {T : Nat → Prop} {g : Nat} {msg : List (BitVec 8)} (h : Hsh w B T g msg) (hu : Ext w w') : Hsh w' B T g msg := h.upd hu (fun _ _ h => h)
theorem Hsh.low {w : World} {B B' : Nat} {T : Nat → Prop} {g : Nat} {msg : List (BitVec 8)} (h : Hsh w B T g msg) (hb : B' ≤ B) : Hsh w B' T g msg := by
  obtain ⟨A, c, hA, hO, hT⟩ := h.ex
  exact ⟨⟨A, c, hA, hO.low hb, hT⟩, Nat.le_trans hb h.old⟩

def cells10 (H : Nat → BitVec 32) (x y : Value) : Array Value := #[by32 (H 0), by32 (H 1), by32 (H 2), by32 (H 3), by32 (H 4), by32 (H 5), by32 (H 6), by32 (H 7), x, y]
theorem hash_cells (H : Nat → BitVec 32) (x y : Value) : Array.foldl (fun cs x => cs.setIfInBounds x.snd x.fst)
        #[Value.int IntKind.u32 0, Value.int IntKind.u32 0, Value.int IntKind.u32 0, Value.int IntKind.u32 0,
          Value.int IntKind.u32 0, Value.int IntKind.u32 0, Value.int IntKind.u32 0, Value.int IntKind.u32 0, x, y]
        (Array.ofFn fun i : Fin 8 => Value.int IntKind.u32 (n32 (H i))).zipIdx 0 8 = cells10 H x y := by
  have h : (Array.ofFn fun i : Fin 8 => Value.int IntKind.u32 (n32 (H i))) = #[by32 (H 0), by32 (H 1), by32 (H 2), by32 (H 3), by32 (H 4), by32 (H 5), by32 (H 6), by32 (H 7)] := by
    apply Array.ext
    · simp
    · intro i h1 h2
      simp at h1
      match i, h1 with
      | 0, _ | 1, _ | 2, _ | 3, _ | 4, _ | 5, _ | 6, _ | 7, _ => rw [Array.getElem_ofFn]; rfl
      | n + 8, h => exact absurd h (by omega)
  rw [h]
  simp [List.zipIdx, cells10]
theorem cells10_at (H : Nat → BitVec 32) (A : Option Addr) (l c n : Nat) (i : Nat) (hi : i < 10) : (cells10 H (.slice A l c) (.int .i64 n))[i]? = some (hcell H A l c n i) := by
  match i, hi with
  | 0, _ | 1, _ | 2, _ | 3, _ | 4, _ | 5, _ | 6, _ | 7, _ | 8, _ | 9, _ => rfl
  | n + 10, h => exact absurd h (by omega)

set_option maxRecDepth 100000 in
set_option maxHeartbeats 1000000 in
theorem hnew_any (w : World) : Calls Try.prog 80 #[] w fun e w' => ∃ g T, e = .returned (.pointer (some ⟨g, 0, none⟩)) ∧ Hsh w' w.heap.size T g [] ∧ Ext w w' := by
  go_enter Try.func80, Try.ntmps80
  go_wp2_with (first
    | (go_at_call 116; refine (first_any _).mono ?_; rintro e w1 ⟨rfl, hU1⟩))
  go_ret
  rw [hash_cells]
  refine ⟨w1.heap.size, fun k => k = w1.heap.size ∨ inA none k, rfl, ⟨⟨none, 0, Arr.new w1 _ _ 10 _ rfl (fun i hi => cells10_at first none 0 0 0 i hi), Ows.nil, fun k => Iff.rfl⟩, hU1.size⟩, hU1.alloc _⟩
end Go.Proofs.Ytoekbomfepedcaa
