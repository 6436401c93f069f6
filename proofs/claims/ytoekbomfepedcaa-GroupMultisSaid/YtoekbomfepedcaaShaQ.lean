/- The sum's small functions, walked. -/
import Derived.Test.YtoekbomfepedcaaRows
import Derived.Test.YtoekbomfepedcaaShaM
import Derived.Deep.QuietTactic
import Derived.BigQuiet
import Derived.Outline
namespace Go.Proofs.Ytoekbomfepedcaa
set_option linter.unusedSimpArgs false
set_option linter.unusedVariables false
open Go.RowKit
open Sha
attribute [local go_sem] steady steadyUpon Cls same_cell by8 by32 by64
attribute [local go_sem] add_u32 xor_u32 or_u32 and_u32 shl_u32 shr_u32 conv_u8_u32 conv_u32_u8 shr_u32' shl8_u32 shl16_u32 shl24_u32 shr8_u32 shr16_u32 shr24_u32

theorem Try.el8 : ElemI Try.prog 23 5 (.int .u8 0) 1 := ⟨by kernel_rfl, by kernel_rfl, rfl⟩
theorem Try.sz8 : (Try.prog.info? 5).map (·.size) = some 1 := by kernel_rfl
theorem Try.sz32 : (Try.prog.info? 104).map (·.size) = some 1 := by kernel_rfl
theorem Try.under_state : Try.prog.underlying 165 = some (.array 8 104) := by kernel_rfl
theorem Try.under32 : Try.prog.underlying 104 = some (.int .u32) := by kernel_rfl
theorem Try.sz_state : (Try.prog.info? 165).map (·.size) = some 8 := by kernel_rfl
theorem Try.under_64 : Try.prog.underlying 169 = some (.array 64 104) := by kernel_rfl
theorem Try.sz_64 : (Try.prog.info? 169).map (·.size) = some 64 := by kernel_rfl

theorem upd_new {w0 w w' : World} {T : Nat → Prop} (h : Upd T w w') (h0 : Ext w0 w) (hT : ∀ k, T k → w0.heap.size ≤ k) : Ext w0 w' :=
  h0.trans' h (fun i hi ht => absurd (hT i ht) (by omega))

set_option maxHeartbeats 400000 in
theorem rotr_any (x : BitVec 32) (k : Int) (s r : Nat) (hs : bits .and .u64 (IntKind.u64.wrap k) 31 = (s : Int)) (h : s + r = 32) (h0 : 0 < r) (w : World) :
    Calls Try.prog 129 #[.int .u32 (n32 x), .int .i64 k] w fun e w' => e = .returned (.int .u32 (n32 (rotr x r))) ∧ w = w' := by
  have h2 : IntKind.u64.wrap (32 - (s : Int)) = ((32 - s : Nat) : Int) := by rw [IntWalk.u64_in _ (by omega)]; omega
  have h3 : rotr x r = x <<< s ||| x >>> (32 - s) := by
    unfold rotr
    rw [BitVec.or_comm, show 32 - r = s by omega, show 32 - s = r by omega]
  rw [h3]
  clear h3
  go_enter Try.func129, Try.ntmps129
  go_wp2
  go_ret
  exact ⟨rfl, rfl⟩

def RetA (n : Nat) (f : Nat → BitVec 32) (w : World) (e : Ending) (w' : World) : Prop := e = .returned (.agg (Array.ofFn fun i : Fin n => by32 (f i))) ∧ Ext w w'
theorem ofFn_gat {α β : Type} [Inhabited α] (f : α → β) (xs : List α) (n : Nat) (h : xs.length = n) : (Array.ofFn fun i : Fin n => f (gat xs i)) = (xs.map f).toArray := by
  subst h
  apply Array.ext
  · simp
  · intro i h1 h2
    simp at h1
    simp [gat_lt h1]

set_option maxHeartbeats 400000 in
theorem first_any (w : World) : Calls Try.prog 116 #[] w (RetA 8 first w) := by
  go_enter Try.func116, Try.ntmps116
  go_wp2
  refine bodyPost_ret (results_cell_row rfl _ _ w.heap.size _ _ _ _ rfl (heap_alloc_new w _) Try.under_state rfl Try.sz_state) rfl ⟨?_, (Upd.refl _ _).alloc _⟩
  refine congrArg (fun x => Ending.returned (.agg x)) ?_
  show _ = Array.ofFn fun i : Fin 8 => by32 (gat F i)
  rw [ofFn_gat by32 F 8 rfl]
  kernel_rfl
end Go.Proofs.Ytoekbomfepedcaa
