/- The sum's table of constants, walked. -/
import Derived.Test.YtoekbomfepedcaaShaQ
namespace Go.Proofs.Ytoekbomfepedcaa
set_option linter.unusedSimpArgs false
set_option linter.unusedVariables false
open Go.RowKit
open Sha

theorem wpList_build_eq {P : Program} {w : World} {ops : Array Oper} {rest : List Oper} {o : Oper} {a : Act} {Q : Exit → Act → World → Prop} (hg : o.guard = none) {t : TypeId} {parts : Array (Nat × Operand)} (ho : o.op = .build t parts) (cs : Array Value)
    (hf : P.built t (parts.map fun (i, x) => (i, a.eval x)).toList = some cs)
    (h : wpList P ops Q rest (a.put o.dst (.agg cs)) w) : wpList P ops Q (o :: rest) a w :=
  wpList_build hg t parts ho (by rw [hf]; rfl) (by rw [hf]; exact h)
theorem zero64 (i : Nat) (hi : i < 64) : (#[Value.int .u32 0, .int .u32 0, .int .u32 0, .int .u32 0, .int .u32 0, .int .u32 0, .int .u32 0, .int .u32 0, .int .u32 0, .int .u32 0, .int .u32 0, .int .u32 0, .int .u32 0, .int .u32 0, .int .u32 0, .int .u32 0, .int .u32 0, .int .u32 0, .int .u32 0, .int .u32 0, .int .u32 0, .int .u32 0, .int .u32 0, .int .u32 0, .int .u32 0, .int .u32 0, .int .u32 0, .int .u32 0, .int .u32 0, .int .u32 0, .int .u32 0, .int .u32 0, .int .u32 0, .int .u32 0, .int .u32 0, .int .u32 0, .int .u32 0, .int .u32 0, .int .u32 0, .int .u32 0, .int .u32 0, .int .u32 0, .int .u32 0, .int .u32 0, .int .u32 0, .int .u32 0, .int .u32 0, .int .u32 0, .int .u32 0, .int .u32 0, .int .u32 0, .int .u32 0, .int .u32 0, .int .u32 0, .int .u32 0, .int .u32 0, .int .u32 0, .int .u32 0, .int .u32 0, .int .u32 0, .int .u32 0, .int .u32 0, .int .u32 0, .int .u32 0] : Array Value)[i]? = some (by32 0) := by
  show (Array.replicate 64 (Value.int .u32 0))[i]? = _
  simp [hi, by32]; rfl
theorem kk_ofFn : (Array.ofFn fun i : Fin 64 => by32 (kk i)) = (K.map by32).toArray := ofFn_gat by32 K 64 rfl
set_option maxRecDepth 100000 in
set_option maxHeartbeats 1000000 in
theorem constants_any (w : World) : Calls Try.prog 130 #[] w (RetA 64 kk w) := by
  go_enter Try.func130, Try.ntmps130
  go_wp2_with (first
    | (refine wpList_build_eq rfl rfl (Array.ofFn fun i : Fin 64 => by32 (kk i)) (by rw [kk_ofFn]; kernel_rfl) ?_)
    | (refine wpList_store_whole (n := 64) (f := fun i => by32 (kk i)) rfl rfl rfl rfl (fun _ => rfl) (Arr.new _ _ _ 64 (fun _ => by32 0) rfl zero64) Try.sz_64 ?_; intro w3 hA3 hU3))
  refine bodyPost_ret (results_cell_row rfl _ _ w.heap.size _ _ _ _ rfl hA3 Try.under_64 rfl (by simpa using Try.sz_64)) rfl ⟨rfl, ?_⟩
  exact upd_new hU3 ((Upd.refl _ _).alloc _) (fun i hi => Nat.le_of_eq hi.symm)
end Go.Proofs.Ytoekbomfepedcaa
