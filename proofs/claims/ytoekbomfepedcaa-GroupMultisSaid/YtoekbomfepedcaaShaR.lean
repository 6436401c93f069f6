/- The document's block of the sum, walked. -/
import Derived.Test.YtoekbomfepedcaaShaU
namespace Go.Proofs.Ytoekbomfepedcaa
set_option linter.unusedSimpArgs false
set_option linter.unusedVariables false
open Go.RowKit
open Sha
attribute [local go_sem] steady steadyUpon Cls same_cell by8 by32 by64
attribute [local go_sem] not_u32 add_u32 xor_u32 or_u32 and_u32 conv_u8_u32 shl8_u32 shl16_u32 shl24_u32 shr3_u32 shr10_u32 shl_u32 shr_u32 shr_u32'

set_option maxHeartbeats 400000 in
theorem rturn_any (x : BitVec 32) (s : Nat) (h : s ≤ 31) (w : World) :
    Calls Try.prog 131 #[.int .u32 (n32 x), .int .u64 (s : Int)] w fun e w' => e = .returned (.int .u32 (n32 (rotr x s))) ∧ w = w' := by
  have h2 : IntKind.u64.wrap (32 - (s : Int)) = ((32 - s : Nat) : Int) := by rw [IntWalk.u64_in _ (by omega)]; omega
  unfold rotr
  go_enter Try.func131, Try.ntmps131
  go_wp2
  go_ret
  exact ⟨rfl, rfl⟩
theorem rturn_at (x : BitVec 32) (n : Int) (s : Nat) (hs : n = (s : Int)) (h : s ≤ 31) (w : World) :
    Calls Try.prog 131 #[.int .u32 (n32 x), .int .u64 n] w fun e w' => e = .returned (.int .u32 (n32 (rotr x s))) ∧ w = w' := by
  subst hs; exact rturn_any x s h w
theorem ch_or (e f g : BitVec 32) : (e &&& f ||| ~~~e &&& g) = ch e f g := by
  unfold ch
  ext i hi
  simp only [BitVec.getElem_or, BitVec.getElem_and, BitVec.getElem_not, BitVec.getElem_xor]
  cases e[i] <;> cases f[i] <;> cases g[i] <;> rfl
theorem maj_or (a b c : BitVec 32) : (a &&& b ||| a &&& c ||| b &&& c) = maj a b c := by
  unfold maj
  ext i hi
  simp only [BitVec.getElem_or, BitVec.getElem_and, BitVec.getElem_xor]
  cases a[i] <;> cases b[i] <;> cases c[i] <;> rfl
theorem sched_step' (m : Nat → BitVec 8) (j : Nat) (h : 16 ≤ j) : steps sstep (w0 m 16) (j + 1 - 16) =
    put1 (steps sstep (w0 m 16) (j - 16)) j (s1 (steps sstep (w0 m 16) (j - 16) (j - 2)) + steps sstep (w0 m 16) (j - 16) (j - 7) + s0 (steps sstep (w0 m 16) (j - 16) (j - 15)) + steps sstep (w0 m 16) (j - 16) (j - 16)) := by
  rw [sched_step m j h]
  congr 1
  generalize steps sstep (w0 m 16) (j - 16) (j - 16) = a
  generalize steps sstep (w0 m 16) (j - 16) (j - 7) = b
  generalize s0 (steps sstep (w0 m 16) (j - 16) (j - 15)) = c
  generalize s1 (steps sstep (w0 m 16) (j - 16) (j - 2)) = d
  ac_rfl

theorem Arr.new1 (w : World) (a : Obj) (t : TypeId) (cs : Array Value) (n : Nat) (f : Nat → Value) (hn : cs.size = n) (hf : ∀ i, i < n → cs[i]? = some (f i)) : Arr ((w.alloc a).alloc (.cells cs t)) (w.heap.size + 1) t n f := by
  have := Arr.new (w.alloc a) t cs n f hn hf
  simpa using this
theorem ne_succ (k : Nat) : ¬ only k (k + 1) := fun h => by unfold only at h; omega
def TabPost (w : World) (e : Ending) (w' : World) : Prop := e = .returned (.tuple #[.agg (Array.ofFn fun i : Fin 64 => by32 (kk i)), .agg (Array.ofFn fun i : Fin 8 => by32 (first i))]) ∧ Ext w w'
theorem first_ofFn : (Array.ofFn fun i : Fin 8 => by32 (first i)) = (F.map by32).toArray := ofFn_gat by32 F 8 rfl
theorem Try.sz_t8 : (Try.prog.info? 164).map (·.size) = some 8 := by kernel_rfl
theorem Try.under_t8 : Try.prog.underlying 164 = some (.array 8 104) := by kernel_rfl
theorem results_arr2 {P : Program} {fn : Func} {p1 p2 : Tmp} {T1 T2 : TypeId} (h : fn.results = #[.cell p1 T1, .cell p2 T2]) (tmps : Array Value) (w : World) {g1 g2 t1 t2 n1 n2 : Nat} {f1 f2 : Nat → Value} {e1 e2 : TypeId}
    (hp1 : tmps.getD p1 undef = .pointer (some ⟨g1, 0, none⟩)) (hp2 : tmps.getD p2 undef = .pointer (some ⟨g2, 0, none⟩)) (h1 : Arr w g1 t1 n1 f1) (h2 : Arr w g2 t2 n2 f2)
    (hu1 : P.underlying T1 = some (.array n1 e1)) (hu2 : P.underlying T2 = some (.array n2 e2)) (hi1 : (P.info? T1).map (·.size) = some n1) (hi2 : (P.info? T2).map (·.size) = some n2) :
    (results fn tmps).run P w = .ok (.tuple #[.agg (Array.ofFn fun i : Fin n1 => f1 i), .agg (Array.ofFn fun i : Fin n2 => f2 i)]) w := by
  have hp1' : tmps[p1]?.getD undef = .pointer (some ⟨g1, 0, none⟩) := by simpa using hp1
  have hp2' : tmps[p2]?.getD undef = .pointer (some ⟨g2, 0, none⟩) := by simpa using hp2
  simp [results, h, hp1', hp2', asAddr, run_loadVar_row w g1 t1 T1 _ (0, 0) _ h1 hu1 rfl (by simpa using hi1), run_loadVar_row w g2 t2 T2 _ (0, 0) _ h2 hu2 rfl (by simpa using hi2)]
set_option maxRecDepth 100000 in
set_option maxHeartbeats 1000000 in
theorem table_any (w : World) : Calls Try.prog 119 #[] w (TabPost w) := by
  go_enter Try.func119, Try.ntmps119
  go_wp2_with (first
    | (refine wpList_build_eq (o := ⟨some 2, _, _, _, _, _⟩) rfl rfl (Array.ofFn fun i : Fin 64 => by32 (kk i)) (by rw [kk_ofFn]; kernel_rfl) ?_)
    | (refine wpList_build_eq (o := ⟨some 3, _, _, _, _, _⟩) rfl rfl (Array.ofFn fun i : Fin 8 => by32 (first i)) (by rw [first_ofFn]; kernel_rfl) ?_)
    | (refine wpList_store_whole (n := 64) (f := fun i => by32 (kk i)) rfl rfl rfl rfl (fun _ => rfl) ((Arr.new w _ _ 64 (fun _ => by32 0) rfl zero64).alloc _) Try.sz_64 ?_; intro w3 hA3 hU3)
    | (refine wpList_store_whole (n := 8) (f := fun i => by32 (first i)) rfl rfl rfl rfl (fun _ => rfl) ((Arr.new1 w _ _ _ 8 (fun _ => by32 0) rfl zero8).upd hU3 (ne_succ _)) Try.sz_t8 ?_; intro w4 hA4 hU4))
  have hA5 := hA3.upd hU4 (fun h => by unfold only at h; simp at h)
  refine bodyPost_ret (results_arr2 rfl _ _ rfl rfl hA5 hA4 Try.under_64 Try.under_t8 Try.sz_64 Try.sz_t8) rfl ⟨rfl, ?_⟩
  exact upd_new hU4 (upd_new hU3 (((Upd.refl _ _).alloc _).alloc _) (fun i hi => Nat.le_of_eq hi.symm)) (fun i hi => by unfold only at hi; omega)
end Go.Proofs.Ytoekbomfepedcaa
