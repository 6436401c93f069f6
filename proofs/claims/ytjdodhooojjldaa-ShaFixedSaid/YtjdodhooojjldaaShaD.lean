/- Sums that are fixed, and the constants: the law, walked. -/
import Derived.Test.YtjdodhooojjldaaShaP
import Derived.Test.YtjdodhooojjldaaShaI
import Derived.Test.YtjdodhooojjldaaShaW
import Derived.Test.YtjdodhooojjldaaMonoL
import Derived.ChangeKeysEq
import Derived.Great.BuildSlice
import Derived.Lib.SmallJoins
import Derived.Lib.SlBytesConst
namespace Go.Proofs.Ytjdodhooojjldaa
set_option linter.unusedSimpArgs false
set_option linter.unusedVariables false
open Go.RowKit
open Sha
theorem run_equalIn_same {P : Program} (w : World) (d : Nat) (t e : TypeId) (n : Nat) (ht : P.underlying t = some (.array n e)) (he : P.underlying e = some (.int .u32)) (hsz : ∀ w, (sizeOf e).run P w = .ok 1 w) (f : Nat → BitVec 32) :
    (Op.equalIn (d + 2) t (.agg (Array.ofFn fun i : Fin n => by32 (f i))) (.agg (Array.ofFn fun i : Fin n => by32 (f i)))).run P w = .ok true w := by
  rw [Op.equalIn]
  simp only [Sem.run_bind, run_underlying ht, Result.andThen_ok, hsz, Std.Legacy.Range.forIn_eq_forIn_range', Std.Legacy.Range.size, Nat.sub_zero, Nat.add_sub_cancel, Nat.div_one]
  have hl : ∀ i ∈ List.range' 0 n 1, i < n := fun i hi => by simpa using (List.mem_range'_1.1 hi).2
  generalize List.range' 0 n 1 = l at hl ⊢
  induction l with
  | nil => simp
  | cons i l ih =>
    have hi : i < n := hl i (by simp)
    have px : (Go.part e (Array.ofFn fun i : Fin n => by32 (f i)) (i * 1)).run P w = .ok (by32 (f i)) w := by
      simp [Go.part, isAgg, run_underlying he, hi]
    have pe : (Op.equalIn (d + 1) e (by32 (f i)) (by32 (f i))).run P w = .ok true w := by
      unfold by32
      rw [run_equalIn_int w d e .u32 .u32 _ _ he]
      simp
    simp only [List.forIn_cons, Sem.run_bind, px, pe, Result.andThen_ok]
    simp only [Bool.not_true, Bool.false_eq_true, if_false, Sem.run_pure, Result.andThen_ok]
    exact ih fun j hj => hl j (by simp [hj])
theorem run_neq_same {P : Program} (w : World) (t e : TypeId) (n : Nat) (ht : P.underlying t = some (.array n e)) (he : P.underlying e = some (.int .u32)) (hsz : ∀ w, (sizeOf e).run P w = .ok 1 w) (f : Nat → BitVec 32) :
    (binOp .neq t (.agg (Array.ofFn fun i : Fin n => by32 (f i))) (.agg (Array.ofFn fun i : Fin n => by32 (f i)))).run P w = .ok (.bool false) w := by
  rw [run_neq_struct, run_equalIn_same w 9998 t e n ht he hsz f]
  rfl
def abcL : List (BitVec 8) := [97, 98, 99]
def longL : List (BitVec 8) := [97, 98, 99, 100, 98, 99, 100, 101, 99, 100, 101, 102, 100, 101, 102, 103, 101, 102, 103, 104, 102, 103, 104, 105, 103, 104, 105, 106, 104, 105, 106, 107, 105, 106, 107, 108, 106, 107, 108, 109, 107, 108, 109, 110, 108, 109, 110, 111, 109, 110, 111, 112, 110, 111, 112, 113]
def abcS : List (BitVec 8) := [186, 120, 22, 191, 143, 1, 207, 234, 65, 65, 64, 222, 93, 174, 34, 35, 176, 3, 97, 163, 150, 23, 122, 156, 180, 16, 255, 97, 242, 0, 21, 173]
def longS : List (BitVec 8) := [36, 141, 106, 97, 210, 6, 56, 184, 229, 192, 38, 147, 12, 62, 96, 57, 163, 60, 228, 89, 100, 255, 33, 103, 246, 236, 237, 212, 25, 219, 6, 193]
section
namespace Sha
theorem sum_abc : sum abcL = abcS := sum_is abcL _ [97, 98, 99, 128, 0, 0, 0, 0, 0, 0, 0, 0, 0, 0, 0, 0, 0, 0, 0, 0, 0, 0, 0, 0, 0, 0, 0, 0, 0, 0, 0, 0, 0, 0, 0, 0, 0, 0, 0, 0, 0, 0, 0, 0, 0, 0, 0, 0, 0, 0, 0, 0, 0, 0, 0, 0, 0, 0, 0, 0, 0, 0, 0, 24] _ (by decide +kernel) rfl (by decide +kernel)
theorem sum_long : sum longL = longS := sum_is longL _ [97, 98, 99, 100, 98, 99, 100, 101, 99, 100, 101, 102, 100, 101, 102, 103, 101, 102, 103, 104, 102, 103, 104, 105, 103, 104, 105, 106, 104, 105, 106, 107, 105, 106, 107, 108, 106, 107, 108, 109, 107, 108, 109, 110, 108, 109, 110, 111, 109, 110, 111, 112, 110, 111, 112, 113, 128, 0, 0, 0, 0, 0, 0, 0, 0, 0, 0, 0, 0, 0, 0, 0, 0, 0, 0, 0, 0, 0, 0, 0, 0, 0, 0, 0, 0, 0, 0, 0, 0, 0, 0, 0, 0, 0, 0, 0, 0, 0, 0, 0, 0, 0, 0, 0, 0, 0, 0, 0, 0, 0, 0, 0, 0, 0, 0, 0, 0, 0, 0, 0, 0, 0, 0, 0, 0, 0, 1, 192] _ (by decide +kernel) rfl (by decide +kernel)
end Sha
end
end Go.Proofs.Ytjdodhooojjldaa
