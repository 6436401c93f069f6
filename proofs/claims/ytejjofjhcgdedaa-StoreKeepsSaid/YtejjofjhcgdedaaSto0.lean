/- Arrays of bytes, compared; a string, copied into a slice. -/
import Derived.Test.YtejjofjhcgdedaaStoP
import Derived.Test.YtejjofjhcgdedaaSlbU
import Derived.Deep.MidRow
import Derived.Lib.LazyBuf
namespace Go.Proofs.Ytejjofjhcgdedaa
set_option linter.unusedSimpArgs false
set_option linter.unusedVariables false
open Go.RowKit
open Sha
theorem run_equalIn_b8 {P : Program} (w : World) (d : Nat) (t e : TypeId) (n : Nat) (ht : P.underlying t = some (.array n e)) (he : P.underlying e = some (.int .u8)) (hsz : ∀ w, (sizeOf e).run P w = .ok 1 w) (bs cs : List B8) (hb : bs.length = n) (hc : cs.length = n) :
    (Op.equalIn (d + 2) t (.agg (bs.map by8).toArray) (.agg (cs.map by8).toArray)).run P w = .ok (decide (bs = cs)) w := by
  rw [Op.equalIn]
  simp only [Sem.run_bind, run_underlying ht, Result.andThen_ok, hsz, Std.Legacy.Range.forIn_eq_forIn_range', Std.Legacy.Range.size, Nat.sub_zero, Nat.add_sub_cancel, Nat.div_one]
  have hl : ∀ i ∈ List.range' 0 n 1, i < n := fun i hi => by simpa using (List.mem_range'_1.1 hi).2
  have hall : (bs = cs) ↔ ∀ i ∈ List.range' 0 n 1, gat bs i = gat cs i := by
    constructor
    · rintro rfl i _; rfl
    · intro h
      refine List.ext_getElem (hb.trans hc.symm) fun i h1 h2 => ?_
      have := h i (by rw [List.mem_range'_1]; omega)
      rwa [gat_lt h1, gat_lt h2] at this
  have hd : decide (bs = cs) = decide (∀ i ∈ List.range' 0 n 1, gat bs i = gat cs i) := by
    by_cases h : bs = cs
    · rw [decide_eq_true h, decide_eq_true (hall.1 h)]
    · rw [decide_eq_false h, decide_eq_false (fun k => h (hall.2 k))]
  rw [hd]
  clear hd hall
  generalize List.range' 0 n 1 = l at hl ⊢
  induction l with
  | nil => simp
  | cons i l ih =>
    have hi : i < n := hl i (by simp)
    have px : ∀ (xs : List B8), xs.length = n → (Go.part e (xs.map by8).toArray (i * 1)).run P w = .ok (by8 (gat xs i)) w := by
      intro xs hx
      have h1 : (xs.map by8).toArray[i]? = some (by8 (gat xs i)) := by
        rw [List.getElem?_toArray, List.getElem?_map, List.getElem?_eq_getElem (by omega), gat_lt (by omega)]
        rfl
      simp [Go.part, isAgg, run_underlying he, h1]
    have pe : (Op.equalIn (d + 1) e (by8 (gat bs i)) (by8 (gat cs i))).run P w = .ok (decide (gat bs i = gat cs i)) w := by
      unfold by8
      rw [run_equalIn_int w d e .u8 .u8 _ _ he]
      have : (n8 (gat bs i) == n8 (gat cs i)) = decide (gat bs i = gat cs i) := by
        by_cases h : gat bs i = gat cs i
        · rw [h]; simp
        · rw [decide_eq_false h]; simp [n8_inj, h]
      simp [this]
    simp only [List.forIn_cons, Sem.run_bind, px _ hb, px _ hc, pe, Result.andThen_ok]
    by_cases h : gat bs i = gat cs i
    · have h2 : decide (∀ j ∈ i :: l, gat bs j = gat cs j) = decide (∀ j ∈ l, gat bs j = gat cs j) := by simp [h]
      rw [h2]
      simp only [h, decide_true, Bool.not_true, Bool.false_eq_true, if_false, Sem.run_pure, Result.andThen_ok]
      exact ih fun j hj => hl j (by simp [hj])
    · have h2 : decide (∀ j ∈ i :: l, gat bs j = gat cs j) = false := by simp [h]
      rw [h2]
      simp only [h, decide_false, Bool.not_false, if_true, Sem.run_pure, Result.andThen_ok]
theorem run_neq_b8 {P : Program} (w : World) (t e : TypeId) (n : Nat) (ht : P.underlying t = some (.array n e)) (he : P.underlying e = some (.int .u8)) (hsz : ∀ w, (sizeOf e).run P w = .ok 1 w) (bs cs : List B8) (hb : bs.length = n) (hc : cs.length = n) :
    (binOp .neq t (.agg (bs.map by8).toArray) (.agg (cs.map by8).toArray)).run P w = .ok (.bool (decide (bs ≠ cs))) w := by
  rw [run_neq_struct, run_equalIn_b8 w 9998 t e n ht he hsz bs cs hb hc]
  by_cases h : bs = cs <;> simp [h, Result.andThen]
theorem wpList_copy_run {P : Program} {w w' : World} {ops : Array Oper} {rest : List Oper} {o : Oper} {a : Act} {Q : Exit → Act → World → Prop} (hgd : o.guard = none) {d s : Operand} {dT sT : TypeId} (ho : o.op = .call { callee := .builtin .copy, args := #[d, s], argTypes := #[dT, sT] })
    {dv sv n : Value} (hd : a.eval d = dv) (hs : a.eval s = sv) (hrun : (Builtin.copy_ #[dT, sT] o.type #[dv, sv]).run P w = .ok n w') (h : wpList P ops Q rest (a.put o.dst n) w') : wpList P ops Q (o :: rest) a w :=
  wpList_plain hgd fun K hK => by
    unfold Oper.wp
    simp [execOp, ho, resolve, invoke, builtin, hd, hs, hrun, Result.andThen]
    exact hK _ _ h
end Go.Proofs.Ytejjofjhcgdedaa
