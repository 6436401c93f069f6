/- A region whose order is open, in the round of a range over a function (the wide fence): by the plan of the lone walk. -/
import Derived.RangeFuncCalls
import Derived.OrdersIn
import Derived.Test.YtekpjdfgpggcnaaMem2
namespace Go.Proofs.Ytekpjdfgpggcnaa
set_option linter.unusedSimpArgs false
set_option linter.unusedVariables false

section
variable {P : Program} {ops : Array Oper} {md : Region.Mode}

theorem wpOpIn_of_wpOp {i l n : Nat} {a : Act} {w : World} {K0 : Act → World → Prop} {K K' : Act → World → Prop} {Q : Exit → Act → World → Prop} (hdef : ∀ (j : Nat) (o : Oper) c, ops[j]? = some o → o.op ≠ .defer c) (h : ∀ a w, K a w → K' a w)
    (hh : wpOp P ops (Exit.then K0 noQ) i K a w) : wpOpIn (Fence.wide.inRound l) n P ops Q i K' a w := by
  unfold wpOp at hh
  unfold wpOpIn
  split
  · simp [*] at hh; exact h _ _ hh
  · rename_i o ho
    simp only [ho] at hh
    split
    · rename_i hw
      rw [if_pos hw] at hh
      rcases hh with hh | ⟨_, _, _, hf⟩
      · refine ⟨fun f _ => trivial, ?_⟩
        rw [Oper.semAt_eq _ _ _ (fun c => hdef i o c ho)]
        unfold Oper.wp at hh
        generalize (execOp a.eval o).run P w = r at *
        cases r with
        | ok nx w' =>
          cases nx <;> simp only [Oper.upon, Oper.uponIn] at hh ⊢
          case value => exact h _ _ hh
          case skip => exact h _ _ hh
          case defer => exact h _ _ hh
          case enter f args =>
            refine ⟨fun hd => by simp [Fence.wide] at hd, CallsIn.inRound l (callsIn_wide.2 (Calls.mono hh (fun e w'' he => by
              cases e with
              | returned v => exact h _ _ he
              | panicked c => exact he.elim
              | outgrown => obtain ⟨_, _, hf⟩ := he; exact hf.elim)))⟩
          case row rw args => exact ⟨fun hd => by simp [Fence.wide] at hd, fun c cs _ => let ⟨v, w'', r, s⟩ := hh c cs; ⟨v, w'', h _ _ r, stepsIn_wide.2 s⟩⟩
        | halt x w' => cases x <;> simp only [Oper.upon, Oper.uponIn] at hh ⊢ <;> exact hh.elim
      · exact hf.elim
    · rename_i hw
      rw [if_neg hw] at hh
      exact ⟨fun f _ => trivial, h _ _ hh⟩
theorem wpAnyIn_of_wpAny {l n : Nat} {K0 : Act → World → Prop} {Q : Exit → Act → World → Prop} (hdef : ∀ (j : Nat) (o : Oper) c, ops[j]? = some o → o.op ≠ .defer c) (hK : ∀ a w, K0 a w → Q .normal a w) :
    ∀ (f : Nat) (listed : Array Bool) (a : Act) (w : World), wpAny P md ops (Exit.then K0 noQ) f listed a w → wpAnyIn (Fence.wide.inRound l) n P md ops Q f listed a w
  | 0, listed, a, w, h => ⟨h.1, hK _ _ h.2⟩
  | f + 1, listed, a, w, h => ⟨fun h0 => hK _ _ (h.1 h0), fun i hi => wpOpIn_of_wpOp hdef (fun a' w' h' => wpAnyIn_of_wpAny hdef hK f _ a' w' h') (h.2 i hi)⟩
def noDefer (ops : List Oper) : Bool := ops.all fun o => match o.op with | .defer _ => false | _ => true
theorem noDefer_spec {l : List Oper} (h : noDefer l = true) : ∀ (j : Nat) (o : Oper) c, l.toArray[j]? = some o → o.op ≠ .defer c := fun j o c hj e => by
  have hm : o ∈ l := by rw [List.getElem?_toArray] at hj; exact List.mem_of_getElem? hj
  have := List.all_eq_true.1 h o hm
  simp [e] at this
theorem wpIn_region_plan {id ln n1 : Nat} {Q : Exit → Act → World → Prop} {a : Act} {w : World} {l : List Oper} (S : World → Prop) (n : Nat) (plan : List (Bool × Nat)) (hm : P.follows .mixedOrders = true)
    (hB : planB .any l.toArray n plan = true) (hD : noDefer l = true) (hC : S w.drew)
    (h : Nonempty (Wd S) → wpHead P l.toArray (fun a' w' => wpList P l.toArray (Exit.then (fun a w => Q .normal a w) noQ) (l.drop n) a' w') plan (Cls S) a w.drew) : (Code.region id l.toArray true).wpIn (Fence.wide.inRound ln) n1 P Q a w := by
  simp only [planB, Bool.and_eq_true, decide_eq_true_eq] at hB
  obtain ⟨⟨⟨⟨⟨hsel, hn⟩, hs⟩, hc⟩, hpl⟩, hlex⟩ := hB
  have hdl : (l.drop n).length = l.toArray.size - n := by simp
  have inv0 : HeadInv .any l.toArray n (Array.replicate l.toArray.size false) :=
    ⟨by simp, fun j oj _ hl => (by rw [getD_replicate_false] at hl; cases hl), fun t _ ht => getD_in (by simpa using ht) (getD_replicate_false _ _)⟩
  have H := wpAnyC_plan (md := .any) (g := l.toArray.size - n) hsel hs hc hn plan (Cls S) _ a w.drew ⟨⟨_, hC⟩, rfl⟩ inv0 hlex (h ⟨⟨_, hC⟩⟩)
  refine wpIn_region_any hm ?_
  have := wpAny_of_C (Q' := Exit.then (fun a w => Q .normal a w) noQ) (g := l.toArray.size - n) (fun listed a' w' hL => by
    have := wpAny_of_seq (md := .any) (Q' := Exit.then (fun a w => Q .normal a w) noQ) (l.drop n) n listed a' w' (fun j => by simp [List.getElem?_drop]) (by rw [hdl]; exact hL.1) hL.2
    rwa [hdl] at this) _ _ _ _ _ H
  rw [hpl, show n + (l.toArray.size - n) = l.toArray.size by omega] at this
  exact wpAnyIn_of_wpAny (noDefer_spec hD) (fun _ _ h => h) _ _ _ _ this
end
end Go.Proofs.Ytekpjdfgpggcnaa
