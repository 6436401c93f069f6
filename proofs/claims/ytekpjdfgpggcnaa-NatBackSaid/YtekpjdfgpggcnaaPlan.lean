/- A region whose order is open: if what only reads is taken as soon as it may come, and calls and allocations come one at a time, then one walk serves every order. Condition: a class C of worlds that every loud operation keeps; each quiet operation yields one value in every world of C. -/
import Derived.StillTail
import Derived.StillTailTactics
namespace Go.Proofs.Ytekpjdfgpggcnaa
set_option linter.unusedSimpArgs false
set_option linter.unusedVariables false

structure Wd (S : World → Prop) where
  w : World
  ok : S w

def Cls (S : World → Prop) (w : World) : Prop := ∃ x : Wd S, w = x.w

section
variable {P : Program} {ops : Array Oper} {md : Region.Mode} {C : World → Prop}

def steadyUpon (w : World) (v : Value) : Result Next → Prop
  | .ok (.value u) w' => w' = w ∧ u = v
  | .ok .skip w' => w' = w ∧ v = undef
  | _ => False
def steady (P : Program) (o : Oper) (a : Act) (C : World → Prop) (K : Act → Prop) : Prop :=
  ∃ v, (∀ w, C w → steadyUpon w v ((execOp a.eval o).run P w)) ∧ K (a.put o.dst v)

def YieldsC (P : Program) (ops : Array Oper) (C : World → Prop) (o : Oper) (v : Value) (a : Act) : Prop :=
  (Region.wanted o (yielded ops a.tmps) = true ∧ ∀ w, C w → steadyUpon w v ((execOp a.eval o).run P w)) ∨
  (Region.wanted o (yielded ops a.tmps) = false ∧ v = undef)

theorem YieldsC.of_same {o : Oper} {v : Value} {a a' : Act} (hy : YieldsC P ops C o v a) (he : execOp a'.eval o = execOp a.eval o)
    (hw : Region.wanted o (yielded ops a'.tmps) = Region.wanted o (yielded ops a.tmps)) : YieldsC P ops C o v a' := by
  unfold YieldsC at *
  rw [he, hw]
  exact hy

theorem YieldsC.narrow {C' : World → Prop} {o : Oper} {v : Value} {a : Act} (hy : YieldsC P ops C o v a) (h : ∀ w, C' w → C w) : YieldsC P ops C' o v a := by
  rcases hy with ⟨h1, h2⟩ | h1
  · exact .inl ⟨h1, fun w hw => h2 w (h w hw)⟩
  · exact .inr h1

def noQ : Exit → Act → World → Prop := fun _ _ _ => False

def cOp (P : Program) (ops : Array Oper) (i : Nat) (K : Act → World → Prop) (a : Act) (w : World) : Prop :=
  match ops[i]? with
  | none => False
  | some o => if Region.wanted o (yielded ops a.tmps) then o.wp P a w K noQ else K (a.put o.dst undef) w

theorem oper_wp_imp {o : Oper} {a : Act} {w : World} {K K' : Act → World → Prop} {Q : Exit → Act → World → Prop} (h : ∀ a w, K a w → K' a w)
    (hh : o.wp P a w K noQ) : o.wp P a w K' Q := by
  unfold Oper.wp at *
  generalize (execOp a.eval o).run P w = r at *
  cases r with
  | ok n w' =>
    cases n <;> simp only [Oper.upon] at hh ⊢ <;>
      first
        | exact h _ _ hh
        | exact Calls.mono hh (fun e w'' he => by
            cases e with
            | returned v => exact h _ _ he
            | panicked c => exact he.elim
            | outgrown => obtain ⟨_, _, hf⟩ := he; exact hf.elim)
        | exact Rows.mono hh (fun _ _ he => h _ _ he)
  | halt x w' => cases x <;> simp only [Oper.upon] at hh ⊢ <;> exact hh.elim

theorem cOp_mono {i : Nat} {a : Act} {w : World} {K K' : Act → World → Prop} (h : ∀ a w, K a w → K' a w)
    (hh : cOp P ops i K a w) : cOp P ops i K' a w := by
  unfold cOp at *
  split
  · simp [*] at hh
  · rename_i o ho
    simp only [ho] at hh
    split
    · rename_i hw; simp only [hw, if_true] at hh; exact oper_wp_imp h hh
    · rename_i hw; simp only [hw] at hh; exact h _ _ hh

theorem wpOp_of_cOp {i : Nat} {a : Act} {w : World} {K K' : Act → World → Prop} {Q : Exit → Act → World → Prop} (h : ∀ a w, K a w → K' a w)
    (hh : cOp P ops i K a w) : wpOp P ops Q i K' a w := by
  unfold cOp at hh
  unfold wpOp
  split
  · simp [*] at hh
  · rename_i o ho
    simp only [ho] at hh
    split
    · rename_i hw; simp only [hw, if_true] at hh; exact .inl (oper_wp_imp h hh)
    · rename_i hw; simp only [hw] at hh; exact h _ _ hh

theorem YieldsC.cOp {i : Nat} {o : Oper} {v : Value} {a : Act} {w : World} (hC : C w) (hi : ops[i]? = some o) (hy : YieldsC P ops C o v a) {K : Act → World → Prop}
    (h : K (a.put o.dst v) w) : cOp P ops i K a w := by
  unfold Go.Proofs.Ytekpjdfgpggcnaa.cOp
  simp only [hi]
  rcases hy with ⟨hw, hv⟩ | ⟨hw, rfl⟩
  · simp only [hw, if_true]
    have h1 := hv w hC
    unfold Oper.wp
    generalize (execOp a.eval o).run P w = r at *
    cases r with
    | ok n w' =>
      cases n <;> simp only [steadyUpon] at h1 <;> simp only [Oper.upon]
      case value u => obtain ⟨rfl, rfl⟩ := h1; exact h
      case skip => obtain ⟨rfl, rfl⟩ := h1; exact h
    | halt x w' => simp only [steadyUpon] at h1
  · simp only [hw, Bool.false_eq_true, if_false]; exact h

theorem cOp_put {j : Nat} {oi oj : Oper} {v : Value} (hj : ops[j]? = some oj) (hap : oi.apart ops oj = true)
    (hsi : ∀ cs b, oi.op ≠ .select cs b) (hsj : ∀ cs b, oj.op ≠ .select cs b) {K : Act → World → Prop} {a : Act} {w : World}
    (hy : YieldsC P ops C oi v a) (h : cOp P ops j K (a.put oi.dst v) w) :
    cOp P ops j (fun a' w' => YieldsC P ops C oi v a' ∧ K (a'.put oi.dst v) w') a w := by
  obtain ⟨h1, h2, h3⟩ := Oper.apart_spec hap
  have keep : ∀ (a : Act), YieldsC P ops C oi v a → ∀ u, YieldsC P ops C oi v (a.put oj.dst u) := fun a hy u =>
    hy.of_same (execOp_put oi hsi a oj.dst u h3) (wanted_put oi a oj.dst u h3)
  have keepD : ∀ d, YieldsC P ops C oi v { a with defers := d :: a.defers } := fun d => hy.of_same rfl rfl
  unfold Go.Proofs.Ytekpjdfgpggcnaa.cOp at *
  simp only [hj] at *
  rw [wanted_put oj a oi.dst v h1] at h
  split
  · rename_i hw
    simp only [hw, if_true] at h
    unfold Oper.wp at *
    rw [execOp_put oj hsj a oi.dst v h1] at h
    generalize (execOp a.eval oj).run P w = r at *
    cases r with
    | ok n w' =>
      cases n <;> simp only [Oper.upon] at h ⊢
      case value u => exact ⟨keep a hy u, by rw [← Act.put_comm a v u h2]; exact h⟩
      case skip => exact ⟨keep a hy _, by rw [← Act.put_comm a v undef h2]; exact h⟩
      case defer d =>
        refine ⟨keep _ (keepD d) _, ?_⟩
        rw [← Act.put_comm _ v undef h2, ← Act.put_defers]
        exact h
      case enter f args =>
        refine Calls.mono h fun e w'' he => ?_
        cases e with
        | returned u => exact ⟨keep a hy u, by rw [← Act.put_comm a v u h2]; exact he⟩
        | panicked c => exact he
        | outgrown => exact he
      case row row args => exact Rows.mono h fun u w'' he => ⟨keep a hy u, by rw [← Act.put_comm a v u h2]; exact he⟩
    | halt x w' => cases x <;> simp only [Oper.upon] at h ⊢ <;> exact h
  · rename_i hw
    simp only [hw] at h
    exact ⟨keep a hy _, by rw [← Act.put_comm a v undef h2]; exact h⟩

def wpAnyC (P : Program) (md : Region.Mode) (ops : Array Oper) (n : Nat) (L : Array Bool → Act → World → Prop) : Nat → (World → Prop) → Array Bool → Act → World → Prop
  | 0, _, listed, a, w => L listed a w
  | f + 1, C, listed, a, w =>
    Region.ready md ops listed ≠ [] ∧ ∀ i ∈ Region.ready md ops listed, i < n ∧ cOp P ops i (fun a' w' => ∃ C' : World → Prop, (∀ w, C' w → C w) ∧ C' w' ∧ wpAnyC P md ops n L f C' (listed.setIfInBounds i true) a' w') a w

theorem wpAny_of_C {n g : Nat} {L : Array Bool → Act → World → Prop} {Q' : Exit → Act → World → Prop} (hL : ∀ listed a w, L listed a w → wpAny P md ops Q' g listed a w) :
    ∀ (f : Nat) (C : World → Prop) (listed : Array Bool) (a : Act) (w : World), wpAnyC P md ops n L f C listed a w → wpAny P md ops Q' (f + g) listed a w
  | 0, _, listed, a, w, h => by rw [Nat.zero_add]; exact hL _ _ _ h
  | f + 1, C, listed, a, w, h => by
    rw [show f + 1 + g = (f + g) + 1 by omega]
    exact ⟨fun h0 => absurd h0 h.1, fun i hi => wpOp_of_cOp (fun a' w' h' => by obtain ⟨C', _, _, h'⟩ := h'; exact wpAny_of_C hL f C' _ a' w' h') (h.2 i hi).2⟩

theorem wpAnyC_first {n i : Nat} {oi : Oper} {v : Value} {L : Array Bool → Act → World → Prop} (hi : ops[i]? = some oi) (hsel : ∀ (j : Nat) (o : Oper) cs b, ops[j]? = some o → o.op ≠ .select cs b)
    (hs : Region.sinkB md ops n = true) (hc : Region.chainB md ops n = true) (hn : n < ops.size) (hin : i < n)
    (hdone : ∀ listed a w, L listed a w → ∀ j ∈ Region.ready md ops listed, n ≤ j) :
    ∀ (f : Nat) (C : World → Prop) (listed : Array Bool) (a : Act) (w : World), HeadInv md ops n listed → C w →
      (∀ j oj, ops[j]? = some oj → j ≠ i → listed.getD j true = false → (∀ e ∈ oj.after, Region.binds md e = true → e.on ≠ i) → oi.apart ops oj = true) →
      i ∈ Region.ready md ops listed → YieldsC P ops C oi v a →
      wpAnyC P md ops n L f C (listed.setIfInBounds i true) (a.put oi.dst v) w → wpAnyC P md ops n L (f + 1) C listed a w := by
  intro f
  induction f with
  | zero =>
    intro C listed a w inv hC _ hr hy H
    have hun := (mem_ready.1 hr).1
    refine ⟨fun h => (by rw [h] at hr; cases hr), fun j hj => ?_⟩
    have hjn : j < n := by
      rcases Nat.lt_or_ge j n with h | h
      · exact h
      · exact absurd hj (tail_waits hs hc hn inv _ i rfl hin hun j h)
    refine ⟨hjn, ?_⟩
    by_cases hji : j = i
    · subst hji; exact hy.cOp hC hi ⟨C, fun _ h => h, hC, H⟩
    · have := hdone _ _ _ H j (ready_mono hj hji)
      omega
  | succ f ih =>
    intro C listed a w inv hC hfree hr hy H
    have hun := (mem_ready.1 hr).1
    refine ⟨fun h => (by rw [h] at hr; cases hr), fun j hj => ?_⟩
    have hjn : j < n := by
      rcases Nat.lt_or_ge j n with h | h
      · exact h
      · exact absurd hj (tail_waits hs hc hn inv _ i rfl hin hun j h)
    refine ⟨hjn, ?_⟩
    by_cases hji : j = i
    · subst hji; exact hy.cOp hC hi ⟨C, fun _ h => h, hC, H⟩
    · have h1 := (H.2 j (ready_mono hj hji)).2
      obtain ⟨hjun, oj, hoj, hall⟩ := mem_ready.1 hj
      have hnot : ∀ e ∈ oj.after, Region.binds md e = true → e.on ≠ i := fun e he hb heq => by
        have h1 := hall e he hb
        rw [heq, getD_both hun] at h1
        cases h1
      have h2 := cOp_put hoj (hfree j oj hoj hji hjun hnot) (fun cs b => hsel i oi cs b hi) (fun cs b => hsel j oj cs b hoj) hy h1
      have hfree' : ∀ k ok, ops[k]? = some ok → k ≠ i → (listed.setIfInBounds j true).getD k true = false →
          (∀ e ∈ ok.after, Region.binds md e = true → e.on ≠ i) → oi.apart ops ok = true := fun k ok hk hki hun hno => by
        refine hfree k ok hk hki ?_ hno
        by_cases hjk : j = k
        · subst hjk; exact hjun
        · rw [getD_set_ne true hjk] at hun; exact hun
      refine cOp_mono (fun a' w' h3 => ?_) h2
      obtain ⟨hy3, C', hsub, hC', h4⟩ := h3
      refine ⟨C', hsub, hC', ih C' (listed.setIfInBounds j true) a' w' (inv.set hj hjn) hC' hfree' (ready_mono hr (Ne.symm hji)) (hy3.narrow hsub) ?_⟩
      rw [Array.setIfInBounds_comm _ _ hji]
      exact h4

def headB (md : Region.Mode) (ops : Array Oper) (n g : Nat) : List (Bool × Nat) → Array Bool → Bool
  | [], listed => Region.seqB md ops g n listed
  | (false, i) :: r, listed => decide (i < n) && (Region.ready md ops listed).contains i && Region.free md ops listed i && headB md ops n g r (listed.setIfInBounds i true)
  | (true, i) :: r, listed => decide (i < n) && decide (Region.ready md ops listed = [i]) && headB md ops n g r (listed.setIfInBounds i true)

def planB (md : Region.Mode) (ops : Array Oper) (n : Nat) (plan : List (Bool × Nat)) : Bool :=
  Region.noSelect ops && decide (n < ops.size) && Region.sinkB md ops n && Region.chainB md ops n && decide (plan.length = n) && headB md ops n (ops.size - n) plan (Array.replicate ops.size false)

def wpHead (P : Program) (ops : Array Oper) (L : Act → World → Prop) : List (Bool × Nat) → (World → Prop) → Act → World → Prop
  | [], _, a, w => L a w
  | (false, i) :: r, C, a, w =>
    match ops[i]? with
    | none => False
    | some o => if Region.wanted o (yielded ops a.tmps) then steady P o a C (fun a' => wpHead P ops L r C a' w) else wpHead P ops L r C (a.put o.dst undef) w
  | (true, i) :: r, C, a, w => cOp P ops i (fun a' w' => ∃ C' : World → Prop, (∀ w, C' w → C w) ∧ C' w' ∧ wpHead P ops L r C' a' w') a w

theorem wpAnyC_plan {n g : Nat} {Lq : Act → World → Prop} (hsel : Region.noSelect ops = true) (hs : Region.sinkB md ops n = true) (hc : Region.chainB md ops n = true) (hn : n < ops.size) :
    ∀ (plan : List (Bool × Nat)) (C : World → Prop) (listed : Array Bool) (a : Act) (w : World), C w → HeadInv md ops n listed →
    headB md ops n g plan listed = true → wpHead P ops Lq plan C a w →
    wpAnyC P md ops n (fun listed' a' w' => Region.seqB md ops g n listed' = true ∧ Lq a' w') plan.length C listed a w
  | [], C, listed, a, w, _, _, hB, h => ⟨by simpa [headB] using hB, h⟩
  | (false, i) :: r, C, listed, a, w, hC, inv, hB, h => by
    simp only [headB, Bool.and_eq_true, decide_eq_true_eq] at hB
    obtain ⟨⟨⟨hin, hr⟩, hf⟩, hB'⟩ := hB
    have hr' : i ∈ Region.ready md ops listed := by simpa using hr
    unfold wpHead at h
    split at h
    · exact h.elim
    · rename_i o ho
      have key : ∃ v, YieldsC P ops C o v a ∧ wpHead P ops Lq r C (a.put o.dst v) w := by
        by_cases hw : Region.wanted o (yielded ops a.tmps) = true
        · simp only [hw, if_true] at h
          obtain ⟨v, h1, h2⟩ := h
          exact ⟨v, .inl ⟨hw, h1⟩, h2⟩
        · simp only [hw] at h
          exact ⟨undef, .inr ⟨by simpa using hw, rfl⟩, h⟩
      obtain ⟨v, hy, hK⟩ := key
      exact wpAnyC_first ho (Region.noSelect_spec hsel) hs hc hn hin (fun listed' a' w' hL => seqB_ready hL.1) r.length C listed a w inv hC (Region.free_spec ho hf) hr' hy
        (wpAnyC_plan hsel hs hc hn r C _ _ w hC (inv.set hr' hin) hB' hK)
  | (true, i) :: r, C, listed, a, w, hC, inv, hB, h => by
    simp only [headB, Bool.and_eq_true, decide_eq_true_eq] at hB
    obtain ⟨⟨hin, hr⟩, hB'⟩ := hB
    have hr' : i ∈ Region.ready md ops listed := by rw [hr]; simp
    refine ⟨by rw [hr]; simp, fun j hj => ?_⟩
    have hji : j = i := by rw [hr] at hj; simpa using hj
    subst hji
    exact ⟨hin, cOp_mono (fun a' w' h' => by
      obtain ⟨C', hsub, hC', h'⟩ := h'
      exact ⟨C', hsub, hC', wpAnyC_plan hsel hs hc hn r C' _ a' w' hC' (inv.set hr' hin) hB' h'⟩) h⟩

theorem wp_region_plan {id : Nat} {Q : Exit → Act → World → Prop} {a : Act} {w : World} {l : List Oper} (S : World → Prop) (n : Nat) (plan : List (Bool × Nat)) (hm : P.follows .mixedOrders = true)
    (hB : planB .any l.toArray n plan = true) (hC : S w.drew)
    (h : Nonempty (Wd S) → wpHead P l.toArray (fun a' w' => wpList P l.toArray Q (l.drop n) a' w') plan (Cls S) a w.drew) : (Code.region id l.toArray true).wp P Q a w := by
  simp only [planB, Bool.and_eq_true, decide_eq_true_eq] at hB
  obtain ⟨⟨⟨⟨⟨hsel, hn⟩, hs⟩, hc⟩, hpl⟩, hlex⟩ := hB
  have hdl : (l.drop n).length = l.toArray.size - n := by simp
  have inv0 : HeadInv .any l.toArray n (Array.replicate l.toArray.size false) :=
    ⟨by simp, fun j oj _ hl => (by rw [getD_replicate_false] at hl; cases hl), fun t _ ht => getD_in (by simpa using ht) (getD_replicate_false _ _)⟩
  have H := wpAnyC_plan (md := .any) (g := l.toArray.size - n) hsel hs hc hn plan (Cls S) _ a w.drew ⟨⟨_, hC⟩, rfl⟩ inv0 hlex (h ⟨⟨_, hC⟩⟩)
  refine wp_region_any hm ?_
  have := wpAny_of_C (Q' := Q) (g := l.toArray.size - n) (fun listed a' w' hL => by
    have := wpAny_of_seq (md := .any) (Q' := Q) (l.drop n) n listed a' w' (fun j => by simp [List.getElem?_drop]) (by rw [hdl]; exact hL.1) hL.2
    rwa [hdl] at this) _ _ _ _ _ H
  rw [hpl, show n + (l.toArray.size - n) = l.toArray.size by omega] at this
  exact this

/-! steps of the walk -/
theorem head_nil {C : World → Prop} {L : Act → World → Prop} {a : Act} {w : World} (h : L a w) : wpHead P ops L [] C a w := h
theorem head_q {C : World → Prop} {L : Act → World → Prop} {i : Nat} {r : List (Bool × Nat)} {o : Oper} {a : Act} {w : World} (ho : ops[i]? = some o)
    (h : ∀ K : Act → Prop, (∀ a, wpHead P ops L r C a w → K a) → if Region.wanted o (yielded ops a.tmps) then steady P o a C K else K (a.put o.dst undef)) :
    wpHead P ops L ((false, i) :: r) C a w := by
  unfold wpHead
  simp only [ho]
  exact h _ (fun _ h => h)
theorem head_l {C : World → Prop} {L : Act → World → Prop} {i : Nat} {r : List (Bool × Nat)} {o : Oper} {a : Act} {w : World} (ho : ops[i]? = some o)
    (h : wpList P ops (Exit.then (fun a' w' => ∃ C' : World → Prop, (∀ w, C' w → C w) ∧ C' w' ∧ wpHead P ops L r C' a' w') noQ) [o] a w) :
    wpHead P ops L ((true, i) :: r) C a w := by
  unfold wpHead cOp
  simp only [ho]
  unfold wpList at h
  split
  · rename_i hw
    rw [if_pos hw] at h
    rcases h with h | ⟨_, _, _, hf⟩
    · exact oper_wp_imp (fun a w hk => hk) (by
        unfold Oper.wp at *
        generalize (execOp a.eval o).run P w = r at *
        cases r with
        | ok n w' =>
          cases n <;> simp only [Oper.upon] at h ⊢ <;>
            first
              | exact h
              | exact Calls.mono h (fun e w'' he => by
                  cases e with
                  | returned v => exact he
                  | panicked c => exact he
                  | outgrown => obtain ⟨_, _, hf⟩ := he; exact hf.elim)
              | exact Rows.mono h (fun _ _ he => he)
        | halt x w' => cases x <;> simp only [Oper.upon] at h ⊢ <;> exact h)
    · exact hf.elim
  · rename_i hw
    rw [if_neg hw] at h
    exact h
end
end Go.Proofs.Ytekpjdfgpggcnaa
