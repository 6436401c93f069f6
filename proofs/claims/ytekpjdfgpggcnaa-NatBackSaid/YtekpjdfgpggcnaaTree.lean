/- A region whose order is open, by a tree: as by a plan, and where two loud operations may come, the walk goes both ways. -/
import Derived.Test.YtekpjdfgpggcnaaMem
namespace Go.Proofs.Ytekpjdfgpggcnaa
set_option linter.unusedSimpArgs false
set_option linter.unusedVariables false

inductive Tr where
  | done : Tr
  | q : Nat → Tr → Tr
  | l : Nat → Tr → Tr
  | two : Nat → Nat → Tr → Tr → Tr

section
variable {P : Program} {ops : Array Oper} {md : Region.Mode} {C : World → Prop}

def treeB (md : Region.Mode) (ops : Array Oper) (n g : Nat) : Nat → Tr → Array Bool → Bool
  | 0, .done, listed => Region.seqB md ops g n listed
  | f + 1, .q i r, listed => decide (i < n) && (Region.ready md ops listed).contains i && Region.free md ops listed i && treeB md ops n g f r (listed.setIfInBounds i true)
  | f + 1, .l i r, listed => decide (i < n) && decide (Region.ready md ops listed = [i]) && treeB md ops n g f r (listed.setIfInBounds i true)
  | f + 1, .two i j r s, listed => decide (i < n) && decide (j < n) && decide (Region.ready md ops listed = [i, j]) && treeB md ops n g f r (listed.setIfInBounds i true) && treeB md ops n g f s (listed.setIfInBounds j true)
  | _, _, _ => false

def wpTree (P : Program) (ops : Array Oper) (L : Act → World → Prop) : Tr → (World → Prop) → Act → World → Prop
  | .done, _, a, w => L a w
  | .q i r, C, a, w =>
    match ops[i]? with
    | none => False
    | some o => if Region.wanted o (yielded ops a.tmps) then steady P o a C (fun a' => wpTree P ops L r C a' w) else wpTree P ops L r C (a.put o.dst undef) w
  | .l i r, C, a, w => cOp P ops i (fun a' w' => ∃ C' : World → Prop, (∀ w, C' w → C w) ∧ C' w' ∧ wpTree P ops L r C' a' w') a w
  | .two i j r s, C, a, w => cOp P ops i (fun a' w' => ∃ C' : World → Prop, (∀ w, C' w → C w) ∧ C' w' ∧ wpTree P ops L r C' a' w') a w ∧
      cOp P ops j (fun a' w' => ∃ C' : World → Prop, (∀ w, C' w → C w) ∧ C' w' ∧ wpTree P ops L s C' a' w') a w

theorem wpAnyC_tree {n g : Nat} {Lq : Act → World → Prop} (hsel : Region.noSelect ops = true) (hs : Region.sinkB md ops n = true) (hc : Region.chainB md ops n = true) (hn : n < ops.size) :
    ∀ (f : Nat) (t : Tr) (C : World → Prop) (listed : Array Bool) (a : Act) (w : World), C w → HeadInv md ops n listed →
    treeB md ops n g f t listed = true → wpTree P ops Lq t C a w →
    wpAnyC P md ops n (fun listed' a' w' => Region.seqB md ops g n listed' = true ∧ Lq a' w') f C listed a w
  | 0, .done, C, listed, a, w, _, _, hB, h => ⟨by simpa [treeB] using hB, h⟩
  | f + 1, .q i r, C, listed, a, w, hC, inv, hB, h => by
    simp only [treeB, Bool.and_eq_true, decide_eq_true_eq] at hB
    obtain ⟨⟨⟨hin, hr⟩, hf⟩, hB'⟩ := hB
    have hr' : i ∈ Region.ready md ops listed := by simpa using hr
    unfold wpTree at h
    split at h
    · exact h.elim
    · rename_i o ho
      have key : ∃ v, YieldsC P ops C o v a ∧ wpTree P ops Lq r C (a.put o.dst v) w := by
        by_cases hw : Region.wanted o (yielded ops a.tmps) = true
        · simp only [hw, if_true] at h
          obtain ⟨v, h1, h2⟩ := h
          exact ⟨v, .inl ⟨hw, h1⟩, h2⟩
        · simp only [hw] at h
          exact ⟨undef, .inr ⟨by simpa using hw, rfl⟩, h⟩
      obtain ⟨v, hy, hK⟩ := key
      exact wpAnyC_first ho (Region.noSelect_spec hsel) hs hc hn hin (fun listed' a' w' hL => seqB_ready hL.1) f C listed a w inv hC (Region.free_spec ho hf) hr' hy
        (wpAnyC_tree hsel hs hc hn f r C _ _ w hC (inv.set hr' hin) hB' hK)
  | f + 1, .l i r, C, listed, a, w, hC, inv, hB, h => by
    simp only [treeB, Bool.and_eq_true, decide_eq_true_eq] at hB
    obtain ⟨⟨hin, hr⟩, hB'⟩ := hB
    have hr' : i ∈ Region.ready md ops listed := by rw [hr]; simp
    refine ⟨by rw [hr]; simp, fun j hj => ?_⟩
    have hji : j = i := by rw [hr] at hj; simpa using hj
    subst hji
    exact ⟨hin, cOp_mono (fun a' w' h' => by
      obtain ⟨C', hsub, hC', h'⟩ := h'
      exact ⟨C', hsub, hC', wpAnyC_tree hsel hs hc hn f r C' _ a' w' hC' (inv.set hr' hin) hB' h'⟩) h⟩
  | f + 1, .two i j r s, C, listed, a, w, hC, inv, hB, h => by
    simp only [treeB, Bool.and_eq_true, decide_eq_true_eq] at hB
    obtain ⟨⟨⟨⟨hin, hjn⟩, hr⟩, hB1⟩, hB2⟩ := hB
    have hri : i ∈ Region.ready md ops listed := by rw [hr]; simp
    have hrj : j ∈ Region.ready md ops listed := by rw [hr]; simp
    refine ⟨by rw [hr]; simp, fun k hk => ?_⟩
    have hk2 : k = i ∨ k = j := by rw [hr] at hk; simpa using hk
    rcases hk2 with rfl | rfl
    · exact ⟨hin, cOp_mono (fun a' w' h' => by
        obtain ⟨C', hsub, hC', h'⟩ := h'
        exact ⟨C', hsub, hC', wpAnyC_tree hsel hs hc hn f r C' _ a' w' hC' (inv.set hri hin) hB1 h'⟩) h.1⟩
    · exact ⟨hjn, cOp_mono (fun a' w' h' => by
        obtain ⟨C', hsub, hC', h'⟩ := h'
        exact ⟨C', hsub, hC', wpAnyC_tree hsel hs hc hn f s C' _ a' w' hC' (inv.set hrj hjn) hB2 h'⟩) h.2⟩
  | 0, .q _ _, _, _, _, _, _, _, hB, _ => by simp [treeB] at hB
  | 0, .l _ _, _, _, _, _, _, _, hB, _ => by simp [treeB] at hB
  | 0, .two _ _ _ _, _, _, _, _, _, _, hB, _ => by simp [treeB] at hB
  | _ + 1, .done, _, _, _, _, _, _, hB, _ => by simp [treeB] at hB

def treeOk (md : Region.Mode) (ops : Array Oper) (n : Nat) (t : Tr) : Bool :=
  Region.noSelect ops && decide (n < ops.size) && Region.sinkB md ops n && Region.chainB md ops n && treeB md ops n (ops.size - n) n t (Array.replicate ops.size false)

theorem wp_region_tree {id : Nat} {Q : Exit → Act → World → Prop} {a : Act} {w : World} {l : List Oper} (S : World → Prop) (n : Nat) (t : Tr) (hm : P.follows .mixedOrders = true)
    (hB : treeOk .any l.toArray n t = true) (hC : S w.drew)
    (h : Nonempty (Wd S) → wpTree P l.toArray (fun a' w' => wpList P l.toArray Q (l.drop n) a' w') t (Cls S) a w.drew) : (Code.region id l.toArray true).wp P Q a w := by
  simp only [treeOk, Bool.and_eq_true, decide_eq_true_eq] at hB
  obtain ⟨⟨⟨⟨hsel, hn⟩, hs⟩, hc⟩, hlex⟩ := hB
  have hdl : (l.drop n).length = l.toArray.size - n := by simp
  have inv0 : HeadInv .any l.toArray n (Array.replicate l.toArray.size false) :=
    ⟨by simp, fun j oj _ hl => (by rw [getD_replicate_false] at hl; cases hl), fun t _ ht => getD_in (by simpa using ht) (getD_replicate_false _ _)⟩
  have H := wpAnyC_tree (md := .any) (g := l.toArray.size - n) hsel hs hc hn n t (Cls S) _ a w.drew ⟨⟨_, hC⟩, rfl⟩ inv0 hlex (h ⟨⟨_, hC⟩⟩)
  refine wp_region_any hm ?_
  have := wpAny_of_C (Q' := Q) (g := l.toArray.size - n) (fun listed a' w' hL => by
    have := wpAny_of_seq (md := .any) (Q' := Q) (l.drop n) n listed a' w' (fun j => by simp [List.getElem?_drop]) (by rw [hdl]; exact hL.1) hL.2
    rwa [hdl] at this) _ _ _ _ _ H
  rw [show n + (l.toArray.size - n) = l.toArray.size by omega] at this
  exact this

theorem tree_done {C : World → Prop} {L : Act → World → Prop} {a : Act} {w : World} (h : L a w) : wpTree P ops L .done C a w := h
theorem tree_q {C : World → Prop} {L : Act → World → Prop} {i : Nat} {r : Tr} {o : Oper} {a : Act} {w : World} (ho : ops[i]? = some o)
    (h : ∀ K : Act → Prop, (∀ a, wpTree P ops L r C a w → K a) → if Region.wanted o (yielded ops a.tmps) then steady P o a C K else K (a.put o.dst undef)) :
    wpTree P ops L (.q i r) C a w := by
  unfold wpTree
  simp only [ho]
  exact h _ (fun _ h => h)
theorem cOp_of_list {i : Nat} {o : Oper} {a : Act} {w : World} {K : Act → World → Prop} (ho : ops[i]? = some o) (h : wpList P ops (Exit.then K noQ) [o] a w) : cOp P ops i K a w := by
  unfold cOp
  simp only [ho]
  unfold wpList at h
  split
  · rename_i hw
    rw [if_pos hw] at h
    rcases h with h | ⟨_, _, _, hf⟩
    · exact oper_wp_imp (fun a w hk => hk) (by
        unfold Oper.wp at *
        generalize (execOp a.eval o).run P w = r at *
        cases r with
        | ok n w' =>
          cases n <;> simp only [Oper.upon] at h ⊢ <;>
            first
              | exact h
              | exact Calls.mono h (fun e w'' he => by
                  cases e with
                  | returned v => exact he
                  | panicked c => exact he
                  | outgrown => obtain ⟨_, _, hf⟩ := he; exact hf.elim)
              | exact Rows.mono h (fun _ _ he => he)
        | halt x w' => cases x <;> simp only [Oper.upon] at h ⊢ <;> exact h)
    · exact hf.elim
  · rename_i hw
    rw [if_neg hw] at h
    exact h
theorem tree_l {C : World → Prop} {L : Act → World → Prop} {i : Nat} {r : Tr} {o : Oper} {a : Act} {w : World} (ho : ops[i]? = some o)
    (h : wpList P ops (Exit.then (fun a' w' => ∃ C' : World → Prop, (∀ w, C' w → C w) ∧ C' w' ∧ wpTree P ops L r C' a' w') noQ) [o] a w) :
    wpTree P ops L (.l i r) C a w := cOp_of_list ho h
theorem tree_two {C : World → Prop} {L : Act → World → Prop} {i j : Nat} {r s : Tr} {o o' : Oper} {a : Act} {w : World} (ho : ops[i]? = some o) (ho' : ops[j]? = some o')
    (h : wpList P ops (Exit.then (fun a' w' => ∃ C' : World → Prop, (∀ w, C' w → C w) ∧ C' w' ∧ wpTree P ops L r C' a' w') noQ) [o] a w)
    (h' : wpList P ops (Exit.then (fun a' w' => ∃ C' : World → Prop, (∀ w, C' w → C w) ∧ C' w' ∧ wpTree P ops L s C' a' w') noQ) [o'] a w) :
    wpTree P ops L (.two i j r s) C a w := ⟨cOp_of_list ho h, cOp_of_list ho' h'⟩
/-- A guarded operation that is wanted, its guard struck. -/
theorem tree_lw {C : World → Prop} {L : Act → World → Prop} {i : Nat} {r : Tr} {o : Oper} {a : Act} {w : World} (ho : ops[i]? = some o) (hw : Region.wanted o (yielded ops a.tmps) = true)
    (h : wpList P ops (Exit.then (fun a' w' => ∃ C' : World → Prop, (∀ w, C' w → C w) ∧ C' w' ∧ wpTree P ops L r C' a' w') noQ) [⟨o.dst, o.op, o.type, o.pos, o.after, none⟩] a w) :
    wpTree P ops L (.l i r) C a w := by
  refine tree_l ho ?_
  unfold wpList at h ⊢
  rw [if_pos hw]
  exact h
/-- A quiet load of a whole array. -/
theorem tree_load_ext {w0 w : World} {L : Act → World → Prop} {i : Nat} {r : Tr} {o : Oper} {a : Act} (ho : ops[i]? = some o) (hgd : o.guard = none) {ty : TypeId} {x : Operand} (hop : o.op = .load ty x)
    {g : Nat} (hx : a.eval x = .pointer (some ⟨g, 0, none⟩)) {v : Value} (hl : ∀ y : Wd (Ext w0), (loadVar ty ⟨g, 0, none⟩).run P y.w = .ok v y.w)
    (h : ∀ K : Act → Prop, (∀ a, wpTree P ops L r (Cls (Ext w0)) a w → K a) → K (a.put o.dst v)) : wpTree P ops L (.q i r) (Cls (Ext w0)) a w := by
  refine tree_q ho fun K hK => ?_
  have hw : Region.wanted o (yielded ops a.tmps) = true := by unfold Region.wanted; rw [hgd]
  rw [if_pos hw]
  refine ⟨_, ?_, h K hK⟩
  rintro _ ⟨y, rfl⟩
  simp only [execOp, hop, hx, Instr.loadAt, Instr.sureAddr, Sem.run_bind, Sem.run_pure, Result.andThen_ok, hl y]
  exact ⟨rfl, rfl⟩
end
end Go.Proofs.Ytekpjdfgpggcnaa
