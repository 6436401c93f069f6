/- A region whose order is open, by facts: each operation is walked once, from what the operations that it waits for have left; what an operation has made in memory is its own. -/
import Derived.Test.YtekpjdfgpggcnaaTree
namespace Go.Proofs.Ytekpjdfgpggcnaa
set_option linter.unusedSimpArgs false
set_option linter.unusedVariables false

section frames
def updf {β : Type} (u : Nat → β) (i : Nat) (v : β) : Nat → β := fun j => if j = i then v else u j
theorem updf_same {β : Type} (u : Nat → β) (i : Nat) (v : β) : updf u i v i = v := if_pos rfl
theorem updf_ne {β : Type} (u : Nat → β) {i j : Nat} (v : β) (h : j ≠ i) : updf u i v j = u j := if_neg h
def dstOf (ops : Array Oper) (i : Nat) : Option Tmp := (ops[i]?).bind Oper.dst
/-- The frame in which the first k operations have yielded u. -/
def fr (ops : Array Oper) (a0 : Act) (u : Nat → Value) : Nat → Act
  | 0 => a0
  | k + 1 => (fr ops a0 u k).put (dstOf ops k) (u k)
variable {ops : Array Oper} {a0 : Act} {u u' : Nat → Value}
theorem fr_congr {k : Nat} (h : ∀ i, i < k → u i = u' i) : fr ops a0 u k = fr ops a0 u' k := by
  induction k with
  | zero => rfl
  | succ k ih => simp only [fr]; rw [ih (fun i hi => h i (by omega)), h k (by omega)]
theorem put_put (a : Act) (d : Option Tmp) (v v' : Value) : (a.put d v).put d v' = a.put d v' := by
  cases d with
  | none => rfl
  | some d =>
    unfold Act.put
    simp
theorem put_comm' (a : Act) {d d' : Option Tmp} (h : ∀ x, d = some x → d' ≠ some x) (v v' : Value) : (a.put d v).put d' v' = (a.put d' v').put d v := by
  cases d with
  | none => rfl
  | some d =>
    cases d' with
    | none => rfl
    | some d' =>
      have hne : d ≠ d' := fun e => h d rfl (by rw [e])
      unfold Act.put
      simp only
      rw [Array.setIfInBounds_comm _ _ hne]
theorem fr_put {n i : Nat} (hd : ∀ i j, i < n → j < n → i ≠ j → ∀ x, dstOf ops i = some x → dstOf ops j ≠ some x) (hi : i < n) (v : Value) : (fr ops a0 u n).put (dstOf ops i) v = fr ops a0 (updf u i v) n := by
  have key : ∀ k, i < k → k ≤ n → (fr ops a0 u k).put (dstOf ops i) v = fr ops a0 (updf u i v) k := by
    intro k
    induction k with
    | zero => intro h; omega
    | succ k ih =>
      intro hik hkn
      by_cases h : i = k
      · subst h
        simp only [fr]
        rw [put_put, updf_same, fr_congr (u' := updf u i v) (fun j hj => (updf_ne u v (by omega)).symm)]
      · simp only [fr]
        rw [put_comm' _ (hd k i (by omega) hi (Ne.symm h)), ih (by omega) (by omega), updf_ne u v (Ne.symm h)]
  exact key n hi (Nat.le_refl _)
theorem fr_self (n : Nat) : ∃ u, fr ops a0 u n = a0 := by
  induction n with
  | zero => exact ⟨fun _ => undef, rfl⟩
  | succ n ih =>
    obtain ⟨u, hu⟩ := ih
    refine ⟨updf u n (match dstOf ops n with | some d => a0.tmps.getD d undef | none => undef), ?_⟩
    simp only [fr]
    rw [fr_congr (u' := u) (fun i hi => updf_ne u _ (by omega)), hu, updf_same]
    cases dstOf ops n with
    | none => rfl
    | some d =>
      unfold Act.put
      simp only
      congr 1
      apply Array.ext
      · simp
      · intro i h1 h2
        by_cases hdi : d = i
        · subst hdi; simp [h2]
        · rw [Array.getElem_setIfInBounds_ne (by simpa using h2) hdi]
end frames

section count
def cnt (listed : Array Bool) : Nat → Nat
  | 0 => 0
  | k + 1 => cnt listed k + if listed.getD k true = true then 0 else 1
theorem cnt_zero {listed : Array Bool} : ∀ {k : Nat}, cnt listed k = 0 → ∀ i, i < k → listed.getD i true = true
  | k + 1, h, i, hi => by
    unfold cnt at h
    by_cases hk : listed.getD k true = true
    · rw [if_pos hk] at h
      by_cases hik : i = k
      · subst hik; exact hk
      · exact cnt_zero (by omega) i (by omega)
    · rw [if_neg hk] at h; omega
theorem cnt_pos {listed : Array Bool} : ∀ {k : Nat}, 0 < cnt listed k → ∃ i, i < k ∧ listed.getD i true = false ∧ ∀ j, j < i → listed.getD j true = true
  | k + 1, h => by
    by_cases h0 : cnt listed k = 0
    · have hk : ¬ listed.getD k true = true := fun e => by
        unfold cnt at h
        rw [if_pos e] at h
        omega
      exact ⟨k, by omega, by simpa using hk, cnt_zero h0⟩
    · obtain ⟨i, h1, h2⟩ := cnt_pos (listed := listed) (k := k) (by omega)
      exact ⟨i, by omega, h2⟩
theorem getD_set_self {listed : Array Bool} {i : Nat} (d : Bool) (h : i < listed.size) : (listed.setIfInBounds i true).getD i d = true := by
  simp [h]
theorem cnt_set_out {listed : Array Bool} {i : Nat} : ∀ {k : Nat}, k ≤ i → cnt (listed.setIfInBounds i true) k = cnt listed k
  | 0, _ => rfl
  | k + 1, h => by
    simp only [cnt]
    rw [cnt_set_out (by omega), getD_set_ne true (by omega)]
theorem cnt_set {listed : Array Bool} {i : Nat} (hs : i < listed.size) (hu : listed.getD i true = false) : ∀ {k : Nat}, i < k → cnt (listed.setIfInBounds i true) k + 1 = cnt listed k
  | k + 1, h => by
    simp only [cnt]
    by_cases hik : i = k
    · subst hik
      rw [cnt_set_out (Nat.le_refl _), getD_set_self true hs, hu]
      simp
    · have := cnt_set hs hu (k := k) (by omega)
      rw [getD_set_ne true hik]
      omega
theorem cnt_new (m k : Nat) (h : k ≤ m) : cnt (Array.replicate m false) k = k := by
  induction k with
  | zero => rfl
  | succ k ih =>
    simp only [cnt]
    rw [ih (by omega)]
    have : (Array.replicate m false).getD k true = false := by simp [show k < m by omega]
    rw [this]
    simp
end count

abbrev Fact := Value → World → (Nat → Prop) → Prop
def waitsOn (ops : Array Oper) (i d : Nat) : Bool := Region.waitsFor .any ops i d
def doneA (n m : Nat) : Array Bool := (Array.replicate n true) ++ (Array.replicate (m - n) false)

theorem doneA_at {n m i : Nat} (h : i < n) : (doneA n m).getD i true = true := by
  simp [doneA, Array.getElem?_append, h]
def ordB (ops : Array Oper) (n : Nat) : Bool := (List.range n).all fun i => match ops[i]? with
  | some o => o.after.all fun e => !Region.binds .any e || decide (e.on < i)
  | none => false
def dstB (ops : Array Oper) (n : Nat) : Bool := (List.range n).all fun i => (List.range n).all fun j => decide (i = j) || (match dstOf ops i with | some x => decide (dstOf ops j ≠ some x) | none => true)
def consB (ops : Array Oper) (n : Nat) (cons : List (Nat × Nat)) : Bool := cons.all fun p => decide (p.1 ≠ p.2) && (List.range n).all fun i => decide (i = p.1) || !waitsOn ops i p.2
def freeB (ops : Array Oper) (n : Nat) (cons : List (Nat × Nat)) : Bool :=
  Region.noSelect ops && decide (n < ops.size) && Region.sinkB .any ops n && Region.chainB .any ops n && ordB ops n && dstB ops n && consB ops n cons && Region.seqB .any ops (ops.size - n) n (doneA n ops.size)

/-- What is known behind some operations: of each its fact, if no other has consumed it; what each has made. -/
def Known (w0 : World) (n : Nat) (J : Nat → Fact) (cons : List (Nat × Nat)) (listed : Array Bool) (u : Nat → Value) (w : World) : Prop :=
  Ext w0 w ∧ ∃ S : Nat → Nat → Prop,
    (∀ i, i < n → listed.getD i true = true → (∃ c, (c, i) ∈ cons ∧ c < n ∧ listed.getD c true = true) ∨ J i (u i) w (S i)) ∧
    (∀ i b, S i b → w0.heap.size ≤ b ∧ b < w.heap.size) ∧ (∀ i j b, S i b → S j b → i = j)

/-- An operation is walked. -/
def OpOk (P : Program) (ops : Array Oper) (a0 : Act) (w0 : World) (n : Nat) (J : Nat → Fact) (cons : List (Nat × Nat)) (i : Nat) : Prop :=
  ∀ (u : Nat → Value) (w : World) (S : Nat → Nat → Prop) (o : Oper), ops[i]? = some o → Ext w0 w → (∀ i b, S i b → w0.heap.size ≤ b ∧ b < w.heap.size) → (∀ i j b, S i b → S j b → i = j) →
    (∀ d, d < n → waitsOn ops i d = true → J d (u d) w (S d)) →
    wpList P ops (Exit.then (fun a' w' => ∃ v, a' = (fr ops a0 u n).put o.dst v ∧ Upd (fun b => ∃ d, (i, d) ∈ cons ∧ S d b) w w' ∧ J i v w' (fun b => (w.heap.size ≤ b ∧ b < w'.heap.size) ∨ ∃ d, (i, d) ∈ cons ∧ S d b)) noQ) [o] (fr ops a0 u n) w

/-- A fact hangs on the old blocks and on its own. -/
def Local (w0 : World) (J : Fact) : Prop := ∀ v w w' S, J v w S → Upd (fun b => w0.heap.size ≤ b ∧ ¬ S b) w w' → J v w' S

section law
variable {P : Program} {ops : Array Oper} {a0 : Act} {w0 : World} {n : Nat} {J : Nat → Fact} {cons : List (Nat × Nat)}

theorem known_step {listed : Array Bool} {u : Nat → Value} {w w' : World} {i : Nat} {v : Value} {S : Nat → Nat → Prop} (hloc : ∀ i, i < n → Local w0 (J i)) (hin : i < n) (hsz : i < listed.size)
    (hE : Ext w0 w) (hJ : ∀ i, i < n → listed.getD i true = true → (∃ c, (c, i) ∈ cons ∧ c < n ∧ listed.getD c true = true) ∨ J i (u i) w (S i))
    (hr : ∀ i b, S i b → w0.heap.size ≤ b ∧ b < w.heap.size) (hd : ∀ i j b, S i b → S j b → i = j)
    (hU : Upd (fun b => ∃ d, (i, d) ∈ cons ∧ S d b) w w') (hv : J i v w' (fun b => (w.heap.size ≤ b ∧ b < w'.heap.size) ∨ ∃ d, (i, d) ∈ cons ∧ S d b)) :
    Known w0 n J cons (listed.setIfInBounds i true) (updf u i v) w' := by
  classical
  refine ⟨hE.trans' hU (fun b hb ⟨d, _, hs⟩ => by have := (hr d b hs).1; omega), fun j b => if j = i then ((w.heap.size ≤ b ∧ b < w'.heap.size) ∨ ∃ d, (i, d) ∈ cons ∧ S d b) else S j b ∧ ¬ ∃ d, (i, d) ∈ cons ∧ S d b, ?_, ?_, ?_⟩
  · intro j hj hl
    by_cases hji : j = i
    · subst hji
      right
      rw [updf_same]
      simp only [if_true]
      exact hv
    · rw [getD_set_ne true (Ne.symm hji)] at hl
      rcases hJ j hj hl with ⟨c, hc, hcn, hcl⟩ | h
      · left
        refine ⟨c, hc, hcn, ?_⟩
        by_cases hci : i = c
        · subst hci; exact getD_set_self true hsz
        · rw [getD_set_ne true hci]; exact hcl
      · by_cases hcon : (i, j) ∈ cons
        · exact .inl ⟨i, hcon, hin, getD_set_self true hsz⟩
        · right
          rw [updf_ne u v hji]
          have h2 := hloc j hj _ _ w' _ h (hU.mono fun b hb ⟨d, hdc, hs⟩ => ⟨(hr d b hs).1, fun hsj => hcon (by rw [hd j d b hsj hs]; exact hdc)⟩)
          have e : (fun b => if j = i then ((w.heap.size ≤ b ∧ b < w'.heap.size) ∨ ∃ d, (i, d) ∈ cons ∧ S d b) else S j b ∧ ¬ ∃ d, (i, d) ∈ cons ∧ S d b) = S j := by
            funext b
            rw [if_neg hji]
            refine propext ⟨fun h => h.1, fun h => ⟨h, ?_⟩⟩
            rintro ⟨d, hdc, hs⟩
            exact hcon (by rw [hd j d b h hs]; exact hdc)
          dsimp only
          rw [e]
          exact h2
  · intro j b hs
    have h0 := hE.size
    have h1 := hU.size
    by_cases hji : j = i
    · simp only [if_pos hji] at hs
      rcases hs with ⟨h2, h3⟩ | ⟨d, _, hs⟩
      · exact ⟨by omega, h3⟩
      · have := hr d b hs; exact ⟨this.1, by omega⟩
    · simp only [if_neg hji] at hs
      have := hr j b hs.1; exact ⟨this.1, by omega⟩
  · intro j k b hs hs'
    by_cases hji : j = i <;> by_cases hki : k = i
    · rw [hji, hki]
    · simp only [if_pos hji] at hs
      simp only [if_neg hki] at hs'
      rcases hs with ⟨h2, _⟩ | h2
      · have := (hr k b hs'.1).2; omega
      · exact absurd h2 hs'.2
    · simp only [if_neg hji] at hs
      simp only [if_pos hki] at hs'
      rcases hs' with ⟨h2, _⟩ | h2
      · have := (hr j b hs.1).2; omega
      · exact absurd h2 hs.2
    · simp only [if_neg hji] at hs
      simp only [if_neg hki] at hs'
      exact hd j k b hs.1 hs'.1

theorem free_run {Lq : Act → World → Prop} (hB : freeB ops n cons = true) (hloc : ∀ i, i < n → Local w0 (J i)) (hop : ∀ i, i < n → OpOk P ops a0 w0 n J cons i)
    (hL : ∀ u w, Known w0 n J cons (doneA n ops.size) u w → Lq (fr ops a0 u n) w) :
    ∀ (f : Nat) (listed : Array Bool) (u : Nat → Value) (w : World), HeadInv .any ops n listed → cnt listed n = f → Known w0 n J cons listed u w →
      wpAnyC P .any ops n (fun listed' a' w' => Region.seqB .any ops (ops.size - n) n listed' = true ∧ Lq a' w') f (fun _ => True) listed (fr ops a0 u n) w := by
  simp only [freeB, Bool.and_eq_true, decide_eq_true_eq] at hB
  obtain ⟨⟨⟨⟨⟨⟨⟨hsel, hn⟩, hs⟩, hc⟩, hord⟩, hdst⟩, hcons⟩, hseq⟩ := hB
  have hdist : ∀ i j, i < n → j < n → i ≠ j → ∀ x, dstOf ops i = some x → dstOf ops j ≠ some x := fun i j hi hj hne x hx => by
    have h1 := List.all_eq_true.1 (List.all_eq_true.1 hdst i (List.mem_range.2 hi)) j (List.mem_range.2 hj)
    simp only [hx, Bool.or_eq_true, decide_eq_true_eq] at h1
    rcases h1 with h1 | h1
    · exact absurd h1 hne
    · exact h1
  intro f
  induction f with
  | zero =>
    intro listed u w inv hcnt hK
    have hall := cnt_zero hcnt
    have he : listed = doneA n ops.size := by
      apply Array.ext
      · simp [doneA, inv.size]; omega
      · intro i h1 h2
        have hi : i < ops.size := by rw [← inv.size]; exact h1
        by_cases hin : i < n
        · have := hall i hin
          simp [h1] at this
          rw [this]
          simp [doneA, hin]
        · have := inv.tail i (by omega) hi
          simp [h1] at this
          rw [this]
          simp [doneA, Array.getElem_append, hin]
    subst he
    exact ⟨hseq, hL u w hK⟩
  | succ f ih =>
    intro listed u w inv hcnt hK
    obtain ⟨i0, hi0, hun0, hbelow⟩ := cnt_pos (listed := listed) (k := n) (by omega)
    have hlt : ∀ i, i < n → i < listed.size := fun i hi => by rw [inv.size]; omega
    have hboth : ∀ j, j < n → listed.getD j true = true → listed.getD j false = true := fun j hj h => by simpa [hlt j hj] using h
    have hr0 : i0 ∈ Region.ready .any ops listed := by
      refine mem_ready.2 ⟨hun0, ?_⟩
      have h1 := List.all_eq_true.1 hord i0 (List.mem_range.2 hi0)
      cases ho : ops[i0]? with
      | none => simp [ho] at h1
      | some o =>
        refine ⟨o, rfl, fun e he hb => ?_⟩
        simp only [ho] at h1
        have h2 := Array.all_eq_true'.1 h1 e he
        simp only [hb, Bool.not_true, Bool.false_or, decide_eq_true_eq] at h2
        exact hboth _ (by omega) (hbelow e.on h2)
    refine ⟨(fun h => by rw [h] at hr0; cases hr0), fun i hi => ?_⟩
    have hin : i < n := by
      rcases Nat.lt_or_ge i n with h | h
      · exact h
      · exact absurd hi (tail_waits hs hc hn inv _ i0 rfl hi0 hun0 i h)
    refine ⟨hin, ?_⟩
    obtain ⟨hun, o, ho, hall⟩ := mem_ready.1 hi
    obtain ⟨hE, S, hJ, hrng, hdis⟩ := hK
    have hstep := hop i hin u w S o ho hE hrng hdis (fun d hdn hw => by
      obtain ⟨oj, hoj, e, he, hb, hon⟩ := Region.waitsFor_spec hw
      have : oj = o := Option.some.inj (hoj.symm.trans ho)
      subst this
      have hl := hall e he hb
      rw [hon] at hl
      have hl' : listed.getD d true = true := by simpa [hlt d hdn] using hl
      rcases hJ d hdn hl' with ⟨c, hcc, hcn, hcl⟩ | h
      · have h1 := List.all_eq_true.1 hcons (c, d) hcc
        simp only [Bool.and_eq_true, decide_eq_true_eq] at h1
        have h2 := List.all_eq_true.1 h1.2 i (List.mem_range.2 hin)
        simp only [Bool.or_eq_true, decide_eq_true_eq, hw, Bool.not_true, Bool.false_eq_true, or_false] at h2
        subst h2
        rw [hun] at hcl
        cases hcl
      · exact h)
    refine cOp_mono (fun a' w' h => ?_) (cOp_of_list ho hstep)
    obtain ⟨v, rfl, hU, hv⟩ := h
    refine ⟨fun _ => True, fun _ _ => trivial, trivial, ?_⟩
    have hd' : o.dst = dstOf ops i := by simp [dstOf, ho]
    rw [hd', fr_put hdist hin]
    refine ih _ _ _ (inv.set hi hin) ?_ (known_step hloc hin (hlt i hin) hE hJ hrng hdis hU hv)
    have := cnt_set (hlt i hin) hun hin
    omega

theorem wp_region_free {id : Nat} {Q : Exit → Act → World → Prop} {w : World} {l : List Oper} (n : Nat) (J : Nat → Fact) (cons : List (Nat × Nat)) (hm : P.follows .mixedOrders = true)
    (hB : freeB l.toArray n cons = true) (hloc : ∀ i, i < n → Local w.drew (J i)) (hop : ∀ i, i < n → OpOk P l.toArray a0 w.drew n J cons i)
    (hL : ∀ u w', Ext w.drew w' → (∀ i, i < n → (∀ c, (c, i) ∉ cons) → ∃ S, J i (u i) w' S) → wpList P l.toArray Q (l.drop n) (fr l.toArray a0 u n) w') : (Code.region id l.toArray true).wp P Q a0 w := by
  have hB' := hB
  simp only [freeB, Bool.and_eq_true, decide_eq_true_eq] at hB'
  obtain ⟨⟨⟨⟨⟨⟨⟨hsel, hn⟩, hs⟩, hc⟩, hord⟩, hdst⟩, hcons⟩, hseq⟩ := hB'
  have hn2 : n < l.length := by simpa using hn
  have hdl : (l.drop n).length = l.toArray.size - n := by simp
  have inv0 : HeadInv .any l.toArray n (Array.replicate l.toArray.size false) :=
    ⟨by simp, fun j oj _ hl => (by rw [getD_replicate_false] at hl; cases hl), fun t _ ht => getD_in (by simpa using ht) (getD_replicate_false _ _)⟩
  obtain ⟨u0, hu0⟩ := fr_self (ops := l.toArray) (a0 := a0) n
  have H := free_run (P := P) (a0 := a0) (Lq := fun a' w' => wpList P l.toArray Q (l.drop n) a' w') hB hloc hop (fun u w' ⟨hE, S, hJ, _, _⟩ => hL u w' hE (fun i hi hno => by
      rcases hJ i hi (doneA_at hi) with ⟨c, hcc, _⟩ | h
      · exact absurd hcc (hno c)
      · exact ⟨_, h⟩)) n _ u0 w.drew inv0 (cnt_new _ _ (by omega)) ⟨Upd.refl _ _, fun _ _ => False, (fun i hi hl => by
        have : (Array.replicate l.toArray.size false).getD i true = false := by
          have : i < l.length := by omega
          simp [this]
        rw [this] at hl; cases hl), fun _ _ h => h.elim, fun _ _ _ h => h.elim⟩
  rw [hu0] at H
  refine wp_region_any hm ?_
  have := wpAny_of_C (Q' := Q) (g := l.toArray.size - n) (fun listed a' w' hL => by
    have := wpAny_of_seq (md := .any) (Q' := Q) (l.drop n) n listed a' w' (fun j => by simp [List.getElem?_drop]) (by rw [hdl]; exact hL.1) hL.2
    rwa [hdl] at this) _ _ _ _ _ H
  rw [show n + (l.toArray.size - n) = l.toArray.size by omega] at this
  exact this
end law
end Go.Proofs.Ytekpjdfgpggcnaa
