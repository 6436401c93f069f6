/- A region whose order is open, by facts that may speak of the slots an operation waits for (stores into blocks that the region has made). A fact outlives a change of blocks that look as Z says. -/
import Derived.Test.YtekpjdfgpggcnaaFree
namespace Go.Proofs.Ytekpjdfgpggcnaa
set_option linter.unusedSimpArgs false
set_option linter.unusedVariables false
abbrev FactU := (Nat → Value) → World → (Nat → Prop) → Prop

/-- What is known behind some operations: of each its fact, if no other has consumed it; what each has made. -/
def KnownU (ops : Array Oper) (w0 : World) (n : Nat) (J : Nat → FactU) (cons : List (Nat × Nat)) (listed : Array Bool) (u : Nat → Value) (w : World) : Prop :=
  Ext w0 w ∧ (∀ j, j < n → listed.getD j true = true → ∀ d, d < n → waitsOn ops j d = true → listed.getD d true = true) ∧ ∃ S : Nat → Nat → Prop,
    (∀ i, i < n → listed.getD i true = true → (∃ c, (c, i) ∈ cons ∧ c < n ∧ listed.getD c true = true) ∨ J i u w (S i)) ∧
    (∀ i b, S i b → w0.heap.size ≤ b ∧ b < w.heap.size) ∧ (∀ i j b, S i b → S j b → i = j)

/-- An operation is walked. -/
def OpOkU (P : Program) (ops : Array Oper) (a0 : Act) (w0 : World) (n : Nat) (J : Nat → FactU) (cons : List (Nat × Nat)) (i : Nat) : Prop :=
  ∀ (u : Nat → Value) (w : World) (S : Nat → Nat → Prop) (o : Oper), ops[i]? = some o → Ext w0 w → (∀ i b, S i b → w0.heap.size ≤ b ∧ b < w.heap.size) → (∀ i j b, S i b → S j b → i = j) →
    (∀ d, d < n → waitsOn ops i d = true → J d u w (S d)) →
    wpList P ops (Exit.then (fun a' w' => ∃ v, a' = (fr ops a0 u n).put o.dst v ∧ Upd (fun b => ∃ d, (i, d) ∈ cons ∧ S d b) w w' ∧ J i (updf u i v) w' (fun b => (w.heap.size ≤ b ∧ b < w'.heap.size) ∨ ∃ d, (i, d) ∈ cons ∧ S d b)) noQ) [o] (fr ops a0 u n) w

/-- A fact hangs on the old blocks and on its own. -/
def LocalU (Z : World → Nat → Prop) (w0 : World) (J : FactU) : Prop := ∀ u w w' S, J u w S → Upd (fun b => w0.heap.size ≤ b ∧ ¬ S b ∧ Z w b) w w' → J u w' S
/-- A fact speaks of its own slot and of the slots that its operation waits for. -/
def DepU (ops : Array Oper) (n i : Nat) (J : FactU) : Prop := ∀ u u' w S, (∀ d, d = i ∨ (d < n ∧ waitsOn ops i d = true) → u d = u' d) → J u w S → J u' w S

section law
variable {P : Program} {ops : Array Oper} {a0 : Act} {w0 : World} {n : Nat} {J : Nat → FactU} {cons : List (Nat × Nat)} {Z : World → Nat → Prop}

theorem known_stepU {listed : Array Bool} {u : Nat → Value} {w w' : World} {i : Nat} {v : Value} {S : Nat → Nat → Prop} (hloc : ∀ i, i < n → LocalU Z w0 (J i)) (hdep : ∀ i, i < n → DepU ops n i (J i)) (hin : i < n) (hsz : i < listed.size) (hun : listed.getD i true = false) (hcl : ∀ j, j < n → listed.getD j true = true → ∀ d, d < n → waitsOn ops j d = true → listed.getD d true = true) (hwi : ∀ d, d < n → waitsOn ops i d = true → listed.getD d true = true) (hZ : ∀ d b, (i, d) ∈ cons → S d b → Z w b)
    (hE : Ext w0 w) (hJ : ∀ i, i < n → listed.getD i true = true → (∃ c, (c, i) ∈ cons ∧ c < n ∧ listed.getD c true = true) ∨ J i u w (S i))
    (hr : ∀ i b, S i b → w0.heap.size ≤ b ∧ b < w.heap.size) (hd : ∀ i j b, S i b → S j b → i = j)
    (hU : Upd (fun b => ∃ d, (i, d) ∈ cons ∧ S d b) w w') (hv : J i (updf u i v) w' (fun b => (w.heap.size ≤ b ∧ b < w'.heap.size) ∨ ∃ d, (i, d) ∈ cons ∧ S d b)) :
    KnownU ops w0 n J cons (listed.setIfInBounds i true) (updf u i v) w' := by
  classical
  refine ⟨hE.trans' hU (fun b hb ⟨d, _, hs⟩ => by have := (hr d b hs).1; omega), ?_, fun j b => if j = i then ((w.heap.size ≤ b ∧ b < w'.heap.size) ∨ ∃ d, (i, d) ∈ cons ∧ S d b) else S j b ∧ ¬ ∃ d, (i, d) ∈ cons ∧ S d b, ?_, ?_, ?_⟩
  · intro j hj hl d hd hw
    have hset : ∀ x, listed.getD x true = true → (listed.setIfInBounds i true).getD x true = true := fun x hx => by
      by_cases hxi : i = x
      · subst hxi; exact getD_set_self true hsz
      · rw [getD_set_ne true hxi]; exact hx
    by_cases hji : j = i
    · subst hji; exact hset d (hwi d hd hw)
    · rw [getD_set_ne true (Ne.symm hji)] at hl
      exact hset d (hcl j hj hl d hd hw)
  · intro j hj hl
    by_cases hji : j = i
    · subst hji
      right
      simp only [if_true]
      exact hv
    · rw [getD_set_ne true (Ne.symm hji)] at hl
      rcases hJ j hj hl with ⟨c, hc, hcn, hcl⟩ | h
      · left
        refine ⟨c, hc, hcn, ?_⟩
        by_cases hci : i = c
        · subst hci; exact getD_set_self true hsz
        · rw [getD_set_ne true hci]; exact hcl
      · by_cases hcon : (i, j) ∈ cons
        · exact .inl ⟨i, hcon, hin, getD_set_self true hsz⟩
        · right
          have h := hdep j hj u (updf u i v) _ _ (fun d hd => (updf_ne u v (by
            rcases hd with rfl | ⟨hdn, hw⟩
            · exact hji
            · intro e
              subst e
              have := hcl j hj hl d hdn hw
              rw [hun] at this
              cases this)).symm) h
          have h2 := hloc j hj _ _ w' _ h (hU.mono fun b hb ⟨d, hdc, hs⟩ => ⟨(hr d b hs).1, fun hsj => hcon (by rw [hd j d b hsj hs]; exact hdc), hZ d b hdc hs⟩)
          have e : (fun b => if j = i then ((w.heap.size ≤ b ∧ b < w'.heap.size) ∨ ∃ d, (i, d) ∈ cons ∧ S d b) else S j b ∧ ¬ ∃ d, (i, d) ∈ cons ∧ S d b) = S j := by
            funext b
            rw [if_neg hji]
            refine propext ⟨fun h => h.1, fun h => ⟨h, ?_⟩⟩
            rintro ⟨d, hdc, hs⟩
            exact hcon (by rw [hd j d b h hs]; exact hdc)
          dsimp only
          rw [e]
          exact h2
  · intro j b hs
    have h0 := hE.size
    have h1 := hU.size
    by_cases hji : j = i
    · simp only [if_pos hji] at hs
      rcases hs with ⟨h2, h3⟩ | ⟨d, _, hs⟩
      · exact ⟨by omega, h3⟩
      · have := hr d b hs; exact ⟨this.1, by omega⟩
    · simp only [if_neg hji] at hs
      have := hr j b hs.1; exact ⟨this.1, by omega⟩
  · intro j k b hs hs'
    by_cases hji : j = i <;> by_cases hki : k = i
    · rw [hji, hki]
    · simp only [if_pos hji] at hs
      simp only [if_neg hki] at hs'
      rcases hs with ⟨h2, _⟩ | h2
      · have := (hr k b hs'.1).2; omega
      · exact absurd h2 hs'.2
    · simp only [if_neg hji] at hs
      simp only [if_pos hki] at hs'
      rcases hs' with ⟨h2, _⟩ | h2
      · have := (hr j b hs.1).2; omega
      · exact absurd h2 hs.2
    · simp only [if_neg hji] at hs
      simp only [if_neg hki] at hs'
      exact hd j k b hs.1 hs'.1

theorem free_runU {Lq : Act → World → Prop} (hB : freeB ops n cons = true) (hloc : ∀ i, i < n → LocalU Z w0 (J i)) (hdep : ∀ i, i < n → DepU ops n i (J i)) (hcw : ∀ p, p ∈ cons → p.2 < n ∧ waitsOn ops p.1 p.2 = true) (hZ : ∀ p, p ∈ cons → ∀ u w S b, J p.2 u w S → S b → Z w b) (hop : ∀ i, i < n → OpOkU P ops a0 w0 n J cons i)
    (hL : ∀ u w, KnownU ops w0 n J cons (doneA n ops.size) u w → Lq (fr ops a0 u n) w) :
    ∀ (f : Nat) (listed : Array Bool) (u : Nat → Value) (w : World), HeadInv .any ops n listed → cnt listed n = f → KnownU ops w0 n J cons listed u w →
      wpAnyC P .any ops n (fun listed' a' w' => Region.seqB .any ops (ops.size - n) n listed' = true ∧ Lq a' w') f (fun _ => True) listed (fr ops a0 u n) w := by
  simp only [freeB, Bool.and_eq_true, decide_eq_true_eq] at hB
  obtain ⟨⟨⟨⟨⟨⟨⟨hsel, hn⟩, hs⟩, hc⟩, hord⟩, hdst⟩, hcons⟩, hseq⟩ := hB
  have hdist : ∀ i j, i < n → j < n → i ≠ j → ∀ x, dstOf ops i = some x → dstOf ops j ≠ some x := fun i j hi hj hne x hx => by
    have h1 := List.all_eq_true.1 (List.all_eq_true.1 hdst i (List.mem_range.2 hi)) j (List.mem_range.2 hj)
    simp only [hx, Bool.or_eq_true, decide_eq_true_eq] at h1
    rcases h1 with h1 | h1
    · exact absurd h1 hne
    · exact h1
  intro f
  induction f with
  | zero =>
    intro listed u w inv hcnt hK
    have hall := cnt_zero hcnt
    have he : listed = doneA n ops.size := by
      apply Array.ext
      · simp [doneA, inv.size]; omega
      · intro i h1 h2
        have hi : i < ops.size := by rw [← inv.size]; exact h1
        by_cases hin : i < n
        · have := hall i hin
          simp [h1] at this
          rw [this]
          simp [doneA, hin]
        · have := inv.tail i (by omega) hi
          simp [h1] at this
          rw [this]
          simp [doneA, Array.getElem_append, hin]
    subst he
    exact ⟨hseq, hL u w hK⟩
  | succ f ih =>
    intro listed u w inv hcnt hK
    obtain ⟨i0, hi0, hun0, hbelow⟩ := cnt_pos (listed := listed) (k := n) (by omega)
    have hlt : ∀ i, i < n → i < listed.size := fun i hi => by rw [inv.size]; omega
    have hboth : ∀ j, j < n → listed.getD j true = true → listed.getD j false = true := fun j hj h => by simpa [hlt j hj] using h
    have hr0 : i0 ∈ Region.ready .any ops listed := by
      refine mem_ready.2 ⟨hun0, ?_⟩
      have h1 := List.all_eq_true.1 hord i0 (List.mem_range.2 hi0)
      cases ho : ops[i0]? with
      | none => simp [ho] at h1
      | some o =>
        refine ⟨o, rfl, fun e he hb => ?_⟩
        simp only [ho] at h1
        have h2 := Array.all_eq_true'.1 h1 e he
        simp only [hb, Bool.not_true, Bool.false_or, decide_eq_true_eq] at h2
        exact hboth _ (by omega) (hbelow e.on h2)
    refine ⟨(fun h => by rw [h] at hr0; cases hr0), fun i hi => ?_⟩
    have hin : i < n := by
      rcases Nat.lt_or_ge i n with h | h
      · exact h
      · exact absurd hi (tail_waits hs hc hn inv _ i0 rfl hi0 hun0 i h)
    refine ⟨hin, ?_⟩
    obtain ⟨hun, o, ho, hall⟩ := mem_ready.1 hi
    obtain ⟨hE, hcl, S, hJ, hrng, hdis⟩ := hK
    have hwi : ∀ d, d < n → waitsOn ops i d = true → listed.getD d true = true := fun d hdn hw => by
      obtain ⟨oj, hoj, e, he, hb, hon⟩ := Region.waitsFor_spec hw
      have : oj = o := Option.some.inj (hoj.symm.trans ho)
      subst this
      have hl := hall e he hb
      rw [hon] at hl
      simpa [hlt d hdn] using hl
    have hpre : ∀ d, d < n → waitsOn ops i d = true → J d u w (S d) := (fun d hdn hw => by
      obtain ⟨oj, hoj, e, he, hb, hon⟩ := Region.waitsFor_spec hw
      have : oj = o := Option.some.inj (hoj.symm.trans ho)
      subst this
      have hl := hall e he hb
      rw [hon] at hl
      have hl' : listed.getD d true = true := by simpa [hlt d hdn] using hl
      rcases hJ d hdn hl' with ⟨c, hcc, hcn, hcl⟩ | h
      · have h1 := List.all_eq_true.1 hcons (c, d) hcc
        simp only [Bool.and_eq_true, decide_eq_true_eq] at h1
        have h2 := List.all_eq_true.1 h1.2 i (List.mem_range.2 hin)
        simp only [Bool.or_eq_true, decide_eq_true_eq, hw, Bool.not_true, Bool.false_eq_true, or_false] at h2
        subst h2
        rw [hun] at hcl
        cases hcl
      · exact h)
    have hstep := hop i hin u w S o ho hE hrng hdis hpre
    refine cOp_mono (fun a' w' h => ?_) (cOp_of_list ho hstep)
    obtain ⟨v, rfl, hU, hv⟩ := h
    refine ⟨fun _ => True, fun _ _ => trivial, trivial, ?_⟩
    have hd' : o.dst = dstOf ops i := by simp [dstOf, ho]
    rw [hd', fr_put hdist hin]
    refine ih _ _ _ (inv.set hi hin) ?_ (known_stepU hloc hdep hin (hlt i hin) hun hcl hwi (fun d b hc hs => hZ (i, d) hc u w (S d) b (hpre d (hcw _ hc).1 (hcw _ hc).2) hs) hE hJ hrng hdis hU hv)
    have := cnt_set (hlt i hin) hun hin
    omega

theorem wp_region_freeU (Z : World → Nat → Prop) {id : Nat} {Q : Exit → Act → World → Prop} {w : World} {l : List Oper} (n : Nat) (J : Nat → FactU) (cons : List (Nat × Nat)) (hm : P.follows .mixedOrders = true)
    (hB : freeB l.toArray n cons = true) (hloc : ∀ i, i < n → LocalU Z w.drew (J i)) (hdep : ∀ i, i < n → DepU l.toArray n i (J i)) (hcw : ∀ p, p ∈ cons → p.2 < n ∧ waitsOn l.toArray p.1 p.2 = true) (hZ : ∀ p, p ∈ cons → ∀ u w S b, J p.2 u w S → S b → Z w b) (hop : ∀ i, i < n → OpOkU P l.toArray a0 w.drew n J cons i)
    (hL : ∀ u w' (S : Nat → Nat → Prop), Ext w.drew w' → (∀ i, i < n → (∀ c, (c, i) ∉ cons) → J i u w' (S i)) → (∀ i b, S i b → w.drew.heap.size ≤ b ∧ b < w'.heap.size) → (∀ i j b, S i b → S j b → i = j) → wpList P l.toArray Q (l.drop n) (fr l.toArray a0 u n) w') : (Code.region id l.toArray true).wp P Q a0 w := by
  have hB' := hB
  simp only [freeB, Bool.and_eq_true, decide_eq_true_eq] at hB'
  obtain ⟨⟨⟨⟨⟨⟨⟨hsel, hn⟩, hs⟩, hc⟩, hord⟩, hdst⟩, hcons⟩, hseq⟩ := hB'
  have hn2 : n < l.length := by simpa using hn
  have hdl : (l.drop n).length = l.toArray.size - n := by simp
  have inv0 : HeadInv .any l.toArray n (Array.replicate l.toArray.size false) :=
    ⟨by simp, fun j oj _ hl => (by rw [getD_replicate_false] at hl; cases hl), fun t _ ht => getD_in (by simpa using ht) (getD_replicate_false _ _)⟩
  obtain ⟨u0, hu0⟩ := fr_self (ops := l.toArray) (a0 := a0) n
  have H := free_runU (P := P) (a0 := a0) (Lq := fun a' w' => wpList P l.toArray Q (l.drop n) a' w') hB hloc hdep hcw hZ hop (fun u w' ⟨hE, _, S, hJ, hrg, hdj⟩ => hL u w' S hE (fun i hi hno => by
      rcases hJ i hi (doneA_at hi) with ⟨c, hcc, _⟩ | h
      · exact absurd hcc (hno c)
      · exact h) hrg hdj) n _ u0 w.drew inv0 (cnt_new _ _ (by omega)) ⟨Upd.refl _ _, (fun j hj hl => by
        have : (Array.replicate l.toArray.size false).getD j true = false := by
          have : j < l.length := by omega
          simp [this]
        rw [this] at hl; cases hl), fun _ _ => False, (fun i hi hl => by
        have : (Array.replicate l.toArray.size false).getD i true = false := by
          have : i < l.length := by omega
          simp [this]
        rw [this] at hl; cases hl), fun _ _ h => h.elim, fun _ _ _ h => h.elim⟩
  rw [hu0] at H
  refine wp_region_any hm ?_
  have := wpAny_of_C (Q' := Q) (g := l.toArray.size - n) (fun listed a' w' hL => by
    have := wpAny_of_seq (md := .any) (Q' := Q) (l.drop n) n listed a' w' (fun j => by simp [List.getElem?_drop]) (by rw [hdl]; exact hL.1) hL.2
    rwa [hdl] at this) _ _ _ _ _ H
  rw [show n + (l.toArray.size - n) = l.toArray.size by omega] at this
  exact this
end law
end Go.Proofs.Ytekpjdfgpggcnaa
