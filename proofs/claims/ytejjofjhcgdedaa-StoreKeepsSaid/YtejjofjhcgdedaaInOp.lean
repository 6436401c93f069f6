/- Single operations in a round of a range over a function, by the laws of the plain walk; a range over a map's keys. -/
import Derived.Test.YtejjofjhcgdedaaKeys
namespace Go.Proofs.Ytejjofjhcgdedaa
set_option linter.unusedSimpArgs false
set_option linter.unusedVariables false
open Go.RowKit
section
variable {P : Program} {ops : Array Oper} {Q : Exit → Act → World → Prop} {a : Act} {w : World} {rest : List Oper} {o : Oper}
theorem wpListIn_head {l n : Nat} (hd : ∀ c, o.op ≠ .defer c) (h : wpList P ops (Exit.then (fun a w => wpListIn (Fence.wide.inRound l) n P ops Q rest a w) noQ) [o] a w) : wpListIn (Fence.wide.inRound l) n P ops Q (o :: rest) a w := by
  unfold wpList at h
  unfold wpListIn
  split
  · rename_i hw
    rw [if_pos hw] at h
    rcases h with hh | ⟨_, _, _, hf⟩
    · refine ⟨fun f _ => trivial, ?_⟩
      rw [Oper.semAt_eq _ _ _ hd]
      unfold Oper.wp at hh
      generalize (execOp a.eval o).run P w = r at *
      cases r with
      | ok nx w' =>
        cases nx <;> simp only [Oper.upon, Oper.uponIn] at hh ⊢
        case value => exact hh
        case skip => exact hh
        case defer => exact hh
        case enter f args =>
          refine ⟨fun hd => by simp [Fence.wide] at hd, CallsIn.inRound l (callsIn_wide.2 (Calls.mono hh (fun e w'' he => by
            cases e with
            | returned v => exact he
            | panicked c => exact he.elim
            | outgrown => obtain ⟨_, _, hf⟩ := he; exact hf.elim)))⟩
        case row rw args => exact ⟨fun hd => by simp [Fence.wide] at hd, fun c cs _ => let ⟨v, w'', r, s⟩ := hh c cs; ⟨v, w'', r, stepsIn_wide.2 s⟩⟩
      | halt x w' => cases x <;> simp only [Oper.upon, Oper.uponIn] at hh ⊢ <;> exact hh.elim
    · exact hf.elim
  · rename_i hw
    rw [if_neg hw] at h
    exact ⟨fun f _ => trivial, h⟩
theorem wpListIn_mk {ln n1 : Nat} (l c : Operand) {T e : TypeId} {z : Value} {bytes : Nat} (E : ElemI P T e z bytes)
    (hgd : o.guard = none) (ho : o.op = .makeSlice T l c) (n : Nat) {kl kc : IntKind} {L C : Int} (hl : a.eval l = .int kl L) (hc : a.eval c = .int kc C) (hL : L = (n : Int)) (hC : C = (n : Int)) (b2 : bytes * n ≤ 281474976710656) (b3 : n ≤ maxLen)
    {α : Type} [Inhabited α] (f : α → Value) (hz : f default = z) (hone : z.oneCell' = true) {B : Nat} (hB : B ≤ w.heap.size)
    (h : ∀ g w', Own w' B e (some ⟨g, 0, none⟩) n ((List.replicate n (default : α)).map f) → g = w.heap.size → Ext w w' → wpListIn (Fence.wide.inRound ln) n1 P ops Q rest (a.put o.dst (.slice (some ⟨g, 0, none⟩) n n)) w') : wpListIn (Fence.wide.inRound ln) n1 P ops Q (o :: rest) a w :=
  wpListIn_head (fun c h => by rw [ho] at h; cases h) (wpList_mk _ l c E hgd ho n hl hc hL hC b2 b3 f hz hone hB h)
theorem wpListIn_copy_onto {ln n1 : Nat} {α : Type} [Inhabited α] (enc : α → Value) (hone : ∀ x, (enc x).oneCell' = true) (ys xs : List α) (hgd : o.guard = none) {d s : Operand} {dT sT el : TypeId} (ho : o.op = .call { callee := .builtin .copy, args := #[d, s], argTypes := #[dT, sT] })
    (hu : P.underlying dT = some (.slice el)) (hsz : (P.info? el).map (·.size) = some 1) {g dl dc : Nat} (hd : a.eval d = .slice (some ⟨g, 0, none⟩) dl dc) {A : Option Addr} {sl sc : Nat} (hsv : a.eval s = .slice A sl sc)
    (hx : Sl enc w A xs) (hxl : xs.length = sl) (hyl : ys.length = dl) {B c : Nat} (hO : Own w B el (some ⟨g, 0, none⟩) c (ys.map enc))
    (h : ∀ w', Own w' B el (some ⟨g, 0, none⟩) c ((onto ys xs).map enc) → Upd (only g) w w' → wpListIn (Fence.wide.inRound ln) n1 P ops Q rest (a.put o.dst (goInt (xs.take ys.length).length)) w') : wpListIn (Fence.wide.inRound ln) n1 P ops Q (o :: rest) a w :=
  wpListIn_head (fun c h => by rw [ho] at h; cases h) (wpList_copy_onto enc hone ys xs hgd ho hu hsz hd hsv hx hxl hyl hO h)
/-- m[k] of a map that holds slices as they are -/
theorem wpListIn_lookup_held {F : Fence} {nF : Nat} (hg : o.guard = none) (m x : Operand) (t : TypeId) (hop : o.op = Op.lookup t m x false)
    (k e : TypeId) (K : Go.Maps.Keyed P k) (ht : P.underlying t = some (.map k e)) {z : Value} (hz : (zeroValue e).run P w = .ok z w) (b n : Nat) (D : DataW Value)
    (hm : a.eval m = .map (some b)) (hown : w.ownsMap P k heldV b n D) (key : Value) (kl : Lit) (hx : a.eval x = key) (hkey : keyOf P k key = some kl) (v : Value) (hat : D.atKey kl (.held z) = .held v)
    (hK : wpListIn F nF P ops Q rest (a.put o.dst v) w) : wpListIn F nF P ops Q (o :: rest) a w := by
  refine wpListIn_plain hg fun K' hK' => ?_
  obtain ⟨u, ps, hrun, hu⟩ := hown.lookup K ht hz (zd := .held z) (zp := []) rfl hkey
  rw [hat] at hu
  obtain rfl : u = v := by
    unfold heldV at hu
    injection hu with hu
    injection hu with hu
    injection hu
  unfold Oper.wpIn
  refine ⟨by simp [Oper.about, hop], ?_⟩
  rw [Oper.semAt_plain F _ _ (by rw [hop]; intro c hc'; cases hc')]
  simp [execOp, hop, hm, hx, hrun, Result.andThen]
  exact hK' _ _ hK
/-- a range over a function, no round of which leaves it; the iterator reads maps alone -/
theorem wp_rangeW {α : Type} {g : Operand} {ps : Array Tmp} {assign body : Code} {gf : Nat} {lb : Array Value} (encs : α → Array Value) (N : Nat) (S Sp : List α → Prop)
    (hg : a.eval g = .func (.func gf) #[] lb) (eg : ∀ args w, (callFunc gf args).run P w = .ok (.enter gf args) w)
    (hseq : SeqStopsK Fence.wide 2 P gf lb encs KeepsWalks S Sp N w) (hps : ∀ x, (encs x).size = ps.size)
    (I : List α → World → Prop) (hI : OwnFrom w.heap.size I) (h0 : I [] w)
    (h : ∃ a₁ : α → Act,
      (∀ (l : Nat) (x : α) (W : World) (K : Act → World → Prop), K (a₁ x) W →
        assign.wpIn (Fence.wide.inRound l) 1 P (Exit.then K (fun _ _ _ => False)) { tmps := (ps.zip (encs x)).foldl (fun t (p, v) => t.setIfInBounds p v) a.tmps, defers := [] } W) ∧
      (∀ (l : Nat) (pre : List α) (x : α) (W : World), I pre W → pre.length < N → body.wpIn (Fence.wide.inRound l) 1 P (ownPostG w.heap.size KeepsWalks I (fun _ _ _ => False) (pre ++ [x]) W) (a₁ x) W))
    (hdone : ∀ (D : Nat) (xs : List α) (W : World), w.heap.size ≤ D → S xs → I xs W → W.heap[D]? = some (.deferred (some [])) → Q .normal { a with defers := { target := .collected D, args := #[] } :: a.defers } W) :
    (Code.rangeFunc g ps assign body).wp P Q a w := by
  obtain ⟨a₁, h1, h2⟩ := h
  refine (wpIn_wide (n := 3)).1 ?_
  exact wpIn_rangeFunc_ownG rfl (by omega) hg trivial eg hseq walksK_t walksK_b (Below.refl _ _) hps I (fun _ _ _ => False) hI (fun _ _ _ _ _ hs _ _ => hs) h0 a₁ h1 h2 hdone (fun _ _ _ _ _ _ h _ => h.elim)
end
end Go.Proofs.Ytejjofjhcgdedaa
