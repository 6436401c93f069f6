/- Merged: Bv Plan Mem Mem2 Force Str Ows Tree Free FreeU FreeV PlanW PlanR PlanIn Slc Copy. -/
import Derived.WalkKit
import Derived.WalkSpells
import Derived.WalkLawsBesides
import Derived.StillTail
import Derived.StillTailTactics
import Derived.Deep.Draws
import Derived.Deep.AppendLies
import Derived.Maps.AppendAt
import Derived.Laws.OwnMore
import Derived.OwnWalk
import Derived.Deep.MidRow
import Derived.KernelRfl
import Derived.Laws.BytesArg
import Derived.Lib.Strings
import Derived.Deep.AppendSrc
import Derived.Laws.CopyRow
import Derived.RangeFuncCalls
import Derived.OrdersIn
import Derived.Laws.CopyOwn
namespace Go.Proofs.Ytejjofjhcgdedaa
set_option linter.unusedSimpArgs false
set_option linter.unusedVariables false
/- Words and bytes as bit vectors: what each of the machine's operations on integers gives when its operands are the numbers of bit vectors. -/
section
open Go.RowKit

def n8 (x : BitVec 8) : Int := x.toNat
def n32 (x : BitVec 32) : Int := x.toNat
def n64 (x : BitVec 64) : Int := x.toNat

theorem wrapu_nat (k : IntKind) (hs : k.signed = false) (a : Nat) : k.wrap (a : Int) = ((a % 2 ^ k.bits : Nat) : Int) := by
  unfold IntKind.wrap
  simp [hs]
theorem ofInt_toNat {n : Nat} (x : BitVec n) : BitVec.ofInt n (x.toNat : Int) = x := by
  rw [BitVec.ofInt_natCast]; simp
theorem wrapu_toNat (k : IntKind) (hs : k.signed = false) (x : BitVec k.bits) : k.wrap (x.toNat : Int) = (x.toNat : Int) := by
  rw [wrapu_nat k hs, Nat.mod_eq_of_lt x.isLt]

theorem n8_inj {x y : BitVec 8} : n8 x = n8 y ↔ x = y :=
  ⟨fun h => BitVec.eq_of_toNat_eq (Int.ofNat.inj h), congrArg _⟩
theorem n32_inj {x y : BitVec 32} : n32 x = n32 y ↔ x = y :=
  ⟨fun h => BitVec.eq_of_toNat_eq (Int.ofNat.inj h), congrArg _⟩
theorem n64_inj {x y : BitVec 64} : n64 x = n64 y ↔ x = y :=
  ⟨fun h => BitVec.eq_of_toNat_eq (Int.ofNat.inj h), congrArg _⟩
theorem n8_bd (x : BitVec 8) : 0 ≤ n8 x ∧ n8 x ≤ 255 := by unfold n8; have := x.isLt; omega
theorem n32_bd (x : BitVec 32) : 0 ≤ n32 x ∧ n32 x ≤ 4294967295 := by unfold n32; have := x.isLt; omega
theorem n64_bd (x : BitVec 64) : 0 ≤ n64 x ∧ n64 x ≤ 18446744073709551615 := by unfold n64; have := x.isLt; omega

theorem add_u32 (x y : BitVec 32) : IntKind.u32.wrap (n32 x + n32 y) = n32 (x + y) := by
  unfold n32; rw [← Int.natCast_add, wrapu_nat .u32 rfl, BitVec.toNat_add]; rfl
theorem sub_u32 (x y : BitVec 32) : IntKind.u32.wrap (n32 x - n32 y) = n32 (x - y) := by
  unfold n32; rw [IntKind.wrap_u32, BitVec.toNat_sub]; omega
theorem mul_u32 (x y : BitVec 32) : IntKind.u32.wrap (n32 x * n32 y) = n32 (x * y) := by
  unfold n32; rw [← Int.natCast_mul, wrapu_nat .u32 rfl, BitVec.toNat_mul]; rfl
theorem add_u64 (x y : BitVec 64) : IntKind.u64.wrap (n64 x + n64 y) = n64 (x + y) := by
  unfold n64; rw [← Int.natCast_add, wrapu_nat .u64 rfl, BitVec.toNat_add]; rfl
theorem inc_u32 (x : BitVec 32) : IntKind.u32.wrap (n32 x + 1) = n32 (x + 1) := add_u32 x 1
theorem mul_u64 (x y : BitVec 64) : IntKind.u64.wrap (n64 x * n64 y) = n64 (x * y) := by
  unfold n64; rw [← Int.natCast_mul, wrapu_nat .u64 rfl, BitVec.toNat_mul]; rfl

theorem xor_u32 (x y : BitVec 32) : bits .xor .u32 (n32 x) (n32 y) = n32 (x ^^^ y) := by
  show IntKind.u32.wrap ((BitVec.ofInt 32 (x.toNat : Int) ^^^ BitVec.ofInt 32 (y.toNat : Int)).toNat : Int) = _
  rw [ofInt_toNat, ofInt_toNat]; exact wrapu_toNat .u32 rfl _
theorem or_u32 (x y : BitVec 32) : bits .or .u32 (n32 x) (n32 y) = n32 (x ||| y) := by
  show IntKind.u32.wrap ((BitVec.ofInt 32 (x.toNat : Int) ||| BitVec.ofInt 32 (y.toNat : Int)).toNat : Int) = _
  rw [ofInt_toNat, ofInt_toNat]; exact wrapu_toNat .u32 rfl _
theorem and_u32 (x y : BitVec 32) : bits .and .u32 (n32 x) (n32 y) = n32 (x &&& y) := by
  show IntKind.u32.wrap ((BitVec.ofInt 32 (x.toNat : Int) &&& BitVec.ofInt 32 (y.toNat : Int)).toNat : Int) = _
  rw [ofInt_toNat, ofInt_toNat]; exact wrapu_toNat .u32 rfl _
theorem xor_u8 (x y : BitVec 8) : bits .xor .u8 (n8 x) (n8 y) = n8 (x ^^^ y) := by
  show IntKind.u8.wrap ((BitVec.ofInt 8 (x.toNat : Int) ^^^ BitVec.ofInt 8 (y.toNat : Int)).toNat : Int) = _
  rw [ofInt_toNat, ofInt_toNat]; exact wrapu_toNat .u8 rfl _
theorem or_u8 (x y : BitVec 8) : bits .or .u8 (n8 x) (n8 y) = n8 (x ||| y) := by
  show IntKind.u8.wrap ((BitVec.ofInt 8 (x.toNat : Int) ||| BitVec.ofInt 8 (y.toNat : Int)).toNat : Int) = _
  rw [ofInt_toNat, ofInt_toNat]; exact wrapu_toNat .u8 rfl _

theorem shl_u32 (x : BitVec 32) (k : Nat) : IntKind.u32.wrap (n32 x * 2 ^ k) = n32 (x <<< k) := by
  unfold n32
  have : (x.toNat : Int) * 2 ^ k = ((x.toNat * 2 ^ k : Nat) : Int) := by simp
  rw [this, wrapu_nat .u32 rfl, BitVec.toNat_shiftLeft, Nat.shiftLeft_eq]; rfl
theorem shr_u32 (x : BitVec 32) (k : Nat) : ((n32 x).fdiv (2 ^ k)) = n32 (x >>> k) := by
  unfold n32
  rw [BitVec.toNat_ushiftRight, Nat.shiftRight_eq_div_pow, Int.fdiv_eq_ediv_of_nonneg _ (by exact_mod_cast Nat.zero_le (2^k))]
  simp
theorem conv_u8_u32 (x : BitVec 8) : IntKind.u32.wrap (n8 x) = n32 (x.setWidth 32) := by
  unfold n8 n32; rw [wrapu_nat .u32 rfl, BitVec.toNat_setWidth]; rfl
theorem conv_u32_u8 (x : BitVec 32) : IntKind.u8.wrap (n32 x) = n8 (x.setWidth 8) := by
  unfold n8 n32; rw [wrapu_nat .u8 rfl, BitVec.toNat_setWidth]; rfl
theorem shr_u32' (x : BitVec 32) (k : Nat) : n32 x / 2 ^ k = n32 (x >>> k) := by
  rw [← shr_u32, Int.fdiv_eq_ediv_of_nonneg _ (by exact_mod_cast Nat.zero_le (2^k))]
theorem shl8_u32 (x : BitVec 32) : IntKind.u32.wrap (n32 x * 256) = n32 (x <<< 8) := shl_u32 x 8
theorem shl16_u32 (x : BitVec 32) : IntKind.u32.wrap (n32 x * 65536) = n32 (x <<< 16) := shl_u32 x 16
theorem shl24_u32 (x : BitVec 32) : IntKind.u32.wrap (n32 x * 16777216) = n32 (x <<< 24) := shl_u32 x 24
theorem shr8_u32 (x : BitVec 32) : n32 x / (256 : Int) = n32 (x >>> 8) := shr_u32' x 8
theorem shr16_u32 (x : BitVec 32) : n32 x / (65536 : Int) = n32 (x >>> 16) := shr_u32' x 16
theorem shr24_u32 (x : BitVec 32) : n32 x / (16777216 : Int) = n32 (x >>> 24) := shr_u32' x 24
end
/- A region whose order is open: if what only reads is taken as soon as it may come, and calls and allocations come one at a time, then one walk serves every order. Condition: a class C of worlds that every loud operation keeps; each quiet operation yields one value in every world of C. -/
section

structure Wd (S : World → Prop) where
  w : World
  ok : S w

def Cls (S : World → Prop) (w : World) : Prop := ∃ x : Wd S, w = x.w

section
variable {P : Program} {ops : Array Oper} {md : Region.Mode} {C : World → Prop}

def steadyUpon (w : World) (v : Value) : Result Next → Prop
  | .ok (.value u) w' => w' = w ∧ u = v
  | .ok .skip w' => w' = w ∧ v = undef
  | _ => False
def steady (P : Program) (o : Oper) (a : Act) (C : World → Prop) (K : Act → Prop) : Prop :=
  ∃ v, (∀ w, C w → steadyUpon w v ((execOp a.eval o).run P w)) ∧ K (a.put o.dst v)

def YieldsC (P : Program) (ops : Array Oper) (C : World → Prop) (o : Oper) (v : Value) (a : Act) : Prop :=
  (Region.wanted o (yielded ops a.tmps) = true ∧ ∀ w, C w → steadyUpon w v ((execOp a.eval o).run P w)) ∨
  (Region.wanted o (yielded ops a.tmps) = false ∧ v = undef)

theorem YieldsC.of_same {o : Oper} {v : Value} {a a' : Act} (hy : YieldsC P ops C o v a) (he : execOp a'.eval o = execOp a.eval o)
    (hw : Region.wanted o (yielded ops a'.tmps) = Region.wanted o (yielded ops a.tmps)) : YieldsC P ops C o v a' := by
  unfold YieldsC at *
  rw [he, hw]
  exact hy

theorem YieldsC.narrow {C' : World → Prop} {o : Oper} {v : Value} {a : Act} (hy : YieldsC P ops C o v a) (h : ∀ w, C' w → C w) : YieldsC P ops C' o v a := by
  rcases hy with ⟨h1, h2⟩ | h1
  · exact .inl ⟨h1, fun w hw => h2 w (h w hw)⟩
  · exact .inr h1

def noQ : Exit → Act → World → Prop := fun _ _ _ => False

def cOp (P : Program) (ops : Array Oper) (i : Nat) (K : Act → World → Prop) (a : Act) (w : World) : Prop :=
  match ops[i]? with
  | none => False
  | some o => if Region.wanted o (yielded ops a.tmps) then o.wp P a w K noQ else K (a.put o.dst undef) w

theorem oper_wp_imp {o : Oper} {a : Act} {w : World} {K K' : Act → World → Prop} {Q : Exit → Act → World → Prop} (h : ∀ a w, K a w → K' a w)
    (hh : o.wp P a w K noQ) : o.wp P a w K' Q := by
  unfold Oper.wp at *
  generalize (execOp a.eval o).run P w = r at *
  cases r with
  | ok n w' =>
    cases n <;> simp only [Oper.upon] at hh ⊢ <;>
      first
        | exact h _ _ hh
        | exact Calls.mono hh (fun e w'' he => by
            cases e with
            | returned v => exact h _ _ he
            | panicked c => exact he.elim
            | outgrown => obtain ⟨_, _, hf⟩ := he; exact hf.elim)
        | exact Rows.mono hh (fun _ _ he => h _ _ he)
  | halt x w' => cases x <;> simp only [Oper.upon] at hh ⊢ <;> exact hh.elim

theorem cOp_mono {i : Nat} {a : Act} {w : World} {K K' : Act → World → Prop} (h : ∀ a w, K a w → K' a w)
    (hh : cOp P ops i K a w) : cOp P ops i K' a w := by
  unfold cOp at *
  split
  · simp [*] at hh
  · rename_i o ho
    simp only [ho] at hh
    split
    · rename_i hw; simp only [hw, if_true] at hh; exact oper_wp_imp h hh
    · rename_i hw; simp only [hw] at hh; exact h _ _ hh

theorem wpOp_of_cOp {i : Nat} {a : Act} {w : World} {K K' : Act → World → Prop} {Q : Exit → Act → World → Prop} (h : ∀ a w, K a w → K' a w)
    (hh : cOp P ops i K a w) : wpOp P ops Q i K' a w := by
  unfold cOp at hh
  unfold wpOp
  split
  · simp [*] at hh
  · rename_i o ho
    simp only [ho] at hh
    split
    · rename_i hw; simp only [hw, if_true] at hh; exact .inl (oper_wp_imp h hh)
    · rename_i hw; simp only [hw] at hh; exact h _ _ hh

theorem YieldsC.cOp {i : Nat} {o : Oper} {v : Value} {a : Act} {w : World} (hC : C w) (hi : ops[i]? = some o) (hy : YieldsC P ops C o v a) {K : Act → World → Prop}
    (h : K (a.put o.dst v) w) : cOp P ops i K a w := by
  unfold Go.Proofs.Ytejjofjhcgdedaa.cOp
  simp only [hi]
  rcases hy with ⟨hw, hv⟩ | ⟨hw, rfl⟩
  · simp only [hw, if_true]
    have h1 := hv w hC
    unfold Oper.wp
    generalize (execOp a.eval o).run P w = r at *
    cases r with
    | ok n w' =>
      cases n <;> simp only [steadyUpon] at h1 <;> simp only [Oper.upon]
      case value u => obtain ⟨rfl, rfl⟩ := h1; exact h
      case skip => obtain ⟨rfl, rfl⟩ := h1; exact h
    | halt x w' => simp only [steadyUpon] at h1
  · simp only [hw, Bool.false_eq_true, if_false]; exact h

theorem cOp_put {j : Nat} {oi oj : Oper} {v : Value} (hj : ops[j]? = some oj) (hap : oi.apart ops oj = true)
    (hsi : ∀ cs b, oi.op ≠ .select cs b) (hsj : ∀ cs b, oj.op ≠ .select cs b) {K : Act → World → Prop} {a : Act} {w : World}
    (hy : YieldsC P ops C oi v a) (h : cOp P ops j K (a.put oi.dst v) w) :
    cOp P ops j (fun a' w' => YieldsC P ops C oi v a' ∧ K (a'.put oi.dst v) w') a w := by
  obtain ⟨h1, h2, h3⟩ := Oper.apart_spec hap
  have keep : ∀ (a : Act), YieldsC P ops C oi v a → ∀ u, YieldsC P ops C oi v (a.put oj.dst u) := fun a hy u =>
    hy.of_same (execOp_put oi hsi a oj.dst u h3) (wanted_put oi a oj.dst u h3)
  have keepD : ∀ d, YieldsC P ops C oi v { a with defers := d :: a.defers } := fun d => hy.of_same rfl rfl
  unfold Go.Proofs.Ytejjofjhcgdedaa.cOp at *
  simp only [hj] at *
  rw [wanted_put oj a oi.dst v h1] at h
  split
  · rename_i hw
    simp only [hw, if_true] at h
    unfold Oper.wp at *
    rw [execOp_put oj hsj a oi.dst v h1] at h
    generalize (execOp a.eval oj).run P w = r at *
    cases r with
    | ok n w' =>
      cases n <;> simp only [Oper.upon] at h ⊢
      case value u => exact ⟨keep a hy u, by rw [← Act.put_comm a v u h2]; exact h⟩
      case skip => exact ⟨keep a hy _, by rw [← Act.put_comm a v undef h2]; exact h⟩
      case defer d =>
        refine ⟨keep _ (keepD d) _, ?_⟩
        rw [← Act.put_comm _ v undef h2, ← Act.put_defers]
        exact h
      case enter f args =>
        refine Calls.mono h fun e w'' he => ?_
        cases e with
        | returned u => exact ⟨keep a hy u, by rw [← Act.put_comm a v u h2]; exact he⟩
        | panicked c => exact he
        | outgrown => exact he
      case row row args => exact Rows.mono h fun u w'' he => ⟨keep a hy u, by rw [← Act.put_comm a v u h2]; exact he⟩
    | halt x w' => cases x <;> simp only [Oper.upon] at h ⊢ <;> exact h
  · rename_i hw
    simp only [hw] at h
    exact ⟨keep a hy _, by rw [← Act.put_comm a v undef h2]; exact h⟩

def wpAnyC (P : Program) (md : Region.Mode) (ops : Array Oper) (n : Nat) (L : Array Bool → Act → World → Prop) : Nat → (World → Prop) → Array Bool → Act → World → Prop
  | 0, _, listed, a, w => L listed a w
  | f + 1, C, listed, a, w =>
    Region.ready md ops listed ≠ [] ∧ ∀ i ∈ Region.ready md ops listed, i < n ∧ cOp P ops i (fun a' w' => ∃ C' : World → Prop, (∀ w, C' w → C w) ∧ C' w' ∧ wpAnyC P md ops n L f C' (listed.setIfInBounds i true) a' w') a w

theorem wpAny_of_C {n g : Nat} {L : Array Bool → Act → World → Prop} {Q' : Exit → Act → World → Prop} (hL : ∀ listed a w, L listed a w → wpAny P md ops Q' g listed a w) :
    ∀ (f : Nat) (C : World → Prop) (listed : Array Bool) (a : Act) (w : World), wpAnyC P md ops n L f C listed a w → wpAny P md ops Q' (f + g) listed a w
  | 0, _, listed, a, w, h => by rw [Nat.zero_add]; exact hL _ _ _ h
  | f + 1, C, listed, a, w, h => by
    rw [show f + 1 + g = (f + g) + 1 by omega]
    exact ⟨fun h0 => absurd h0 h.1, fun i hi => wpOp_of_cOp (fun a' w' h' => by obtain ⟨C', _, _, h'⟩ := h'; exact wpAny_of_C hL f C' _ a' w' h') (h.2 i hi).2⟩

theorem wpAnyC_first {n i : Nat} {oi : Oper} {v : Value} {L : Array Bool → Act → World → Prop} (hi : ops[i]? = some oi) (hsel : ∀ (j : Nat) (o : Oper) cs b, ops[j]? = some o → o.op ≠ .select cs b)
    (hs : Region.sinkB md ops n = true) (hc : Region.chainB md ops n = true) (hn : n < ops.size) (hin : i < n)
    (hdone : ∀ listed a w, L listed a w → ∀ j ∈ Region.ready md ops listed, n ≤ j) :
    ∀ (f : Nat) (C : World → Prop) (listed : Array Bool) (a : Act) (w : World), HeadInv md ops n listed → C w →
      (∀ j oj, ops[j]? = some oj → j ≠ i → listed.getD j true = false → (∀ e ∈ oj.after, Region.binds md e = true → e.on ≠ i) → oi.apart ops oj = true) →
      i ∈ Region.ready md ops listed → YieldsC P ops C oi v a →
      wpAnyC P md ops n L f C (listed.setIfInBounds i true) (a.put oi.dst v) w → wpAnyC P md ops n L (f + 1) C listed a w := by
  intro f
  induction f with
  | zero =>
    intro C listed a w inv hC _ hr hy H
    have hun := (mem_ready.1 hr).1
    refine ⟨fun h => (by rw [h] at hr; cases hr), fun j hj => ?_⟩
    have hjn : j < n := by
      rcases Nat.lt_or_ge j n with h | h
      · exact h
      · exact absurd hj (tail_waits hs hc hn inv _ i rfl hin hun j h)
    refine ⟨hjn, ?_⟩
    by_cases hji : j = i
    · subst hji; exact hy.cOp hC hi ⟨C, fun _ h => h, hC, H⟩
    · have := hdone _ _ _ H j (ready_mono hj hji)
      omega
  | succ f ih =>
    intro C listed a w inv hC hfree hr hy H
    have hun := (mem_ready.1 hr).1
    refine ⟨fun h => (by rw [h] at hr; cases hr), fun j hj => ?_⟩
    have hjn : j < n := by
      rcases Nat.lt_or_ge j n with h | h
      · exact h
      · exact absurd hj (tail_waits hs hc hn inv _ i rfl hin hun j h)
    refine ⟨hjn, ?_⟩
    by_cases hji : j = i
    · subst hji; exact hy.cOp hC hi ⟨C, fun _ h => h, hC, H⟩
    · have h1 := (H.2 j (ready_mono hj hji)).2
      obtain ⟨hjun, oj, hoj, hall⟩ := mem_ready.1 hj
      have hnot : ∀ e ∈ oj.after, Region.binds md e = true → e.on ≠ i := fun e he hb heq => by
        have h1 := hall e he hb
        rw [heq, getD_both hun] at h1
        cases h1
      have h2 := cOp_put hoj (hfree j oj hoj hji hjun hnot) (fun cs b => hsel i oi cs b hi) (fun cs b => hsel j oj cs b hoj) hy h1
      have hfree' : ∀ k ok, ops[k]? = some ok → k ≠ i → (listed.setIfInBounds j true).getD k true = false →
          (∀ e ∈ ok.after, Region.binds md e = true → e.on ≠ i) → oi.apart ops ok = true := fun k ok hk hki hun hno => by
        refine hfree k ok hk hki ?_ hno
        by_cases hjk : j = k
        · subst hjk; exact hjun
        · rw [getD_set_ne true hjk] at hun; exact hun
      refine cOp_mono (fun a' w' h3 => ?_) h2
      obtain ⟨hy3, C', hsub, hC', h4⟩ := h3
      refine ⟨C', hsub, hC', ih C' (listed.setIfInBounds j true) a' w' (inv.set hj hjn) hC' hfree' (ready_mono hr (Ne.symm hji)) (hy3.narrow hsub) ?_⟩
      rw [Array.setIfInBounds_comm _ _ hji]
      exact h4

def headB (md : Region.Mode) (ops : Array Oper) (n g : Nat) : List (Bool × Nat) → Array Bool → Bool
  | [], listed => Region.seqB md ops g n listed
  | (false, i) :: r, listed => decide (i < n) && (Region.ready md ops listed).contains i && Region.free md ops listed i && headB md ops n g r (listed.setIfInBounds i true)
  | (true, i) :: r, listed => decide (i < n) && decide (Region.ready md ops listed = [i]) && headB md ops n g r (listed.setIfInBounds i true)

def planB (md : Region.Mode) (ops : Array Oper) (n : Nat) (plan : List (Bool × Nat)) : Bool :=
  Region.noSelect ops && decide (n < ops.size) && Region.sinkB md ops n && Region.chainB md ops n && decide (plan.length = n) && headB md ops n (ops.size - n) plan (Array.replicate ops.size false)

def wpHead (P : Program) (ops : Array Oper) (L : Act → World → Prop) : List (Bool × Nat) → (World → Prop) → Act → World → Prop
  | [], _, a, w => L a w
  | (false, i) :: r, C, a, w =>
    match ops[i]? with
    | none => False
    | some o => if Region.wanted o (yielded ops a.tmps) then steady P o a C (fun a' => wpHead P ops L r C a' w) else wpHead P ops L r C (a.put o.dst undef) w
  | (true, i) :: r, C, a, w => cOp P ops i (fun a' w' => ∃ C' : World → Prop, (∀ w, C' w → C w) ∧ C' w' ∧ wpHead P ops L r C' a' w') a w

theorem wpAnyC_plan {n g : Nat} {Lq : Act → World → Prop} (hsel : Region.noSelect ops = true) (hs : Region.sinkB md ops n = true) (hc : Region.chainB md ops n = true) (hn : n < ops.size) :
    ∀ (plan : List (Bool × Nat)) (C : World → Prop) (listed : Array Bool) (a : Act) (w : World), C w → HeadInv md ops n listed →
    headB md ops n g plan listed = true → wpHead P ops Lq plan C a w →
    wpAnyC P md ops n (fun listed' a' w' => Region.seqB md ops g n listed' = true ∧ Lq a' w') plan.length C listed a w
  | [], C, listed, a, w, _, _, hB, h => ⟨by simpa [headB] using hB, h⟩
  | (false, i) :: r, C, listed, a, w, hC, inv, hB, h => by
    simp only [headB, Bool.and_eq_true, decide_eq_true_eq] at hB
    obtain ⟨⟨⟨hin, hr⟩, hf⟩, hB'⟩ := hB
    have hr' : i ∈ Region.ready md ops listed := by simpa using hr
    unfold wpHead at h
    split at h
    · exact h.elim
    · rename_i o ho
      have key : ∃ v, YieldsC P ops C o v a ∧ wpHead P ops Lq r C (a.put o.dst v) w := by
        by_cases hw : Region.wanted o (yielded ops a.tmps) = true
        · simp only [hw, if_true] at h
          obtain ⟨v, h1, h2⟩ := h
          exact ⟨v, .inl ⟨hw, h1⟩, h2⟩
        · simp only [hw] at h
          exact ⟨undef, .inr ⟨by simpa using hw, rfl⟩, h⟩
      obtain ⟨v, hy, hK⟩ := key
      exact wpAnyC_first ho (Region.noSelect_spec hsel) hs hc hn hin (fun listed' a' w' hL => seqB_ready hL.1) r.length C listed a w inv hC (Region.free_spec ho hf) hr' hy
        (wpAnyC_plan hsel hs hc hn r C _ _ w hC (inv.set hr' hin) hB' hK)
  | (true, i) :: r, C, listed, a, w, hC, inv, hB, h => by
    simp only [headB, Bool.and_eq_true, decide_eq_true_eq] at hB
    obtain ⟨⟨hin, hr⟩, hB'⟩ := hB
    have hr' : i ∈ Region.ready md ops listed := by rw [hr]; simp
    refine ⟨by rw [hr]; simp, fun j hj => ?_⟩
    have hji : j = i := by rw [hr] at hj; simpa using hj
    subst hji
    exact ⟨hin, cOp_mono (fun a' w' h' => by
      obtain ⟨C', hsub, hC', h'⟩ := h'
      exact ⟨C', hsub, hC', wpAnyC_plan hsel hs hc hn r C' _ a' w' hC' (inv.set hr' hin) hB' h'⟩) h⟩

theorem wp_region_plan {id : Nat} {Q : Exit → Act → World → Prop} {a : Act} {w : World} {l : List Oper} (S : World → Prop) (n : Nat) (plan : List (Bool × Nat)) (hm : P.follows .mixedOrders = true)
    (hB : planB .any l.toArray n plan = true) (hC : S w.drew)
    (h : Nonempty (Wd S) → wpHead P l.toArray (fun a' w' => wpList P l.toArray Q (l.drop n) a' w') plan (Cls S) a w.drew) : (Code.region id l.toArray true).wp P Q a w := by
  simp only [planB, Bool.and_eq_true, decide_eq_true_eq] at hB
  obtain ⟨⟨⟨⟨⟨hsel, hn⟩, hs⟩, hc⟩, hpl⟩, hlex⟩ := hB
  have hdl : (l.drop n).length = l.toArray.size - n := by simp
  have inv0 : HeadInv .any l.toArray n (Array.replicate l.toArray.size false) :=
    ⟨by simp, fun j oj _ hl => (by rw [getD_replicate_false] at hl; cases hl), fun t _ ht => getD_in (by simpa using ht) (getD_replicate_false _ _)⟩
  have H := wpAnyC_plan (md := .any) (g := l.toArray.size - n) hsel hs hc hn plan (Cls S) _ a w.drew ⟨⟨_, hC⟩, rfl⟩ inv0 hlex (h ⟨⟨_, hC⟩⟩)
  refine wp_region_any hm ?_
  have := wpAny_of_C (Q' := Q) (g := l.toArray.size - n) (fun listed a' w' hL => by
    have := wpAny_of_seq (md := .any) (Q' := Q) (l.drop n) n listed a' w' (fun j => by simp [List.getElem?_drop]) (by rw [hdl]; exact hL.1) hL.2
    rwa [hdl] at this) _ _ _ _ _ H
  rw [hpl, show n + (l.toArray.size - n) = l.toArray.size by omega] at this
  exact this

/-! steps of the walk -/
theorem head_nil {C : World → Prop} {L : Act → World → Prop} {a : Act} {w : World} (h : L a w) : wpHead P ops L [] C a w := h
theorem head_q {C : World → Prop} {L : Act → World → Prop} {i : Nat} {r : List (Bool × Nat)} {o : Oper} {a : Act} {w : World} (ho : ops[i]? = some o)
    (h : ∀ K : Act → Prop, (∀ a, wpHead P ops L r C a w → K a) → if Region.wanted o (yielded ops a.tmps) then steady P o a C K else K (a.put o.dst undef)) :
    wpHead P ops L ((false, i) :: r) C a w := by
  unfold wpHead
  simp only [ho]
  exact h _ (fun _ h => h)
theorem head_l {C : World → Prop} {L : Act → World → Prop} {i : Nat} {r : List (Bool × Nat)} {o : Oper} {a : Act} {w : World} (ho : ops[i]? = some o)
    (h : wpList P ops (Exit.then (fun a' w' => ∃ C' : World → Prop, (∀ w, C' w → C w) ∧ C' w' ∧ wpHead P ops L r C' a' w') noQ) [o] a w) :
    wpHead P ops L ((true, i) :: r) C a w := by
  unfold wpHead cOp
  simp only [ho]
  unfold wpList at h
  split
  · rename_i hw
    rw [if_pos hw] at h
    rcases h with h | ⟨_, _, _, hf⟩
    · exact oper_wp_imp (fun a w hk => hk) (by
        unfold Oper.wp at *
        generalize (execOp a.eval o).run P w = r at *
        cases r with
        | ok n w' =>
          cases n <;> simp only [Oper.upon] at h ⊢ <;>
            first
              | exact h
              | exact Calls.mono h (fun e w'' he => by
                  cases e with
                  | returned v => exact he
                  | panicked c => exact he
                  | outgrown => obtain ⟨_, _, hf⟩ := he; exact hf.elim)
              | exact Rows.mono h (fun _ _ he => he)
        | halt x w' => cases x <;> simp only [Oper.upon] at h ⊢ <;> exact h)
    · exact hf.elim
  · rename_i hw
    rw [if_neg hw] at h
    exact h
end
end
/- Memory, told in four words: Upd (only these old blocks have turned), Sl (a slice that reads as a list), Arr (a block that is a row of a function's values), Own (a slice that the call may append to). -/
section
open Go.RowKit

theorem hide {p : Prop} (h : p) : Hid p := h

def by8 (x : BitVec 8) : Value := .int .u8 (n8 x)
def by32 (x : BitVec 32) : Value := .int .u32 (n32 x)
def by64 (x : BitVec 64) : Value := .int .u64 (n64 x)

/-- Of the blocks that were there, those of T alone may have turned. -/
structure Upd (T : Nat → Prop) (w w' : World) : Prop where
  os : w'.os = w.os
  tape : w'.tape = w.tape
  output : w'.output = w.output
  size : w.heap.size ≤ w'.heap.size
  block : ∀ k, k < w.heap.size → ¬ T k → w'.heap[k]? = w.heap[k]?
abbrev Ext := Upd (fun _ => False)
def only (g : Nat) : Nat → Prop := fun k => k = g

section upd
variable {T T' : Nat → Prop} {w w' a b c : World}
theorem Upd.refl (T : Nat → Prop) (w : World) : Upd T w w := ⟨rfl, rfl, rfl, Nat.le_refl _, fun _ _ _ => rfl⟩
theorem Upd.trans (h : Upd T a b) (k : Upd T b c) : Upd T a c :=
  ⟨k.os.trans h.os, k.tape.trans h.tape, k.output.trans h.output, Nat.le_trans h.size k.size, fun i hi hn => (k.block i (Nat.lt_of_lt_of_le hi h.size) hn).trans (h.block i hi hn)⟩
theorem Upd.mono (h : Upd T a b) (hT : ∀ k, k < a.heap.size → T k → T' k) : Upd T' a b := ⟨h.os, h.tape, h.output, h.size, fun i hi hn => h.block i hi (fun ht => hn (hT i hi ht))⟩
theorem Upd.trans' (h : Upd T a b) (k : Upd T' b c) (hT : ∀ i, i < a.heap.size → T' i → T i) : Upd T a c :=
  ⟨k.os.trans h.os, k.tape.trans h.tape, k.output.trans h.output, Nat.le_trans h.size k.size, fun i hi hn => (k.block i (Nat.lt_of_lt_of_le hi h.size) (fun ht => hn (hT i hi ht))).trans (h.block i hi hn)⟩
theorem Upd.ext (h : Upd T a b) (k : Ext b c) : Upd T a c := h.trans' k (fun _ _ h => h.elim)
theorem Upd.ofExt (h : Ext a b) : Upd T a b := h.mono fun _ _ h => h.elim
theorem Upd.drew (h : Upd T a w) : Upd T a w.drew := ⟨h.os, h.tape, h.output, h.size, h.block⟩
theorem Upd.undrew (h : Upd T w.drew w') : Upd T w w' := ⟨h.os, h.tape, h.output, h.size, h.block⟩
theorem Upd.drewN (h : Upd T a w) (n : Nat) : Upd T a (w.drewN n) := ⟨h.os, h.tape, h.output, h.size, h.block⟩
theorem Upd.alloc (h : Upd T a w) (o : Obj) : Upd T a (w.alloc o) :=
  ⟨h.os, h.tape, h.output, Nat.le_trans h.size (by simp), fun i hi hn => (Below.heap_alloc w o i (Nat.lt_of_lt_of_le hi h.size)).trans (h.block i hi hn)⟩
theorem Upd.setCell (h : Upd T a w) {p : Addr} (hp : T p.block ∨ a.heap.size ≤ p.block) (u : Value) : Upd T a (w.setCell p u) :=
  ⟨h.os, h.tape, h.output, by simpa [World.setCell] using h.size, fun i hi hn => (Below.heap_setCell w p u i (by
    rintro rfl
    rcases hp with hp | hp
    · exact hn hp
    · omega)).trans (h.block i hi hn)⟩
theorem Upd.grown {row : Option Nat} (h : Upd T a w) (hg : w.grownBy w' row) (hr : ∀ k, row = some k → T k ∨ a.heap.size ≤ k) : Upd T a w' :=
  ⟨hg.os.trans h.os, hg.tape.trans h.tape, hg.output.trans h.output, Nat.le_trans h.size hg.size, fun i hi hn =>
    (hg.block i (Nat.lt_of_lt_of_le hi h.size) (fun e => by
      rcases hr i e.symm with h1 | h1
      · exact hn h1
      · omega)).trans (h.block i hi hn)⟩
theorem Upd.below (h : Ext a b) : Below a.heap.size a b := ⟨h.os, h.tape, h.output, h.size, fun i hi => h.block i hi (fun h => h)⟩
theorem Upd.cell (h : Upd T w w') {p : Addr} (hp : p.block < w.heap.size) (hn : ¬ T p.block) : w'.cell? p = w.cell? p := World.cell?_of_block (w := w) (h.block p.block hp hn)
theorem Upd.frozen (h : Upd T w w') {p : Addr} (hp : p.block < w.heap.size) (hn : ¬ T p.block) : w'.frozen? p = w.frozen? p := World.frozen?_of_block (w := w) (h.block p.block hp hn)
theorem Upd.cellv (h : Ext w w') {p : Addr} {v : Value} (hc : w.cell? p = some v) : w'.cell? p = some v := (h.cell (World.block_lt_of_cell? w p hc) (fun h => h)).trans hc
end upd

/-- The class of worlds in which nothing old has turned. -/
theorem ext_cell {w0 : World} (x : Wd (Ext w0)) (p : Addr) (h : (w0.cell? p).isSome = true) : x.w.cell? p = w0.cell? p := by
  obtain ⟨u, hu⟩ := Option.isSome_iff_exists.1 h
  exact x.ok.cell (World.block_lt_of_cell? w0 p hu) (fun h => h)
def Same (w0 w : World) : Prop := w.heap = w0.heap
theorem same_cell {w0 : World} (x : Wd (Same w0)) (p : Addr) : x.w.cell? p = w0.cell? p := by
  unfold World.cell?; rw [show x.w.heap = w0.heap from x.ok]

instance wd_ext (w : World) : Nonempty (Wd (Ext w)) := ⟨⟨w, Upd.refl _ _⟩⟩
instance wd_same (w : World) : Nonempty (Wd (Same w)) := ⟨⟨w, rfl⟩⟩
theorem cls_narrow {w w' : World} (h : Ext w w') : ∀ v, Cls (Ext w') v → Cls (Ext w) v := by
  rintro _ ⟨x, rfl⟩
  exact ⟨⟨x.w, h.trans x.ok⟩, rfl⟩

section sl
variable {α : Type} [Inhabited α]
def gat (xs : List α) (i : Nat) : α := xs.getD i default
theorem gat_lt {xs : List α} {i : Nat} (h : i < xs.length) : gat xs i = xs[i] := by simp [gat, h]
theorem gat_some {xs : List α} {i : Nat} (h : i < xs.length) : xs[i]? = some (gat xs i) := by simp [gat, h]
theorem gat_drop (xs : List α) (k i : Nat) : gat (xs.drop k) i = gat xs (k + i) := by simp [gat]
theorem gat_take {xs : List α} {k i : Nat} (h : i < k) : gat (xs.take k) i = gat xs i := by simp [gat, List.getElem?_take, h]

/-- The slice at A reads as the list xs. -/
def Sl (f : α → Value) (w : World) (A : Option Addr) (xs : List α) : Prop :=
  ∀ i, i < xs.length → ∃ b o, A = some ⟨b, o, none⟩ ∧ w.cell? ⟨b, o + i, none⟩ = some (f (gat xs i))

variable {f : α → Value} {w w' : World} {A : Option Addr} {xs : List α} {T : Nat → Prop}
theorem Sl.nil : Sl f w A [] := fun i h => absurd h (by simp)
theorem Sl.open_ (h : Sl f w A xs) (hn : 0 < xs.length) : ∃ b o, A = some ⟨b, o, none⟩ ∧ b < w.heap.size ∧ ∀ i, i < xs.length → w.cell? ⟨b, o + i, none⟩ = some (f (gat xs i)) := by
  obtain ⟨b, o, rfl, hc⟩ := h 0 hn
  refine ⟨b, o, rfl, World.block_lt_of_cell? w _ hc, fun i hi => ?_⟩
  obtain ⟨b', o', e, hc'⟩ := h i hi
  cases e
  exact hc'
theorem Sl.cells {b o : Nat} (h : Sl f w (some ⟨b, o, none⟩) xs) : ∀ i, i < xs.length → w.cell? ⟨b, o + i, none⟩ = some (f (gat xs i)) := fun i hi => by
  obtain ⟨b', o', e, hc'⟩ := h i hi
  cases e
  exact hc'
theorem Sl.of_cells {b o : Nat} (h : ∀ i, i < xs.length → w.cell? ⟨b, o + i, none⟩ = some (f (gat xs i))) : Sl f w (some ⟨b, o, none⟩) xs := fun i hi => ⟨b, o, rfl, h i hi⟩
theorem Sl.upd (h : Sl f w A xs) (hu : Upd T w w') (hT : ∀ b o, A = some ⟨b, o, none⟩ → ¬ T b) : Sl f w' A xs := fun i hi => by
  obtain ⟨b, o, e, hc⟩ := h i hi
  exact ⟨b, o, e, (hu.cell (World.block_lt_of_cell? w _ hc) (hT b o e)).trans hc⟩
theorem Sl.ext (h : Sl f w A xs) (hu : Ext w w') : Sl f w' A xs := h.upd hu (fun _ _ _ h => h)
theorem Sl.drop {b o : Nat} (h : Sl f w (some ⟨b, o, none⟩) xs) (k : Nat) : Sl f w (some ⟨b, o + k, none⟩) (xs.drop k) :=
  Sl.of_cells fun i hi => by
    rw [List.length_drop] at hi
    rw [gat_drop, Nat.add_assoc]
    exact h.cells (k + i) (by omega)
theorem Sl.take (h : Sl f w A xs) (k : Nat) : Sl f w A (xs.take k) := fun i hi => by
  rw [List.length_take] at hi
  rw [gat_take (by omega)]
  exact h i (by omega)
theorem Sl.new (f : α → Value) (w : World) (t : TypeId) (xs : List α) : Sl f (w.alloc (.cells (xs.map f).toArray t)) (some ⟨w.heap.size, 0, none⟩) xs :=
  Sl.of_cells fun i hi => by
    rw [Nat.zero_add, cell_of_row _ w.heap.size i _ t (0, 0) (heap_alloc_new w _)]
    simp [gat_some hi]
theorem Sl.news (h : Sl f w A xs) (ad : Addr) (hA : A = some ad) : ∀ j u, (xs.map f)[j]? = some u → w.cell? (ad.add j) = some u := by
  subst hA
  intro j u hu
  rw [List.getElem?_map] at hu
  rcases Nat.lt_or_ge j xs.length with hj | hj
  · obtain ⟨b, o, e, hc⟩ := h j hj
    cases e
    rw [gat_some hj] at hu
    simp only [Option.map_some, Option.some.injEq] at hu
    subst hu
    rw [← hc]
    unfold Addr.add
    split
    · subst_vars; rfl
    · rfl
  · rw [List.getElem?_eq_none hj] at hu; simp at hu

/-- Block g is a row of n cells, the i-th f i. -/
def Arr (w : World) (g : Nat) (t : TypeId) (n : Nat) (f : Nat → Value) : Prop := w.heap[g]? = some (.cells (Array.ofFn fun i : Fin n => f i) t (0, 0))
def put1 {β : Type} (f : Nat → β) (i : Nat) (v : β) : Nat → β := fun j => if j = i then v else f j
end sl

section arr
variable {w w' : World} {g : Nat} {t : TypeId} {n : Nat} {f : Nat → Value} {T : Nat → Prop}
theorem Arr.lt (h : Arr w g t n f) : g < w.heap.size := by
  rcases Nat.lt_or_ge g w.heap.size with hlt | hge
  · exact hlt
  · unfold Arr at h; rw [Array.getElem?_eq_none hge] at h; cases h
theorem Arr.cell (h : Arr w g t n f) {i : Nat} (hi : i < n) : w.cell? ⟨g, i, none⟩ = some (f i) := by
  unfold Arr at h; simp [World.cell?, h, hi]
theorem Arr.frozen (h : Arr w g t n f) (i : Nat) : w.frozen? ⟨g, i, none⟩ = false := by
  unfold Arr at h; simp [World.frozen?, h]
theorem Arr.drew (h : Arr w g t n f) : Arr w.drew g t n f := h
theorem Arr.alloc (h : Arr w g t n f) (o : Obj) : Arr (w.alloc o) g t n f := (Below.heap_alloc w o g h.lt).trans h
theorem Arr.far (h : Arr w g t n f) {p : Addr} (hp : g ≠ p.block) (u : Value) : Arr (w.setCell p u) g t n f := (Below.heap_setCell w p u g hp).trans h
theorem Arr.upd (h : Arr w g t n f) (hu : Upd T w w') (hT : ¬ T g) : Arr w' g t n f := (hu.block g h.lt hT).trans h
theorem Arr.ext (h : Arr w g t n f) (hu : Ext w w') : Arr w' g t n f := h.upd hu (fun h => h)
theorem Arr.set (h : Arr w g t n f) (i : Nat) (u : Value) : Arr (w.setCell ⟨g, i, none⟩ u) g t n (put1 f i u) := by
  unfold Arr at h ⊢
  simp only [World.setCell, Array.getElem?_modify, h, if_true, Option.map_some, Option.isSome_none, Bool.false_eq_true, if_false]
  congr 2
  apply Array.ext
  · simp
  · intro j h1 h2
    simp only [Array.size_setIfInBounds, Array.size_ofFn] at h1
    simp only [Array.getElem_setIfInBounds, Array.getElem_ofFn, put1]
    by_cases hji : i = j
    · subst hji; simp
    · rw [Array.getElem_setIfInBounds_ne (by simpa using h1) hji]
      simp [put1, Ne.symm hji]
theorem Arr.congr {f' : Nat → Value} (h : Arr w g t n f) (e : ∀ i, i < n → f i = f' i) : Arr w g t n f' := by
  unfold Arr at h ⊢
  rw [h]
  congr 3
  funext i
  exact e i i.isLt
theorem Arr.new (w : World) (t : TypeId) (cs : Array Value) (n : Nat) (f : Nat → Value) (hn : cs.size = n) (hf : ∀ i, i < n → cs[i]? = some (f i)) : Arr (w.alloc (.cells cs t)) w.heap.size t n f := by
  unfold Arr
  rw [heap_alloc_new]
  congr 2
  apply Array.ext
  · simp [hn]
  · intro i h1 h2
    have := hf i (by omega)
    rw [Array.getElem?_eq_getElem h1] at this
    simpa using this
end arr

theorem run_storeAt_one {P : Program} (w : World) (T : TypeId) (p : Addr) (v old : Value) (hs : (P.info? T).map (·.size) = some 1) (hv : v.oneCell' = true)
    (hc : w.cell? p = some old) (hf : w.frozen? p = false) : (Instr.storeAt T (.pointer (some p)) v).run P w = .ok () (w.setCell p v) := by
  have hcs : v.cells = #[v] := by cases v <;> first | rfl | (simp [Value.oneCell'] at hv)
  cases hq : P.info? T with
  | none => simp [hq] at hs
  | some i =>
    have h1 : i.size = 1 := by simpa [hq] using hs
    have hr := run_store P w p v .plain hv
    simp only [hc, hf] at hr
    simp [Instr.storeAt, Instr.sureAddr, storeVar, sizeOf, typeInfo, hq, h1, hcs, storeCells, Addr.add, hr]

/-- A store into a row: the world behind it is a name, of which the row and Upd are known. -/
theorem wpList_store_arr {P : Program} {w : World} {ops : Array Oper} {rest : List Oper} {o : Oper} {a : Act} {Q : Exit → Act → World → Prop} (hgd : o.guard = none) {T : TypeId} {p x : Operand}
    (ho : o.op = .store T p x) (hs : (P.info? T).map (·.size) = some 1) {g i : Nat} (hp : a.eval p = .pointer (some ⟨g, i, none⟩)) {v : Value} (hx : a.eval x = v) (hv : v.oneCell' = true) {t : TypeId} {n : Nat} {f : Nat → Value}
    (hA : Arr w g t n f) (hi : i < n) (h : ∀ w', Arr w' g t n (put1 f i v) → Upd (only g) w w' → wpList P ops Q rest (a.put o.dst undef) w') : wpList P ops Q (o :: rest) a w := by
  refine wpList_plain hgd fun K hK => ?_
  unfold Oper.wp execOp
  simp only [ho, hp, hx]
  rw [Sem.run_bind, run_storeAt_one w T _ v _ hs hv (hA.cell hi) (hA.frozen i)]
  exact hK _ _ (h _ (hA.set i v) ((Upd.refl (only g) w).setCell (p := ⟨g, i, none⟩) (.inl rfl) v))
theorem wpList_store_enc {P : Program} {w : World} {ops : Array Oper} {rest : List Oper} {o : Oper} {a : Act} {Q : Exit → Act → World → Prop} {α : Type} (enc : α → Value) (henc : ∀ x, (enc x).oneCell' = true) (v : α)
    (hgd : o.guard = none) {T : TypeId} {p x : Operand}
    (ho : o.op = .store T p x) (hs : (P.info? T).map (·.size) = some 1) {g i : Nat} (hp : a.eval p = .pointer (some ⟨g, i, none⟩)) (hx : a.eval x = enc v) {t : TypeId} {n : Nat} {S : Nat → α}
    (hA : Arr w g t n (fun i => enc (S i))) (hi : i < n) (h : ∀ w', Arr w' g t n (fun j => enc (put1 S i v j)) → Upd (only g) w w' → wpList P ops Q rest (a.put o.dst undef) w') : wpList P ops Q (o :: rest) a w :=
  wpList_store_arr hgd ho hs hp hx (henc v) hA hi fun w' hA' hU => h w' (hA'.congr fun j _ => by unfold put1; split <;> rfl) hU
theorem one8 (x : BitVec 8) : (by8 x).oneCell' = true := rfl
theorem one32 (x : BitVec 32) : (by32 x).oneCell' = true := rfl
theorem one64 (x : BitVec 64) : (by64 x).oneCell' = true := rfl

/-- A whole array is loaded out of its block. -/
theorem wpList_load_arr {P : Program} {w : World} {ops : Array Oper} {rest : List Oper} {o : Oper} {a : Act} {Q : Exit → Act → World → Prop} (hgd : o.guard = none) {ty : TypeId} {x : Operand} (ho : o.op = .load ty x)
    {g : Nat} (hx : a.eval x = .pointer (some ⟨g, 0, none⟩)) {t : TypeId} {n : Nat} {f : Nat → Value} (hA : Arr w g t n f) {e : TypeId} (hu : P.underlying ty = some (.array n e)) (hi : (P.info? ty).map (·.size) = some n)
    (h : wpList P ops Q rest (a.put o.dst (.agg (Array.ofFn fun i : Fin n => f i))) w) : wpList P ops Q (o :: rest) a w :=
  wpList_load_row hgd ty x ho g hx t _ (0, 0) _ hA hu rfl (by simpa using hi) h
/-- A whole array is stored into a block of as many cells. -/
theorem wpList_store_whole {P : Program} {w : World} {ops : Array Oper} {rest : List Oper} {o : Oper} {a : Act} {Q : Exit → Act → World → Prop} (hgd : o.guard = none) {ty : TypeId} {p x : Operand} (ho : o.op = .store ty p x)
    {g : Nat} (hp : a.eval p = .pointer (some ⟨g, 0, none⟩)) {n : Nat} {f : Nat → Value} (hx : a.eval x = .agg (Array.ofFn fun i : Fin n => f i)) (h1 : ∀ i, (f i).oneCell' = true) {t : TypeId} {f' : Nat → Value} (hA : Arr w g t n f') (hi : (P.info? ty).map (·.size) = some n)
    (h : ∀ w', Arr w' g t n f → Upd (only g) w w' → wpList P ops Q rest (a.put o.dst undef) w') : wpList P ops Q (o :: rest) a w := by
  refine wpList_plain hgd fun K hK => ?_
  refine wp_store_row ty p x ho g _ hp hx t _ hA (by simpa using hi) (by simp) ?_ (hK _ _ (h _ ?_ ?_))
  · rw [Array.all_eq_true]; intro i hi; simp [h1]
  · exact setRow_heap w g _ _ t (0, 0) hA
  · exact ⟨rfl, rfl, rfl, by simp, fun k _ hk => setRow_other w g k _ (fun e => hk (by simp [only, e]))⟩

/-- An element of an array value whose elements have one cell each. -/
theorem run_index_arr {P : Program} {T e : TypeId} {n : Nat} (hu : P.underlying T = some (.array n e)) (hs : (P.info? e).map (·.size) = some 1) {de : TypeDesc} (he : P.underlying e = some de) (hde : de.isRow = false)
    (f : Nat → Value) {k : Nat} (hk : k < n) (kd : IntKind) (w : World) :
    (Instr.index T (.agg (Array.ofFn fun i : Fin n => f i)) (.int kd (k : Int))).run P w = .ok (f k) w := by
  have hagg : (isAgg e).run P w = .ok false w := by
    unfold isAgg
    rw [Sem.run_bind, run_underlying he w]
    cases de <;> simp_all [TypeDesc.isRow]
  cases hq : P.info? e with
  | none => simp [hq] at hs
  | some i =>
    have h1 : i.size = 1 := by simpa [hq] using hs
    have hlt : (k : Int) < (n : Int) := by omega
    have h0 : (0 : Int) ≤ (k : Int) := by omega
    simp [Instr.index, asIntOf, run_underlying hu, part, sizeOf, typeInfo, hq, h1, hagg, hlt, hk]

/-- Block g begins with n cells, the i-th f i; what is behind is not told. -/
def Row (w : World) (g : Nat) (t : TypeId) (n : Nat) (f : Nat → Value) : Prop := ∃ cs : Array Value, w.heap[g]? = some (.cells cs t (0, 0)) ∧ n ≤ cs.size ∧ ∀ i, i < n → cs[i]? = some (f i)
section row
variable {w w' : World} {g : Nat} {t : TypeId} {n : Nat} {f : Nat → Value} {T : Nat → Prop}
theorem Row.lt (h : Row w g t n f) : g < w.heap.size := by
  obtain ⟨cs, h, _⟩ := h
  rcases Nat.lt_or_ge g w.heap.size with hlt | hge
  · exact hlt
  · rw [Array.getElem?_eq_none hge] at h; cases h
theorem Row.cell (h : Row w g t n f) {i : Nat} (hi : i < n) : w.cell? ⟨g, i, none⟩ = some (f i) := by
  obtain ⟨cs, h, _, hc⟩ := h
  simp [World.cell?, h, hc i hi]
theorem Row.frozen (h : Row w g t n f) (i : Nat) : w.frozen? ⟨g, i, none⟩ = false := by
  obtain ⟨cs, h, _⟩ := h
  simp [World.frozen?, h]
theorem Row.upd (h : Row w g t n f) (hu : Upd T w w') (hT : ¬ T g) : Row w' g t n f := by
  have hl := h.lt
  obtain ⟨cs, h, r⟩ := h
  exact ⟨cs, (hu.block g hl hT).trans h, r⟩
theorem Row.ext (h : Row w g t n f) (hu : Ext w w') : Row w' g t n f := h.upd hu (fun h => h)
theorem Row.set (h : Row w g t n f) {i : Nat} (hi : i < n) (u : Value) : Row (w.setCell ⟨g, i, none⟩ u) g t n (put1 f i u) := by
  obtain ⟨cs, h, hn, hc⟩ := h
  refine ⟨cs.setIfInBounds i u, ?_, by simpa using hn, fun j hj => ?_⟩
  · simp [World.setCell, Array.getElem?_modify, h]
  · unfold put1
    by_cases hji : j = i
    · subst hji; have : j < cs.size := by omega
      simp [this]
    · rw [if_neg hji, Array.getElem?_setIfInBounds_ne (Ne.symm hji)]; exact hc j hj
theorem Row.congr {f' : Nat → Value} (h : Row w g t n f) (e : ∀ i, i < n → f i = f' i) : Row w g t n f' := by
  obtain ⟨cs, h, hn, hc⟩ := h
  exact ⟨cs, h, hn, fun i hi => by rw [hc i hi, e i hi]⟩
theorem Arr.row (h : Arr w g t n f) : Row w g t n f := ⟨_, h, by simp, fun i hi => by simp [hi]⟩
theorem Row.ne {g' : Nat} {t' : TypeId} {n' : Nat} {f' : Nat → Value} (h : Row w g t n f) (h' : Row w g' t' n' f') (hne : t ≠ t') : g ≠ g' := by
  rintro rfl
  obtain ⟨cs, h, _⟩ := h
  obtain ⟨cs', h', _⟩ := h'
  rw [h] at h'
  injection h' with h'
  injection h' with _ ht
  exact hne ht
theorem Row.sl {α : Type} [Inhabited α] {enc : α → Value} {xs : List α} (h : Row w g t xs.length (fun i => enc (gat xs i))) : Sl enc w (some ⟨g, 0, none⟩) xs :=
  Sl.of_cells fun i hi => by rw [Nat.zero_add]; exact h.cell hi
end row

theorem wpList_store_row {P : Program} {w : World} {ops : Array Oper} {rest : List Oper} {o : Oper} {a : Act} {Q : Exit → Act → World → Prop} {α : Type} (enc : α → Value) (henc : ∀ x, (enc x).oneCell' = true) (v : α)
    (hgd : o.guard = none) {T : TypeId} {p x : Operand}
    (ho : o.op = .store T p x) (hs : (P.info? T).map (·.size) = some 1) {g i : Nat} (hp : a.eval p = .pointer (some ⟨g, i, none⟩)) (hx : a.eval x = enc v) {t : TypeId} {n : Nat} {S : Nat → α}
    (hA : Row w g t n (fun i => enc (S i))) (hi : i < n) (h : ∀ w', Row w' g t n (fun j => enc (put1 S i v j)) → Upd (only g) w w' → wpList P ops Q rest (a.put o.dst undef) w') : wpList P ops Q (o :: rest) a w := by
  refine wpList_plain hgd fun K hK => ?_
  unfold Oper.wp execOp
  simp only [ho, hp, hx]
  rw [Sem.run_bind, run_storeAt_one w T _ (enc v) _ hs (henc v) (hA.cell hi) (hA.frozen i)]
  exact hK _ _ (h _ ((hA.set hi (enc v)).congr fun j _ => by unfold put1; split <;> rfl) ((Upd.refl (only g) w).setCell (p := ⟨g, i, none⟩) (.inl rfl) (enc v)))

/-- What the program's table says of a slice type T over e, one cell an element. -/
structure ElemI (P : Program) (T e : TypeId) (z : Value) (bytes : Nat) : Prop where
  under : P.underlying T = some (.slice e)
  info : (P.info? e).map (fun i => (i.zero, i.size, i.bytes)) = some (some z, 1, bytes)
  one : z.cells.size = 1

def inA (A : Option Addr) : Nat → Prop := fun k => A.map Addr.block = some k
/-- The slice at A, of the elements xs, is the call's own: its block lies from B on, at its head, and may be written and appended to. -/
def Own (w : World) (B : Nat) (e : TypeId) (A : Option Addr) (c : Nat) (xs : List Value) : Prop := w.ownsRow B e 1 (.slice A xs.length c) xs.length xs

section own
variable {w w' : World} {B : Nat} {e : TypeId} {A : Option Addr} {c : Nat} {xs : List Value} {T : Nat → Prop} {α : Type} [Inhabited α] {f : α → Value}
theorem Own.nil : Own w B e none 0 [] := World.ownsRow_nil w B e 1
theorem Own.in_ (h : Own w B e A c xs) {k : Nat} (hk : inA A k) : B ≤ k ∧ k < w.heap.size := by
  refine World.ownsRow.lt h k ?_
  unfold inA at hk
  cases A with
  | none => simp at hk
  | some a => simpa [Value.ownBlock] using hk
theorem Own.upd (h : Own w B e A c xs) (hu : Upd T w w') (hT : ∀ k, inA A k → ¬ T k) : Own w' B e A c xs := by
  obtain ⟨h1, h2⟩ := h
  refine ⟨h1, ?_⟩
  rcases h2 with h2 | ⟨g, cap, cur, hv, hb, hg, r⟩
  · exact .inl h2
  · refine .inr ⟨g, cap, cur, hv, hb, ?_, r⟩
    have hlt : g < w.heap.size := (Array.getElem?_eq_some_iff.1 hg).1
    injection hv with hA
    rw [hu.block g hlt (hT g (by rw [hA]; simp [inA]))]
    exact hg
theorem Own.ext (h : Own w B e A c xs) (hu : Ext w w') : Own w' B e A c xs := h.upd hu (fun _ _ h => h)
theorem Own.mono {B' : Nat} (h : Own w B e A c xs) (hB : B' ≤ B) : Own w B' e A c xs := by
  obtain ⟨h1, h2⟩ := h
  refine ⟨h1, ?_⟩
  rcases h2 with h2 | ⟨g, cap, cur, hv, hb, r⟩
  · exact .inl h2
  · exact .inr ⟨g, cap, cur, hv, by omega, r⟩
theorem Own.sl {ys : List α} (h : Own w B e A c (ys.map f)) : Sl f w A ys := by
  intro i hi
  rcases h.2 with ⟨_, h0⟩ | ⟨g, cap, cur, hv, hb, hg, hn, _, _, htake⟩
  · simp at h0; subst h0; simp at hi
  · injection hv with hA
    subst hA
    refine ⟨g, 0, rfl, ?_⟩
    rw [Nat.zero_add, cell_of_row w g i cur e (0, 0) hg]
    have h2 : (cur.toList.take ((ys.map f).length * 1))[i]? = (ys.map f)[i]? := by rw [htake]
    rw [List.getElem?_take, if_pos (by simpa using hi), List.getElem?_map, gat_some hi] at h2
    simpa using h2
theorem Own.cap (h : Own w B e A c xs) : xs.length ≤ c ∧ c ≤ maxLen := by
  rcases h.2 with ⟨h0, h1⟩ | ⟨g, cap, cur, hv, hb, hg, hn, hm, _⟩
  · injection h0 with _ h2 h3; subst h3; exact ⟨by omega, Nat.zero_le _⟩
  · injection hv with _ _ h3; subst h3; exact ⟨hn, hm⟩
theorem Own.open_ (h : Own w B e A c xs) (hn : 0 < xs.length) : ∃ g, A = some ⟨g, 0, none⟩ ∧ B ≤ g ∧ g < w.heap.size := by
  rcases h.2 with ⟨_, h0⟩ | ⟨g, cap, cur, hv, hb, hg, _⟩
  · omega
  · injection hv with hA
    exact ⟨g, hA, hb, (Array.getElem?_eq_some_iff.1 hg).1⟩
theorem Own.row {g : Nat} {ys : List α} (h : Own w B e (some ⟨g, 0, none⟩) c (ys.map f)) : Row w g e ys.length (fun i => f (gat ys i)) := by
  rcases h.2 with ⟨h0, _⟩ | ⟨g', cap, cur, hv, hb, hg, hn, _, hcs, htake⟩
  · simp at h0
  · injection hv with hA _ hcc
    injection hA with hA
    injection hA with hA
    subst hA
    refine ⟨cur, hg, ?_, fun i hi => ?_⟩
    · simp only [List.length_map] at hn; omega
    · have h2 : (cur.toList.take ((ys.map f).length * 1))[i]? = (ys.map f)[i]? := by rw [htake]
      rw [List.getElem?_take, if_pos (by simpa using hi), List.getElem?_map, gat_some hi] at h2
      simpa using h2
omit [Inhabited α] in
theorem Own.ne_row {g n : Nat} {t : TypeId} {F : Nat → Value} (h : Own w B e A c xs) (hA : Row w g t n F) (hne : e ≠ t) : ¬ inA A g := by
  intro hi
  rcases h.2 with ⟨h0, _⟩ | ⟨g', cap, cur, hv, hb, hg, _⟩
  · injection h0 with h0; subst h0; simp [inA] at hi
  · injection hv with hv; subst hv
    simp [inA] at hi
    subst hi
    obtain ⟨cs, h', _⟩ := hA
    rw [hg] at h'
    injection h' with h'
    injection h' with _ ht
    exact hne ht
omit [Inhabited α] in
theorem Own.ne_arr {g n : Nat} {t : TypeId} {F : Nat → Value} (h : Own w B e A c xs) (hA : Arr w g t n F) (hne : e ≠ t) : ¬ inA A g := h.ne_row hA.row hne
/-- Back: a row that has been written is owned still. -/
theorem Own.of_row {g : Nat} {xs' : List Value} (h : Own w B e (some ⟨g, 0, none⟩) c xs) (hg' : ∃ cs : Array Value, w'.heap[g]? = some (.cells cs e (0, 0)) ∧ cs.size = c ∧ ∀ i, i < xs'.length → cs[i]? = xs'[i]?) (hl : xs'.length = xs.length) : Own w' B e (some ⟨g, 0, none⟩) c xs' := by
  obtain ⟨cs, h1, h2, h3⟩ := hg'
  refine ⟨by simp, .inr ⟨g, c, cs, rfl, ?_, h1, ?_, h.cap.2, by omega, ?_⟩⟩
  · rcases h.2 with ⟨h0, _⟩ | ⟨g', cap, cur, hv, hb, _⟩
    · simp at h0
    · injection hv with hA; injection hA with hA; injection hA with hA; omega
  · rw [hl]; exact h.cap.1
  · apply List.ext_getElem?
    intro i
    rw [List.getElem?_take]
    have hc := h.cap.1
    split
    · rename_i hi
      rw [← h3 i (by omega)]
      simp
    · rename_i hi
      rw [List.getElem?_eq_none (by omega)]
omit [Inhabited α] in
theorem Own.set {g i : Nat} {ys : List α} (h : Own w B e (some ⟨g, 0, none⟩) c (ys.map f)) (hi : i < ys.length) (x : α) (hw : w' = w.setCell ⟨g, i, none⟩ (f x)) : Own w' B e (some ⟨g, 0, none⟩) c ((ys.set i x).map f) := by
  rcases h.2 with ⟨h0, _⟩ | ⟨g', cap, cur, hv, hb, hg, hn, hm, hcs, htake⟩
  · simp at h0
  · injection hv with hA _ hcc
    injection hA with hA
    injection hA with hA
    subst hA hcc
    refine h.of_row ⟨cur.setIfInBounds i (f x), ?_, by simp; omega, fun j hj => ?_⟩ (by simp)
    · subst hw; simp [World.setCell, Array.getElem?_modify, hg]
    · have h2 : (cur.toList.take ((ys.map f).length * 1))[j]? = (ys.map f)[j]? := by rw [htake]
      simp only [List.length_map, List.length_set] at hj
      rw [List.getElem?_take, if_pos (by simpa using hj)] at h2
      rw [List.getElem?_map, List.getElem?_set]
      simp only [List.length_map] at hn
      by_cases hij : i = j
      · subst hij; have : i < cur.size := by omega
        rw [if_pos rfl, if_pos hi]; simp [this]
      · rw [if_neg hij, Array.getElem?_setIfInBounds_ne hij, ← List.getElem?_map, ← h2]; simp
end own

theorem wpList_store_own {P : Program} {w : World} {ops : Array Oper} {rest : List Oper} {o : Oper} {a : Act} {Q : Exit → Act → World → Prop} {α : Type} [Inhabited α] (enc : α → Value) (henc : ∀ x, (enc x).oneCell' = true) (v : α)
    (hgd : o.guard = none) {T : TypeId} {p x : Operand}
    (ho : o.op = .store T p x) (hs : (P.info? T).map (·.size) = some 1) {g i : Nat} (hp : a.eval p = .pointer (some ⟨g, i, none⟩)) (hx : a.eval x = enc v) {B : Nat} {e : TypeId} {c : Nat} {ys : List α}
    (hO : Own w B e (some ⟨g, 0, none⟩) c (ys.map enc)) (hi : i < ys.length) (h : ∀ w', Own w' B e (some ⟨g, 0, none⟩) c ((ys.set i v).map enc) → Upd (only g) w w' → wpList P ops Q rest (a.put o.dst undef) w') : wpList P ops Q (o :: rest) a w := by
  refine wpList_plain hgd fun K hK => ?_
  unfold Oper.wp execOp
  simp only [ho, hp, hx]
  rw [Sem.run_bind, run_storeAt_one w T _ (enc v) _ hs (henc v) (hO.row.cell hi) (hO.row.frozen i)]
  exact hK _ _ (h _ (hO.set hi v rfl) ((Upd.refl (only g) w).setCell (p := ⟨g, i, none⟩) (.inl rfl) (enc v)))

section app
variable {P : Program} (w : World)
theorem run_append_of_nil (base : Nat) (t ty e : TypeId) (i : TypeInfo) (size : Nat) (ht : P.underlying t = some (.slice e)) (hi : P.info? e = some i)
    (v : Value) (n : Nat) (xs : List Value) (hown : w.ownsRow base e size v n xs) (c : Nat) : (Builtin.append_ #[t, t] ty #[v, .slice none 0 c]).run P w = .ok v w := by
  rcases hown.2 with ⟨rfl, rfl⟩ | ⟨g, cap, cur, rfl, _, _, hnc, _⟩
  · simp [Builtin.append_, run_underlying ht, sizeOf, typeInfo, hi, Builtin.lenOf, Builtin.firstCells]
  · simp [Builtin.append_, run_underlying ht, sizeOf, typeInfo, hi, Builtin.lenOf, Builtin.firstCells, hnc, storeCells]

theorem run_app {α : Type} [Inhabited α] (f : α → Value) (hone : ∀ x, (f x).oneCell' = true) {T ty e : TypeId} {z : Value} {bytes : Nat} (E : ElemI P T e z bytes) {B : Nat} {A : Option Addr} {c : Nat} {xs : List α}
    (hown : Own w B e A c (xs.map f)) {A2 : Option Addr} {m c2 : Nat} {ys : List α} (hm : m = ys.length) (hr : Sl f w A2 ys)
    (hbytes : (xs.length + ys.length) * bytes ≤ 140737488355328) (hlen : xs.length + ys.length ≤ maxLen) (hB : B ≤ w.heap.size) :
    ∃ A' c' w', (Builtin.append_ #[T, T] ty #[.slice A xs.length c, .slice A2 m c2]).run P w = .ok (.slice A' (xs.length + ys.length) c') w' ∧ Own w' B e A' c' ((xs ++ ys).map f) ∧ Upd (inA A) w w' ∧
      (∀ k, inA A' k → inA A k ∨ k = w.heap.size) := by
  subst hm
  obtain ⟨i, hi, hz, hs, hb⟩ := info_parts E.info
  have hown' : w.ownsRow B e 1 (.slice A xs.length c) xs.length (xs.map f) := by simpa [Own] using hown
  have key : ∃ v' w', (Builtin.append_ #[T, T] ty #[.slice A xs.length c, .slice A2 ys.length c2]).run P w = .ok v' w' ∧ w'.ownsRow B e 1 v' (xs.length + ys.length) (xs.map f ++ ys.map f) ∧
      w.grownBy w' (Value.ownBlock (.slice A xs.length c)) ∧ (v'.ownBlock = Value.ownBlock (.slice A xs.length c) ∨ v'.ownBlock = some w.heap.size) := by
    rcases Nat.eq_zero_or_pos ys.length with h0 | h0
    · have hy : ys = [] := List.eq_nil_of_length_eq_zero h0
      subst hy
      cases A2 with
      | none => exact ⟨_, w, run_append_of_nil w B T ty e i 1 E.under hi _ _ _ hown' c2, by simpa using hown', World.grownBy.refl w _, .inl rfl⟩
      | some ad =>
        obtain ⟨v', w', hrun, h2, h3, _, h5⟩ := run_append_own_at (P := P) w B T ty e i z 1 bytes E.under hi hz hs hb E.one (by omega) _ _ _ hown' ad 0 c2 [] (by simp) (by simp) (by simp) (by simpa using hlen) (by simpa using hbytes) hB
        exact ⟨v', w', hrun, by simpa using h2, h3, h5⟩
    · obtain ⟨b, o, rfl, _, _⟩ := hr.open_ h0
      obtain ⟨v', w', hrun, h2, h3, _, h5⟩ := run_append_own_at (P := P) w B T ty e i z 1 bytes E.under hi hz hs hb E.one (by omega) _ _ _ hown' ⟨b, o, none⟩ ys.length c2 (ys.map f) (by simp) (hr.news _ rfl)
        (fun u hu => by obtain ⟨x, _, rfl⟩ := List.mem_map.1 hu; exact hone x) hlen hbytes hB
      exact ⟨v', w', hrun, h2, h3, h5⟩
  obtain ⟨v', w', hrun, h2, h3, h5⟩ := key
  have hU : Upd (inA A) w w' := ⟨h3.os, h3.tape, h3.output, h3.size, fun k hk hn => h3.block k hk (fun e => hn (by
    unfold inA
    cases A with
    | none => simp [Value.ownBlock] at e
    | some a => simpa [Value.ownBlock] using e.symm))⟩
  have hform : ∃ A' c', v' = .slice A' (xs.length + ys.length) c' := by
    rcases h2.2 with ⟨h, hn⟩ | ⟨g, cap, cur, h, _⟩
    · exact ⟨none, 0, by rw [h, hn]⟩
    · exact ⟨_, _, h⟩
  obtain ⟨A', c', rfl⟩ := hform
  refine ⟨A', c', w', hrun, ?_, hU, fun k hk => ?_⟩
  · unfold Own; simpa using h2
  · unfold inA at hk ⊢
    cases A' with
    | none => simp at hk
    | some a' =>
      rcases h5 with h5 | h5
      · cases A with
        | none => simp [Value.ownBlock] at h5
        | some a => left; simp [Value.ownBlock] at h5 hk ⊢; omega
      · right; simp [Value.ownBlock] at h5 hk; omega

theorem wpList_app {α : Type} [Inhabited α] (f : α → Value) (hone : ∀ x, (f x).oneCell' = true) {ops : Array Oper} {rest : List Oper} {o : Oper} {a : Act} {Q : Exit → Act → World → Prop} (s x : Operand) {T e : TypeId} {z : Value} {bytes : Nat} (E : ElemI P T e z bytes)
    (hgd : o.guard = none) (ho : o.op = .call { callee := .builtin .append, args := #[s, x], argTypes := #[T, T] }) {B : Nat} {A : Option Addr} {n c : Nat} {xs : List α} (hs : a.eval s = .slice A n c) (hn : n = xs.length)
    (hown : Own w B e A c (xs.map f)) {A2 : Option Addr} {m c2 : Nat} {ys : List α} (hx : a.eval x = .slice A2 m c2) (hm : m = ys.length) (hr : Sl f w A2 ys)
    (hbytes : (xs.length + ys.length) * bytes ≤ 140737488355328) (hlen : xs.length + ys.length ≤ maxLen) (hB : B ≤ w.heap.size)
    (h : ∀ A' c' w', Own w' B e A' c' ((xs ++ ys).map f) → Upd (inA A) w w' → (∀ k, inA A' k → inA A k ∨ k = w.heap.size) → wpList P ops Q rest (a.put o.dst (.slice A' (xs.length + ys.length) c')) w') : wpList P ops Q (o :: rest) a w := by
  refine wpList_plain hgd fun K hK => ?_
  subst hn
  obtain ⟨A', c', w', hr, h2, h3, h4⟩ := run_app (P := P) w f hone (ty := o.type) E hown (c2 := c2) hm hr hbytes hlen hB
  unfold Oper.wp execOp
  simp only [ho, resolve, invoke, builtin, Sem.run_bind, Sem.run_pure, Result.andThen_ok, List.map_toArray, List.map_cons, List.map_nil, hs, hx, hr]
  exact hK _ _ (h A' c' w' h2 h3 h4)

theorem wpList_mk {ops : Array Oper} {rest : List Oper} {o : Oper} {a : Act} {Q : Exit → Act → World → Prop} (l c : Operand) {T e : TypeId} {z : Value} {bytes : Nat} (E : ElemI P T e z bytes)
    (hgd : o.guard = none) (ho : o.op = .makeSlice T l c) (n : Nat) {kl kc : IntKind} {L C : Int} (hl : a.eval l = .int kl L) (hc : a.eval c = .int kc C) (hL : L = (n : Int)) (hC : C = (n : Int)) (b2 : bytes * n ≤ 281474976710656) (b3 : n ≤ maxLen)
    {α : Type} [Inhabited α] (f : α → Value) (hz : f default = z) (hone : z.oneCell' = true) {B : Nat} (hB : B ≤ w.heap.size)
    (h : ∀ g w', Own w' B e (some ⟨g, 0, none⟩) n ((List.replicate n (default : α)).map f) → g = w.heap.size → Ext w w' → wpList P ops Q rest (a.put o.dst (.slice (some ⟨g, 0, none⟩) n n)) w') : wpList P ops Q (o :: rest) a w := by
  obtain ⟨i, hi, hz', hs, hb⟩ := info_parts E.info
  refine wpList_make_full w hgd l c T ho B e i z 1 E.under hi hz' hs kl kc L C n hl hc hL hC (by rw [hb]; exact b2) b3 hB fun w' hown hg => h w.heap.size w' ?_ rfl ⟨hg.os, hg.tape, hg.output, hg.size, fun k hk _ => hg.block k hk (by simp)⟩
  have hzc : z.cells = #[z] := by cases z <;> first | rfl | (simp [Value.oneCell'] at hone)
  have hcells : (madeCells z.cells (n * 1)).toList = (List.replicate n (default : α)).map f := by
    rw [hzc, Nat.mul_one, toList_madeCells_one, List.map_replicate, hz]
  have hl' : ((List.replicate n (default : α)).map f).length = n := by simp
  unfold Own
  rw [hl', ← hcells]
  exact hown
end app
end
/- More words on memory: a literal slice is owned; numbers of words divided by 256. -/
section
open Go.RowKit

theorem Own.lit {α : Type} (f : α → Value) (w : World) {B : Nat} (e : TypeId) (xs : List α) (hB : B ≤ w.heap.size) (hm : xs.length ≤ maxLen) :
    Own (w.alloc (.cells (xs.map f).toArray e)) B e (some ⟨w.heap.size, 0, none⟩) xs.length (xs.map f) := by
  have h := World.ownsRow_lit (base := B) (e := e) (size := 1) w (xs.map f).toArray xs.length hB hm (by simp)
  unfold Own
  simpa using h

theorem cls_narrowT {T : Nat → Prop} {w w' : World} (h : Upd T w w') : ∀ v, Cls (Ext w') v → Cls (Upd T w) v := by
  rintro _ ⟨x, rfl⟩
  exact ⟨⟨x.w, h.ext x.ok⟩, rfl⟩
/-- A guarded operation that is wanted, its guard struck: so that the laws on plain operations fit it. -/
theorem head_lw {P : Program} {ops : Array Oper} {C : World → Prop} {L : Act → World → Prop} {i : Nat} {r : List (Bool × Nat)} {o : Oper} {a : Act} {w : World} (ho : ops[i]? = some o) (hw : Region.wanted o (yielded ops a.tmps) = true)
    (h : wpList P ops (Exit.then (fun a' w' => ∃ C' : World → Prop, (∀ w, C' w → C w) ∧ C' w' ∧ wpHead P ops L r C' a' w') noQ) [⟨o.dst, o.op, o.type, o.pos, o.after, none⟩] a w) :
    wpHead P ops L ((true, i) :: r) C a w := by
  refine head_l ho ?_
  unfold wpList at h ⊢
  rw [if_pos hw]
  exact h
theorem gat_append_left {α : Type} [Inhabited α] {xs ys : List α} {i : Nat} (h : i < xs.length) : gat (xs ++ ys) i = gat xs i := by
  simp [gat, List.getD_eq_getElem?_getD, List.getElem?_append_left h]
theorem gat_append_right {α : Type} [Inhabited α] {xs ys : List α} {i : Nat} (h : xs.length ≤ i) : gat (xs ++ ys) i = gat ys (i - xs.length) := by
  simp [gat, List.getD_eq_getElem?_getD, List.getElem?_append_right h]
/-- append, told by the whole list that comes of it, and its length as the frame shall spell it. -/
theorem wpList_apd {P : Program} {w : World} {α : Type} [Inhabited α] (f : α → Value) (hone : ∀ x, (f x).oneCell' = true) {T e : TypeId} {z : Value} {bytes : Nat} (E : ElemI P T e z bytes) (xs ys zs : List α) (N : Nat) (hz : xs ++ ys = zs) (hN : zs.length = N)
    (hb : N * bytes ≤ 140737488355328) (hm : N ≤ maxLen) {ops : Array Oper} {rest : List Oper} {o : Oper} {a : Act} {Q : Exit → Act → World → Prop} {s x : Operand}
    (hgd : o.guard = none) (ho : o.op = .call { callee := .builtin .append, args := #[s, x], argTypes := #[T, T] }) {B : Nat} {A : Option Addr} {n c : Nat} (hs : a.eval s = .slice A n c) (hn : xs.length = n)
    (hown : Own w B e A c (xs.map f)) {A2 : Option Addr} {m c2 : Nat} (hx : a.eval x = .slice A2 m c2) (hym : ys.length = m) (hr : Sl f w A2 ys) (hB : B ≤ w.heap.size)
    (h : ∀ A' c' w', Own w' B e A' c' (zs.map f) → Upd (inA A) w w' → (∀ k, inA A' k → inA A k ∨ k = w.heap.size) → wpList P ops Q rest (a.put o.dst (.slice A' N c')) w') : wpList P ops Q (o :: rest) a w := by
  have e1 : xs.length + ys.length = N := by rw [← hN, ← hz, List.length_append]
  refine wpList_app w f hone s x E hgd ho hs hn.symm hown hx hym.symm hr (by rw [e1]; exact hb) (by rw [e1]; exact hm) hB fun A' c' w' h1 h2 h3 => ?_
  rw [e1]
  exact h A' c' w' (by rw [← hz]; exact h1) h2 h3

theorem mulc_u32 (x : BitVec 32) : IntKind.u32.wrap (256 * n32 x) = n32 (256 * x) := mul_u32 256 x
theorem rem256_u32 (x : BitVec 32) : (n32 x).tmod 256 = n32 (x % 256) := by
  rw [Int.tmod_eq_emod_of_nonneg (n32_bd x).1]
  unfold n32
  rw [BitVec.toNat_umod]
  rfl
theorem quo256_u32 (x : BitVec 32) : IntKind.u32.wrap ((n32 x).tdiv 256) = n32 (x >>> 8) := by
  rw [IntWalk.u32_quo _ _ ⟨(n32_bd x).1, (n32_bd x).2, by omega⟩]
  exact shr8_u32 x
theorem umod_setWidth (x : BitVec 32) : (x % 256).setWidth 8 = x.setWidth 8 := by
  apply BitVec.eq_of_toNat_eq
  simp [BitVec.toNat_umod]
end
/- Numbers that the kernel reckons step by step: 'force' hands on a numeral, not a term. -/
section

def force {α : Type} (n : Nat) (f : Nat → α) : α := Nat.rec (f 0) (fun k _ => f (k + 1)) n
theorem force_eq {α : Type} (n : Nat) (f : Nat → α) : force n f = f n := by cases n <;> rfl
def forceL {α : Type} : List Nat → (List Nat → α) → α
  | [], f => f []
  | x :: xs, f => force x fun x => forceL xs fun xs => f (x :: xs)
theorem forceL_eq {α : Type} (l : List Nat) (f : List Nat → α) : forceL l f = f l := by
  induction l generalizing f with
  | nil => rfl
  | cons x xs ih => simp only [forceL, force_eq, ih]
end
/- Bytes as strings, and bytes that come in as arguments. -/
section
open Go.RowKit

def str (bs : List (BitVec 8)) : ByteArray := ⟨(bs.map fun b => UInt8.ofBitVec b).toArray⟩
theorem str_inj {a b : List (BitVec 8)} (h : str a = str b) : a = b := by
  unfold str at h
  injection h with h
  have h := congrArg Array.toList h
  simp only [List.map_inj_right (f := fun b : BitVec 8 => UInt8.ofBitVec b) (fun x y e => by injection e)] at h
  exact h
theorem str_eq (a b : List (BitVec 8)) : ((str a).toList == (str b).toList) = decide (a = b) := by
  by_cases h : a = b
  · subst h; simp
  · rw [decide_eq_false h]
    apply beq_eq_false_iff_ne.2
    intro e
    rw [ByteArray.toList_eq, ByteArray.toList_eq] at e
    refine h (str_inj ?_)
    have : (str a).data = (str b).data := Array.toList_inj.1 e
    cases ha : str a; cases hb : str b
    rw [ha, hb] at this
    simp only at this
    rw [this]

theorem run_str {P : Program} {T e S : TypeId} (hT : P.underlying T = some (.slice e)) (he : P.underlying e = some (.int .u8)) (hd : P.underlying S = some .string) {w : World} {A : Option Addr} {n c : Nat} {bs : List (BitVec 8)}
    (hS : Sl by8 w A bs) (hn : bs.length = n) : (convert T S (.slice A n c)).run P w = .ok (.string (str bs)) w := by
  subst hn
  rw [run_convert_bytes_string w T S e A bs.length c hT he hd]
  have hmap : bs.map by8 = (bs.map n8).map (Value.int .u8) := by rw [List.map_map]; rfl
  have hfin : (bs.map n8).foldl (fun r n => r.push (UInt8.ofNat n.toNat)) ByteArray.empty = str bs := by
    rw [foldl_push_bytes, show ByteArray.empty.data = #[] from rfl, Array.empty_append, List.map_map]
    unfold str
    congr 2
    apply List.map_congr_left
    intro b _
    show UInt8.ofNat (n8 b).toNat = _
    unfold n8
    rw [Int.toNat_natCast]
    apply UInt8.eq_of_toBitVec_eq
    simp
  rcases Nat.eq_zero_or_pos bs.length with h0 | h0
  · have hb : bs = [] := List.eq_nil_of_length_eq_zero h0
    subst hb
    cases A with
    | none => simp [Conv.bytesToString, str]; rfl
    | some a =>
      rw [run_bytesToString w a _ c [] (by simp [loadCells, loadCellsFrom, Sem.run_pure])]
      simp [str, ByteArray.empty, ByteArray.emptyWithCapacity]; rfl
  · obtain ⟨b, o, rfl, _, _⟩ := hS.open_ h0
    rw [run_bytesToString w ⟨b, o, none⟩ _ c (bs.map n8) ?_, hfin]
    have h := run_loadCells_list (P := P) w ⟨b, o, none⟩ (bs.map by8) (hS.news _ rfl)
    rw [List.length_map] at h
    rw [h, hmap]

/-- A slice of bytes that came in, as bytes. -/
theorem bytes_in {w : World} {a : Option Addr} {len cap : Nat} {zs : List Int}
    (h : (a = none ∧ len = 0 ∧ cap = 0 ∧ zs = []) ∨ ∃ x, a = some x ∧ len ≤ cap ∧ cap ≤ maxLen ∧ zs.length = cap ∧ (∀ i, i < zs.length → w.cell? (x.add i) = some (.int .u8 (zs.getD i 0))) ∧ ∀ n ∈ zs, (Lit.int .u8 n).wf = true) :
    ∃ bs : List (BitVec 8), bs.length = len ∧ len ≤ cap ∧ cap ≤ maxLen ∧ Sl by8 w a bs := by
  rcases h with ⟨rfl, rfl, rfl, rfl⟩ | ⟨x, rfl, hl, hm, hz, hc, hw⟩
  · exact ⟨[], rfl, Nat.le_refl _, Nat.zero_le _, Sl.nil⟩
  · refine ⟨(zs.take len).map (BitVec.ofInt 8), by simp; omega, hl, hm, fun i hi => ?_⟩
    simp only [List.length_map, List.length_take] at hi
    have h0 := hc i (by omega)
    have hx : x.spot = none := by
      have h1 := hc 0 (by omega)
      cases hs : x.spot with
      | none => rfl
      | some s =>
        simp only [Addr.add, if_true] at h1
        unfold World.cell? at h1
        rw [hs] at h1
        split at h1 <;> simp at h1
    obtain ⟨b, o, s⟩ := x
    simp only at hx
    subst hx
    refine ⟨b, o, rfl, ?_⟩
    have e1 : (⟨b, o, none⟩ : Addr).add i = ⟨b, o + i, none⟩ := by unfold Addr.add; split <;> simp_all
    rw [e1] at h0
    rw [h0]
    have hmem : zs.getD i 0 ∈ zs := by
      rw [List.getD_eq_getElem?_getD, List.getElem?_eq_getElem (by omega)]
      exact List.getElem_mem _
    have hb := hw _ hmem
    have hbd : 0 ≤ zs.getD i 0 ∧ zs.getD i 0 ≤ 255 := by
      simp [Lit.wf, IntKind.min, IntKind.max, IntKind.signed, IntKind.bits] at hb
      simpa using hb
    have hg : gat ((zs.take len).map (BitVec.ofInt 8)) i = BitVec.ofInt 8 (zs.getD i 0) := by
      simp only [gat, List.getD_eq_getElem?_getD, List.getElem?_map, List.getElem?_take]
      rw [if_pos (by omega), List.getElem?_eq_getElem (by omega)]
      rfl
    rw [hg]
    obtain ⟨k, hk⟩ := Int.eq_ofNat_of_zero_le hbd.1
    rw [hk]
    unfold by8 n8
    rw [BitVec.ofInt_natCast, BitVec.toNat_ofNat, Nat.mod_eq_of_lt (by omega)]

/-- A word that came in. -/
theorem u32_in {x : Int} (h : (Lit.int .u32 x).wf = true) : ∃ b : BitVec 32, x = n32 b := by
  have hb : 0 ≤ x ∧ x ≤ 4294967295 := by
    simpa [Lit.wf, IntKind.min, IntKind.max, IntKind.signed, IntKind.bits] using h
  obtain ⟨k, rfl⟩ := Int.eq_ofNat_of_zero_le hb.1
  exact ⟨BitVec.ofNat 32 k, by unfold n32; rw [BitVec.toNat_ofNat, Nat.mod_eq_of_lt (by omega)]⟩
theorem u8_in {x : Int} (h : (Lit.int .u8 x).wf = true) : ∃ b : BitVec 8, x = n8 b := by
  have hb : 0 ≤ x ∧ x ≤ 255 := by
    simpa [Lit.wf, IntKind.min, IntKind.max, IntKind.signed, IntKind.bits] using h
  obtain ⟨k, rfl⟩ := Int.eq_ofNat_of_zero_le hb.1
  exact ⟨BitVec.ofNat 8 k, by unfold n8; rw [BitVec.toNat_ofNat, Nat.mod_eq_of_lt (by omega)]⟩
end
/- A slice that the call owns and that may begin within its block (what 's = s[k:]' leaves): reading, appending; loads of the head of a block; copies into a block. -/
section
open Go.RowKit

/-- The slice at A, of the elements xs and the capacity c, is the call's own: its block lies from B on and its cells may be written. -/
def Ows (w : World) (B : Nat) (e : TypeId) (A : Option Addr) (c : Nat) (xs : List Value) : Prop :=
  xs.length ≤ c ∧ c ≤ maxLen ∧ ((A = none ∧ c = 0) ∨ ∃ g o cur, A = some ⟨g, o, none⟩ ∧ B ≤ g ∧ w.heap[g]? = some (.cells cur e (0, 0)) ∧ o + c ≤ cur.size ∧ ∀ i, i < xs.length → cur[o + i]? = xs[i]?)

section ows
variable {w w' : World} {B : Nat} {e : TypeId} {A : Option Addr} {c : Nat} {xs : List Value} {T : Nat → Prop} {α : Type} [Inhabited α] {f : α → Value}
theorem Ows.nil : Ows w B e none 0 [] := ⟨by simp, Nat.zero_le _, .inl ⟨rfl, rfl⟩⟩
theorem Ows.in_ (h : Ows w B e A c xs) {k : Nat} (hk : inA A k) : B ≤ k ∧ k < w.heap.size := by
  rcases h.2.2 with ⟨rfl, _⟩ | ⟨g, o, cur, rfl, hb, hg, _⟩
  · simp [inA] at hk
  · simp [inA] at hk
    subst hk
    exact ⟨hb, (Array.getElem?_eq_some_iff.1 hg).1⟩
theorem Ows.upd (h : Ows w B e A c xs) (hu : Upd T w w') (hT : ∀ k, inA A k → ¬ T k) : Ows w' B e A c xs := by
  refine ⟨h.1, h.2.1, ?_⟩
  rcases h.2.2 with h2 | ⟨g, o, cur, rfl, hb, hg, r⟩
  · exact .inl h2
  · exact .inr ⟨g, o, cur, rfl, hb, (hu.block g (Array.getElem?_eq_some_iff.1 hg).1 (hT g (by simp [inA]))).trans hg, r⟩
theorem Ows.ext (h : Ows w B e A c xs) (hu : Ext w w') : Ows w' B e A c xs := h.upd hu (fun _ _ h => h)
theorem Ows.ne_arr {g n : Nat} {t : TypeId} {F : Nat → Value} (h : Ows w B e A c xs) (hA : Arr w g t n F) (hne : e ≠ t) : ¬ inA A g := by
  intro hi
  rcases h.2.2 with ⟨rfl, _⟩ | ⟨g', o, cur, rfl, hb, hg, _⟩
  · simp [inA] at hi
  · simp [inA] at hi
    subst hi
    unfold Arr at hA
    rw [hg] at hA
    injection hA with hA
    injection hA with _ ht
    exact hne ht
theorem Own.ows (h : Own w B e A c xs) : Ows w B e A c xs := by
  refine ⟨h.cap.1, h.cap.2, ?_⟩
  rcases h.2 with ⟨h0, _⟩ | ⟨g, cap, cur, hv, hb, hg, hn, _, hcs, htake⟩
  · injection h0 with h1 h2 h3; exact .inl ⟨h1, h3⟩
  · injection hv with h1 h2 h3
    subst h1 h3
    refine .inr ⟨g, 0, cur, rfl, hb, hg, by omega, fun i hi => ?_⟩
    rw [Nat.zero_add]
    have h2 : (cur.toList.take (xs.length * 1))[i]? = xs[i]? := by rw [htake]
    rw [List.getElem?_take, if_pos (by omega)] at h2
    simpa using h2
theorem Ows.low (h : Ows w B e A c xs) {B' : Nat} (hb : B' ≤ B) : Ows w B' e A c xs := by
  refine ⟨h.1, h.2.1, ?_⟩
  rcases h.2.2 with h2 | ⟨g, o, cur, hA, hb', r⟩
  · exact .inl h2
  · exact .inr ⟨g, o, cur, hA, by omega, r⟩
theorem Ows.sl {ys : List α} (h : Ows w B e A c (ys.map f)) : Sl f w A ys := by
  intro i hi
  have h1 := h.1
  rw [List.length_map] at h1
  rcases h.2.2 with ⟨_, h0⟩ | ⟨g, o, cur, rfl, hb, hg, hs, hc⟩
  · omega
  · refine ⟨g, o, rfl, ?_⟩
    rw [cell_of_row w g (o + i) cur e (0, 0) hg, hc i (by simpa using hi), List.getElem?_map, gat_some hi]
    rfl
theorem Ows.form (h : Ows w B e A c (xs)) (hn : 0 < xs.length) : ∃ g o, A = some ⟨g, o, none⟩ := by
  rcases h.2.2 with ⟨_, h0⟩ | ⟨g, o, cur, rfl, _⟩
  · have := h.1; omega
  · exact ⟨g, o, rfl⟩
/-- What 's[k:]' leaves. -/
theorem Ows.drop {g o : Nat} (h : Ows w B e (some ⟨g, o, none⟩) c xs) {k : Nat} (hk : k ≤ xs.length) : Ows w B e (some (if c = k then ⟨g, o, none⟩ else ⟨g, o + k, none⟩)) (c - k) (xs.drop k) := by
  have h1 := h.1
  refine ⟨by simp; omega, by have := h.2.1; omega, ?_⟩
  rcases h.2.2 with ⟨h0, _⟩ | ⟨g', o', cur, hA, hb, hg, hs, hc⟩
  · cases h0
  · cases hA
    by_cases hck : c = k
    · rw [if_pos hck]
      exact .inr ⟨g, o, cur, rfl, hb, hg, by omega, fun i hi => by simp at hi; omega⟩
    · rw [if_neg hck]
      refine .inr ⟨g, o + k, cur, rfl, hb, hg, by omega, fun i hi => ?_⟩
      simp at hi
      rw [Nat.add_assoc, hc (k + i) (by omega), List.getElem?_drop]
end ows

section app
variable {P : Program} (w : World)
theorem run_append_room_o (t tx ty e : TypeId) (i : TypeInfo) (ht : P.underlying t = some (.slice e)) (hi : P.info? e = some i) (hs1 : i.size = 1) (g o sLen sCap : Nat) (cur : Array Value) (hg : w.heap[g]? = some (.cells cur e (0, 0))) (x : Value) (n : Nat) (news : List Value)
    (hs : Src P i.size tx x n news w) (hroom : sLen + n ≤ sCap) (hfit : o + sLen + news.length ≤ cur.size) :
    (Builtin.append_ #[t, tx] ty #[.slice (some ⟨g, o, none⟩) sLen sCap, x]).run P w = .ok (.slice (some ⟨g, o, none⟩) (sLen + n) sCap) (w.setRow g (cur.toList.take (o + sLen) ++ news ++ cur.toList.drop (o + sLen + news.length)).toArray) := by
  have hst := run_storeCells_at P g (o + sLen) e news 0 cur w hg (by simpa using hfit) hs.one
  simp only [Nat.add_zero] at hst
  rcases hs.kind with ⟨e', hk⟩ | hk <;> simp [Builtin.append_, run_underlying ht, run_underlying hk, sizeOf, typeInfo, hi, hs1, hs.len, hroom, hs1 ▸ hs.cells, Addr.add_lit, hst]

theorem run_apo {α : Type} [Inhabited α] (f : α → Value) (hone : ∀ x, (f x).oneCell' = true) {T ty e : TypeId} {z : Value} {bytes : Nat} (E : ElemI P T e z bytes) {B : Nat} {A : Option Addr} {c : Nat} {xs : List α}
    (hown : Ows w B e A c (xs.map f)) {A2 : Option Addr} {m c2 : Nat} {ys : List α} (hm : m = ys.length) (hr : Sl f w A2 ys)
    (hbytes : (xs.length + ys.length) * bytes ≤ 140737488355328) (hlen : xs.length + ys.length ≤ maxLen) (hB : B ≤ w.heap.size) :
    ∃ A' c' w', (Builtin.append_ #[T, T] ty #[.slice A xs.length c, .slice A2 m c2]).run P w = .ok (.slice A' (xs.length + ys.length) c') w' ∧ Ows w' B e A' c' ((xs ++ ys).map f) ∧ Upd (inA A) w w' ∧
      (∀ k, inA A' k → inA A k ∨ k = w.heap.size) := by
  subst hm
  obtain ⟨i, hi, hz, hs, hb⟩ := info_parts E.info
  have hsmall : xs.length + ys.length ≤ 9223372036854775807 := by simp only [maxLen] at hlen; omega
  have src : Src P i.size T (.slice A2 ys.length c2) ys.length (ys.map f) w := by
    rw [hs]
    cases A2 with
    | none =>
      have : ys = [] := by
        rcases Nat.eq_zero_or_pos ys.length with h0 | h0
        · exact List.eq_nil_of_length_eq_zero h0
        · obtain ⟨b, o, h, _⟩ := hr.open_ h0; cases h
      subst this
      exact Src.ofNil w E.under c2
    | some ad => exact Src.ofSlice w E.under ad _ c2 _ (by simp) (hr.news ad rfl) (fun u hu => by obtain ⟨x, _, rfl⟩ := List.mem_map.1 hu; exact hone x)
  have hlc := hown.1
  rw [List.length_map] at hlc
  by_cases hroom : xs.length + ys.length ≤ c
  · rcases hown.2.2 with ⟨rfl, rfl⟩ | ⟨g, o, cur, rfl, hbg, hg, hsz, hcell⟩
    · have h0 : xs = [] := List.eq_nil_of_length_eq_zero (by omega)
      have h1 : ys = [] := List.eq_nil_of_length_eq_zero (by omega)
      subst h0 h1
      refine ⟨none, 0, w, ?_, Ows.nil, Upd.refl _ _, fun k hk => .inl hk⟩
      have := src.len
      cases A2 with
      | none => simp [Builtin.append_, run_underlying E.under, sizeOf, typeInfo, hi, Builtin.lenOf, Builtin.firstCells]
      | some ad => simp [Builtin.append_, run_underlying E.under, sizeOf, typeInfo, hi, Builtin.lenOf, Builtin.firstCells, loadCells, loadCellsFrom]
    · have hgl : g < w.heap.size := (Array.getElem?_eq_some_iff.1 hg).1
      refine ⟨_, _, _, run_append_room_o w T T ty e i E.under hi hs g o xs.length c cur hg _ _ _ src hroom (by simp; omega), ?_, ⟨rfl, rfl, rfl, by simp, fun k _ hk => setRow_other w g k _ (fun e => hk (by simp [inA, e]))⟩, fun k hk => .inl hk⟩
      refine ⟨by simp; omega, hown.2.1, .inr ⟨g, o, _, rfl, hbg, setRow_heap w g cur _ e _ hg, ?_, fun j hj => ?_⟩⟩
      · simp only [List.size_toArray, List.length_append, List.length_take, List.length_drop, Array.length_toList, List.length_map]
        omega
      · simp only [List.length_map, List.length_append] at hj
        have hcs : o + xs.length ≤ cur.size := by omega
        rw [List.getElem?_toArray, List.map_append]
        by_cases hjx : j < xs.length
        · rw [List.append_assoc, List.getElem?_append_left (by simp; omega), List.getElem?_take, if_pos (by omega), List.getElem?_append_left (by simpa using hjx)]
          have := hcell j (by simpa using hjx)
          simpa using this
        · rw [List.append_assoc, List.getElem?_append_right (by simp; omega), List.getElem?_append_left (by simp; omega), List.getElem?_append_right (by simp; omega)]
          congr 1
          simp
          omega
  · have hg : c < xs.length + ys.length := by omega
    have hold : (Builtin.firstCells i.size xs.length (.slice A xs.length c)).run P w.drew = .ok (xs.map f).toArray w.drew := by
      cases A with
      | none =>
        have h0 : xs = [] := by
          rcases hown.2.2 with ⟨_, rfl⟩ | ⟨g, o, cur, h, _⟩
          · exact List.eq_nil_of_length_eq_zero (by omega)
          · cases h
        subst h0
        exact run_firstCells_none w.drew i.size _ _ c
      | some ad => exact run_firstCells_some w.drew i.size xs.length ad _ c (xs.map f) (by rw [hs, Nat.mul_one, List.length_map]) (fun j u hu => hown.sl.news ad rfl j u hu)
    have hge := grownCap_ge w (xs.length + ys.length) c e
    have hcm : grownCap w (xs.length + ys.length) c e ≤ maxLen := grownCap_le_maxLen w _ c e hlen
    refine ⟨_, _, _, run_append_grow_src w T T ty e i z E.under hi hz A xs.length c _ hold _ _ _ src hg (by omega) (growslice_fits hg (by rw [hb]; exact hbytes)), ?_, ?_, fun k hk => .inr (by simpa [inA] using hk.symm)⟩
    · refine ⟨by simp; omega, hcm, .inr ⟨w.heap.size, 0, _, rfl, hB, heap_alloc_new w.drew _, ?_, fun j hj => ?_⟩⟩
      · simp only [Array.size_append, List.size_toArray, size_zeroCells, List.length_append, List.length_map, E.one]
        omega
      · rw [Nat.zero_add, Array.getElem?_append_left (by simpa using hj), List.getElem?_toArray, List.map_append]
    · exact ⟨rfl, rfl, rfl, by simp, fun k hk _ => heap_alloc_old w.drew _ hk⟩

theorem wpList_apo {α : Type} [Inhabited α] (f : α → Value) (hone : ∀ x, (f x).oneCell' = true) {T e : TypeId} {z : Value} {bytes : Nat} (E : ElemI P T e z bytes) (xs ys zs : List α) (N : Nat) (hz : xs ++ ys = zs) (hN : zs.length = N)
    (hb : N * bytes ≤ 140737488355328) (hm : N ≤ maxLen) {ops : Array Oper} {rest : List Oper} {o : Oper} {a : Act} {Q : Exit → Act → World → Prop} {s x : Operand}
    (hgd : o.guard = none) (ho : o.op = .call { callee := .builtin .append, args := #[s, x], argTypes := #[T, T] }) {B : Nat} {A : Option Addr} {n c : Nat} (hs : a.eval s = .slice A n c) (hn : xs.length = n)
    (hown : Ows w B e A c (xs.map f)) {A2 : Option Addr} {m c2 : Nat} (hx : a.eval x = .slice A2 m c2) (hym : ys.length = m) (hr : Sl f w A2 ys) (hB : B ≤ w.heap.size)
    (h : ∀ A' c' w', Ows w' B e A' c' (zs.map f) → Upd (inA A) w w' → (∀ k, inA A' k → inA A k ∨ k = w.heap.size) → wpList P ops Q rest (a.put o.dst (.slice A' N c')) w') : wpList P ops Q (o :: rest) a w := by
  have e1 : xs.length + ys.length = N := by rw [← hN, ← hz, List.length_append]
  refine wpList_plain hgd fun K hK => ?_
  subst hn
  obtain ⟨A', c', w', hr, h2, h3, h4⟩ := run_apo (P := P) w f hone (ty := o.type) E hown (c2 := c2) hym.symm hr (by rw [e1]; exact hb) (by rw [e1]; exact hm) hB
  rw [e1] at hr
  rw [hz] at h2
  unfold Oper.wp execOp
  simp only [ho, resolve, invoke, builtin, Sem.run_bind, Sem.run_pure, Result.andThen_ok, List.map_toArray, List.map_cons, List.map_nil, hs, hx, hr]
  exact hK _ _ (h A' c' w' h2 h3 h4)
end app

section head
variable {P : Program} {w : World} {ops : Array Oper} {rest : List Oper} {o : Oper} {a : Act} {Q : Exit → Act → World → Prop}
theorem run_loadVar_head {g : Nat} {t ty e : TypeId} {n N : Nat} {f : Nat → Value} (hA : Arr w g t N f) (hn : n ≤ N) (hu : P.underlying ty = some (.array n e)) (hi : (P.info? ty).map (·.size) = some n) :
    (loadVar ty ⟨g, 0, none⟩).run P w = .ok (.agg (Array.ofFn fun i : Fin n => f i)) w := by
  have hl := run_loadCells_list (P := P) w ⟨g, 0, none⟩ (Array.ofFn fun i : Fin n => f i).toList (fun j v hv => by
    have hadd : (⟨g, 0, none⟩ : Addr).add j = ⟨g, j, none⟩ := by unfold Addr.add; split <;> simp_all
    have hj : j < n := by
      rcases Nat.lt_or_ge j n with h | h
      · exact h
      · rw [List.getElem?_eq_none (by simpa using h)] at hv; cases hv
    rw [hadd, hA.cell (by omega), ← hv]
    simp [hj])
  cases hq : P.info? ty with
  | none => simp [hq] at hi
  | some i =>
    have hs : i.size = n := by simpa [hq] using hi
    have hagg : (isAgg ty).run P w = .ok true w := by
      unfold isAgg
      rw [Sem.run_bind, run_underlying hu w]
      rfl
    simp only [Array.length_toList, Array.size_ofFn, Array.toArray_toList] at hl
    simp [loadVar, Sem.run_bind, hagg, sizeOf, typeInfo, hq, hs, hl]
/-- The head of a block is loaded as an array. -/
theorem wpList_load_head (hgd : o.guard = none) {ty : TypeId} {x : Operand} (ho : o.op = .load ty x)
    {g : Nat} (hx : a.eval x = .pointer (some ⟨g, 0, none⟩)) {t : TypeId} {n N : Nat} {f : Nat → Value} (hA : Arr w g t N f) (hn : n ≤ N) {e : TypeId} (hu : P.underlying ty = some (.array n e)) (hi : (P.info? ty).map (·.size) = some n)
    (h : wpList P ops Q rest (a.put o.dst (.agg (Array.ofFn fun i : Fin n => f i))) w) : wpList P ops Q (o :: rest) a w := by
  refine wpList_plain hgd fun K hK => ?_
  unfold Oper.wp execOp
  simp only [ho, hx, Instr.loadAt, Instr.sureAddr, Sem.run_bind, Sem.run_pure, Result.andThen_ok, run_loadVar_head hA hn hu hi]
  exact hK _ _ h

/-- A copy into a block. -/
theorem wpList_copy_arr {α : Type} [Inhabited α] (enc : α → Value) (hone : ∀ x, (enc x).oneCell' = true) (xs : List α) (hgd : o.guard = none) {d s : Operand} {dT sT el : TypeId} (ho : o.op = .call { callee := .builtin .copy, args := #[d, s], argTypes := #[dT, sT] })
    (hu : P.underlying dT = some (.slice el)) (hsz : (P.info? el).map (·.size) = some 1) {g p dl dc : Nat} (hd : a.eval d = .slice (some ⟨g, p, none⟩) dl dc) {A : Option Addr} {sl sc : Nat} (hsv : a.eval s = .slice A sl sc)
    (hx : Sl enc w A xs) (h0 : 0 < xs.length) (hl : xs.length = Nat.min sl dl) {t : TypeId} {n : Nat} {f : Nat → Value} (hA : Arr w g t n f) (hfit : p + xs.length ≤ n)
    (h : ∀ w', Arr w' g t n (fun j => if p ≤ j ∧ j < p + xs.length then enc (gat xs (j - p)) else f j) → Upd (only g) w w' → wpList P ops Q rest (a.put o.dst (goInt xs.length)) w') : wpList P ops Q (o :: rest) a w := by
  obtain ⟨b, so, rfl, _, _⟩ := hx.open_ h0
  have hA' := hA
  unfold Arr at hA'
  have hrun := run_copy_row (P := P) w dT sT o.type el g p dl dc ⟨b, so, none⟩ sl sc _ t (xs.map enc) hu hsz hA' (by simpa using hl) (hx.news _ rfl) (by simpa using hfit) (fun u hu => by obtain ⟨x, _, rfl⟩ := List.mem_map.1 hu; exact hone x)
  refine wpList_plain hgd fun K hK => ?_
  unfold Oper.wp execOp
  simp only [ho, resolve, invoke, builtin, Sem.run_bind, Sem.run_pure, Result.andThen_ok, List.map_toArray, List.map_cons, List.map_nil, hd, hsv, hrun, List.length_map]
  refine hK _ _ (h _ ?_ ⟨rfl, rfl, rfl, by simp, fun k _ hk => setRow_other w g k _ (fun e => hk (by simp [only, e]))⟩)
  unfold Arr
  rw [setRow_heap w g _ _ t (0, 0) hA']
  congr 2
  apply Array.ext
  · simp; omega
  · intro j h1 h2
    simp only [Array.size_ofFn] at h2
    apply Option.some.inj
    rw [← Array.getElem?_eq_getElem h1, List.getElem?_toArray, Array.getElem_ofFn]
    dsimp only
    by_cases h3 : p ≤ j ∧ j < p + xs.length
    · rw [if_pos h3, List.append_assoc, List.getElem?_append_right (by simp; omega), List.getElem?_append_left (by simp; omega), List.getElem?_map, gat_some (by simp; omega)]
      simp
      congr 2
      omega
    · rw [if_neg h3]
      by_cases h4 : j < p
      · rw [List.append_assoc, List.getElem?_append_left (by simp; omega), List.getElem?_take, if_pos h4]
        simp [h2]
      · rw [List.getElem?_append_right (by simp; omega), List.getElem?_drop]
        simp
        rw [show p + xs.length + (j - (min p n + xs.length)) = j by omega]
        simp [h2]
end head
end
/- A region whose order is open, by a tree: as by a plan, and where two loud operations may come, the walk goes both ways. -/
section

inductive Tr where
  | done : Tr
  | q : Nat → Tr → Tr
  | l : Nat → Tr → Tr
  | two : Nat → Nat → Tr → Tr → Tr

section
variable {P : Program} {ops : Array Oper} {md : Region.Mode} {C : World → Prop}

def treeB (md : Region.Mode) (ops : Array Oper) (n g : Nat) : Nat → Tr → Array Bool → Bool
  | 0, .done, listed => Region.seqB md ops g n listed
  | f + 1, .q i r, listed => decide (i < n) && (Region.ready md ops listed).contains i && Region.free md ops listed i && treeB md ops n g f r (listed.setIfInBounds i true)
  | f + 1, .l i r, listed => decide (i < n) && decide (Region.ready md ops listed = [i]) && treeB md ops n g f r (listed.setIfInBounds i true)
  | f + 1, .two i j r s, listed => decide (i < n) && decide (j < n) && decide (Region.ready md ops listed = [i, j]) && treeB md ops n g f r (listed.setIfInBounds i true) && treeB md ops n g f s (listed.setIfInBounds j true)
  | _, _, _ => false

def wpTree (P : Program) (ops : Array Oper) (L : Act → World → Prop) : Tr → (World → Prop) → Act → World → Prop
  | .done, _, a, w => L a w
  | .q i r, C, a, w =>
    match ops[i]? with
    | none => False
    | some o => if Region.wanted o (yielded ops a.tmps) then steady P o a C (fun a' => wpTree P ops L r C a' w) else wpTree P ops L r C (a.put o.dst undef) w
  | .l i r, C, a, w => cOp P ops i (fun a' w' => ∃ C' : World → Prop, (∀ w, C' w → C w) ∧ C' w' ∧ wpTree P ops L r C' a' w') a w
  | .two i j r s, C, a, w => cOp P ops i (fun a' w' => ∃ C' : World → Prop, (∀ w, C' w → C w) ∧ C' w' ∧ wpTree P ops L r C' a' w') a w ∧
      cOp P ops j (fun a' w' => ∃ C' : World → Prop, (∀ w, C' w → C w) ∧ C' w' ∧ wpTree P ops L s C' a' w') a w

theorem wpAnyC_tree {n g : Nat} {Lq : Act → World → Prop} (hsel : Region.noSelect ops = true) (hs : Region.sinkB md ops n = true) (hc : Region.chainB md ops n = true) (hn : n < ops.size) :
    ∀ (f : Nat) (t : Tr) (C : World → Prop) (listed : Array Bool) (a : Act) (w : World), C w → HeadInv md ops n listed →
    treeB md ops n g f t listed = true → wpTree P ops Lq t C a w →
    wpAnyC P md ops n (fun listed' a' w' => Region.seqB md ops g n listed' = true ∧ Lq a' w') f C listed a w
  | 0, .done, C, listed, a, w, _, _, hB, h => ⟨by simpa [treeB] using hB, h⟩
  | f + 1, .q i r, C, listed, a, w, hC, inv, hB, h => by
    simp only [treeB, Bool.and_eq_true, decide_eq_true_eq] at hB
    obtain ⟨⟨⟨hin, hr⟩, hf⟩, hB'⟩ := hB
    have hr' : i ∈ Region.ready md ops listed := by simpa using hr
    unfold wpTree at h
    split at h
    · exact h.elim
    · rename_i o ho
      have key : ∃ v, YieldsC P ops C o v a ∧ wpTree P ops Lq r C (a.put o.dst v) w := by
        by_cases hw : Region.wanted o (yielded ops a.tmps) = true
        · simp only [hw, if_true] at h
          obtain ⟨v, h1, h2⟩ := h
          exact ⟨v, .inl ⟨hw, h1⟩, h2⟩
        · simp only [hw] at h
          exact ⟨undef, .inr ⟨by simpa using hw, rfl⟩, h⟩
      obtain ⟨v, hy, hK⟩ := key
      exact wpAnyC_first ho (Region.noSelect_spec hsel) hs hc hn hin (fun listed' a' w' hL => seqB_ready hL.1) f C listed a w inv hC (Region.free_spec ho hf) hr' hy
        (wpAnyC_tree hsel hs hc hn f r C _ _ w hC (inv.set hr' hin) hB' hK)
  | f + 1, .l i r, C, listed, a, w, hC, inv, hB, h => by
    simp only [treeB, Bool.and_eq_true, decide_eq_true_eq] at hB
    obtain ⟨⟨hin, hr⟩, hB'⟩ := hB
    have hr' : i ∈ Region.ready md ops listed := by rw [hr]; simp
    refine ⟨by rw [hr]; simp, fun j hj => ?_⟩
    have hji : j = i := by rw [hr] at hj; simpa using hj
    subst hji
    exact ⟨hin, cOp_mono (fun a' w' h' => by
      obtain ⟨C', hsub, hC', h'⟩ := h'
      exact ⟨C', hsub, hC', wpAnyC_tree hsel hs hc hn f r C' _ a' w' hC' (inv.set hr' hin) hB' h'⟩) h⟩
  | f + 1, .two i j r s, C, listed, a, w, hC, inv, hB, h => by
    simp only [treeB, Bool.and_eq_true, decide_eq_true_eq] at hB
    obtain ⟨⟨⟨⟨hin, hjn⟩, hr⟩, hB1⟩, hB2⟩ := hB
    have hri : i ∈ Region.ready md ops listed := by rw [hr]; simp
    have hrj : j ∈ Region.ready md ops listed := by rw [hr]; simp
    refine ⟨by rw [hr]; simp, fun k hk => ?_⟩
    have hk2 : k = i ∨ k = j := by rw [hr] at hk; simpa using hk
    rcases hk2 with rfl | rfl
    · exact ⟨hin, cOp_mono (fun a' w' h' => by
        obtain ⟨C', hsub, hC', h'⟩ := h'
        exact ⟨C', hsub, hC', wpAnyC_tree hsel hs hc hn f r C' _ a' w' hC' (inv.set hri hin) hB1 h'⟩) h.1⟩
    · exact ⟨hjn, cOp_mono (fun a' w' h' => by
        obtain ⟨C', hsub, hC', h'⟩ := h'
        exact ⟨C', hsub, hC', wpAnyC_tree hsel hs hc hn f s C' _ a' w' hC' (inv.set hrj hjn) hB2 h'⟩) h.2⟩
  | 0, .q _ _, _, _, _, _, _, _, hB, _ => by simp [treeB] at hB
  | 0, .l _ _, _, _, _, _, _, _, hB, _ => by simp [treeB] at hB
  | 0, .two _ _ _ _, _, _, _, _, _, _, hB, _ => by simp [treeB] at hB
  | _ + 1, .done, _, _, _, _, _, _, hB, _ => by simp [treeB] at hB

def treeOk (md : Region.Mode) (ops : Array Oper) (n : Nat) (t : Tr) : Bool :=
  Region.noSelect ops && decide (n < ops.size) && Region.sinkB md ops n && Region.chainB md ops n && treeB md ops n (ops.size - n) n t (Array.replicate ops.size false)

theorem wp_region_tree {id : Nat} {Q : Exit → Act → World → Prop} {a : Act} {w : World} {l : List Oper} (S : World → Prop) (n : Nat) (t : Tr) (hm : P.follows .mixedOrders = true)
    (hB : treeOk .any l.toArray n t = true) (hC : S w.drew)
    (h : Nonempty (Wd S) → wpTree P l.toArray (fun a' w' => wpList P l.toArray Q (l.drop n) a' w') t (Cls S) a w.drew) : (Code.region id l.toArray true).wp P Q a w := by
  simp only [treeOk, Bool.and_eq_true, decide_eq_true_eq] at hB
  obtain ⟨⟨⟨⟨hsel, hn⟩, hs⟩, hc⟩, hlex⟩ := hB
  have hdl : (l.drop n).length = l.toArray.size - n := by simp
  have inv0 : HeadInv .any l.toArray n (Array.replicate l.toArray.size false) :=
    ⟨by simp, fun j oj _ hl => (by rw [getD_replicate_false] at hl; cases hl), fun t _ ht => getD_in (by simpa using ht) (getD_replicate_false _ _)⟩
  have H := wpAnyC_tree (md := .any) (g := l.toArray.size - n) hsel hs hc hn n t (Cls S) _ a w.drew ⟨⟨_, hC⟩, rfl⟩ inv0 hlex (h ⟨⟨_, hC⟩⟩)
  refine wp_region_any hm ?_
  have := wpAny_of_C (Q' := Q) (g := l.toArray.size - n) (fun listed a' w' hL => by
    have := wpAny_of_seq (md := .any) (Q' := Q) (l.drop n) n listed a' w' (fun j => by simp [List.getElem?_drop]) (by rw [hdl]; exact hL.1) hL.2
    rwa [hdl] at this) _ _ _ _ _ H
  rw [show n + (l.toArray.size - n) = l.toArray.size by omega] at this
  exact this

theorem tree_done {C : World → Prop} {L : Act → World → Prop} {a : Act} {w : World} (h : L a w) : wpTree P ops L .done C a w := h
theorem tree_q {C : World → Prop} {L : Act → World → Prop} {i : Nat} {r : Tr} {o : Oper} {a : Act} {w : World} (ho : ops[i]? = some o)
    (h : ∀ K : Act → Prop, (∀ a, wpTree P ops L r C a w → K a) → if Region.wanted o (yielded ops a.tmps) then steady P o a C K else K (a.put o.dst undef)) :
    wpTree P ops L (.q i r) C a w := by
  unfold wpTree
  simp only [ho]
  exact h _ (fun _ h => h)
theorem cOp_of_list {i : Nat} {o : Oper} {a : Act} {w : World} {K : Act → World → Prop} (ho : ops[i]? = some o) (h : wpList P ops (Exit.then K noQ) [o] a w) : cOp P ops i K a w := by
  unfold cOp
  simp only [ho]
  unfold wpList at h
  split
  · rename_i hw
    rw [if_pos hw] at h
    rcases h with h | ⟨_, _, _, hf⟩
    · exact oper_wp_imp (fun a w hk => hk) (by
        unfold Oper.wp at *
        generalize (execOp a.eval o).run P w = r at *
        cases r with
        | ok n w' =>
          cases n <;> simp only [Oper.upon] at h ⊢ <;>
            first
              | exact h
              | exact Calls.mono h (fun e w'' he => by
                  cases e with
                  | returned v => exact he
                  | panicked c => exact he
                  | outgrown => obtain ⟨_, _, hf⟩ := he; exact hf.elim)
              | exact Rows.mono h (fun _ _ he => he)
        | halt x w' => cases x <;> simp only [Oper.upon] at h ⊢ <;> exact h)
    · exact hf.elim
  · rename_i hw
    rw [if_neg hw] at h
    exact h
theorem tree_l {C : World → Prop} {L : Act → World → Prop} {i : Nat} {r : Tr} {o : Oper} {a : Act} {w : World} (ho : ops[i]? = some o)
    (h : wpList P ops (Exit.then (fun a' w' => ∃ C' : World → Prop, (∀ w, C' w → C w) ∧ C' w' ∧ wpTree P ops L r C' a' w') noQ) [o] a w) :
    wpTree P ops L (.l i r) C a w := cOp_of_list ho h
theorem tree_two {C : World → Prop} {L : Act → World → Prop} {i j : Nat} {r s : Tr} {o o' : Oper} {a : Act} {w : World} (ho : ops[i]? = some o) (ho' : ops[j]? = some o')
    (h : wpList P ops (Exit.then (fun a' w' => ∃ C' : World → Prop, (∀ w, C' w → C w) ∧ C' w' ∧ wpTree P ops L r C' a' w') noQ) [o] a w)
    (h' : wpList P ops (Exit.then (fun a' w' => ∃ C' : World → Prop, (∀ w, C' w → C w) ∧ C' w' ∧ wpTree P ops L s C' a' w') noQ) [o'] a w) :
    wpTree P ops L (.two i j r s) C a w := ⟨cOp_of_list ho h, cOp_of_list ho' h'⟩
/-- A guarded operation that is wanted, its guard struck. -/
theorem tree_lw {C : World → Prop} {L : Act → World → Prop} {i : Nat} {r : Tr} {o : Oper} {a : Act} {w : World} (ho : ops[i]? = some o) (hw : Region.wanted o (yielded ops a.tmps) = true)
    (h : wpList P ops (Exit.then (fun a' w' => ∃ C' : World → Prop, (∀ w, C' w → C w) ∧ C' w' ∧ wpTree P ops L r C' a' w') noQ) [⟨o.dst, o.op, o.type, o.pos, o.after, none⟩] a w) :
    wpTree P ops L (.l i r) C a w := by
  refine tree_l ho ?_
  unfold wpList at h ⊢
  rw [if_pos hw]
  exact h
/-- A quiet load of a whole array. -/
theorem tree_load_ext {w0 w : World} {L : Act → World → Prop} {i : Nat} {r : Tr} {o : Oper} {a : Act} (ho : ops[i]? = some o) (hgd : o.guard = none) {ty : TypeId} {x : Operand} (hop : o.op = .load ty x)
    {g : Nat} (hx : a.eval x = .pointer (some ⟨g, 0, none⟩)) {v : Value} (hl : ∀ y : Wd (Ext w0), (loadVar ty ⟨g, 0, none⟩).run P y.w = .ok v y.w)
    (h : ∀ K : Act → Prop, (∀ a, wpTree P ops L r (Cls (Ext w0)) a w → K a) → K (a.put o.dst v)) : wpTree P ops L (.q i r) (Cls (Ext w0)) a w := by
  refine tree_q ho fun K hK => ?_
  have hw : Region.wanted o (yielded ops a.tmps) = true := by unfold Region.wanted; rw [hgd]
  rw [if_pos hw]
  refine ⟨_, ?_, h K hK⟩
  rintro _ ⟨y, rfl⟩
  simp only [execOp, hop, hx, Instr.loadAt, Instr.sureAddr, Sem.run_bind, Sem.run_pure, Result.andThen_ok, hl y]
  exact ⟨rfl, rfl⟩
end
end
/- A region whose order is open, by facts: each operation is walked once, from what the operations that it waits for have left; what an operation has made in memory is its own. -/
section

section frames
def updf {β : Type} (u : Nat → β) (i : Nat) (v : β) : Nat → β := fun j => if j = i then v else u j
theorem updf_same {β : Type} (u : Nat → β) (i : Nat) (v : β) : updf u i v i = v := if_pos rfl
theorem updf_ne {β : Type} (u : Nat → β) {i j : Nat} (v : β) (h : j ≠ i) : updf u i v j = u j := if_neg h
def dstOf (ops : Array Oper) (i : Nat) : Option Tmp := (ops[i]?).bind Oper.dst
/-- The frame in which the first k operations have yielded u. -/
def fr (ops : Array Oper) (a0 : Act) (u : Nat → Value) : Nat → Act
  | 0 => a0
  | k + 1 => (fr ops a0 u k).put (dstOf ops k) (u k)
variable {ops : Array Oper} {a0 : Act} {u u' : Nat → Value}
theorem fr_congr {k : Nat} (h : ∀ i, i < k → u i = u' i) : fr ops a0 u k = fr ops a0 u' k := by
  induction k with
  | zero => rfl
  | succ k ih => simp only [fr]; rw [ih (fun i hi => h i (by omega)), h k (by omega)]
theorem put_put (a : Act) (d : Option Tmp) (v v' : Value) : (a.put d v).put d v' = a.put d v' := by
  cases d with
  | none => rfl
  | some d =>
    unfold Act.put
    simp
theorem put_comm' (a : Act) {d d' : Option Tmp} (h : ∀ x, d = some x → d' ≠ some x) (v v' : Value) : (a.put d v).put d' v' = (a.put d' v').put d v := by
  cases d with
  | none => rfl
  | some d =>
    cases d' with
    | none => rfl
    | some d' =>
      have hne : d ≠ d' := fun e => h d rfl (by rw [e])
      unfold Act.put
      simp only
      rw [Array.setIfInBounds_comm _ _ hne]
theorem fr_put {n i : Nat} (hd : ∀ i j, i < n → j < n → i ≠ j → ∀ x, dstOf ops i = some x → dstOf ops j ≠ some x) (hi : i < n) (v : Value) : (fr ops a0 u n).put (dstOf ops i) v = fr ops a0 (updf u i v) n := by
  have key : ∀ k, i < k → k ≤ n → (fr ops a0 u k).put (dstOf ops i) v = fr ops a0 (updf u i v) k := by
    intro k
    induction k with
    | zero => intro h; omega
    | succ k ih =>
      intro hik hkn
      by_cases h : i = k
      · subst h
        simp only [fr]
        rw [put_put, updf_same, fr_congr (u' := updf u i v) (fun j hj => (updf_ne u v (by omega)).symm)]
      · simp only [fr]
        rw [put_comm' _ (hd k i (by omega) hi (Ne.symm h)), ih (by omega) (by omega), updf_ne u v (Ne.symm h)]
  exact key n hi (Nat.le_refl _)
theorem fr_self (n : Nat) : ∃ u, fr ops a0 u n = a0 := by
  induction n with
  | zero => exact ⟨fun _ => undef, rfl⟩
  | succ n ih =>
    obtain ⟨u, hu⟩ := ih
    refine ⟨updf u n (match dstOf ops n with | some d => a0.tmps.getD d undef | none => undef), ?_⟩
    simp only [fr]
    rw [fr_congr (u' := u) (fun i hi => updf_ne u _ (by omega)), hu, updf_same]
    cases dstOf ops n with
    | none => rfl
    | some d =>
      unfold Act.put
      simp only
      congr 1
      apply Array.ext
      · simp
      · intro i h1 h2
        by_cases hdi : d = i
        · subst hdi; simp [h2]
        · rw [Array.getElem_setIfInBounds_ne (by simpa using h2) hdi]
end frames

section count
def cnt (listed : Array Bool) : Nat → Nat
  | 0 => 0
  | k + 1 => cnt listed k + if listed.getD k true = true then 0 else 1
theorem cnt_zero {listed : Array Bool} : ∀ {k : Nat}, cnt listed k = 0 → ∀ i, i < k → listed.getD i true = true
  | k + 1, h, i, hi => by
    unfold cnt at h
    by_cases hk : listed.getD k true = true
    · rw [if_pos hk] at h
      by_cases hik : i = k
      · subst hik; exact hk
      · exact cnt_zero (by omega) i (by omega)
    · rw [if_neg hk] at h; omega
theorem cnt_pos {listed : Array Bool} : ∀ {k : Nat}, 0 < cnt listed k → ∃ i, i < k ∧ listed.getD i true = false ∧ ∀ j, j < i → listed.getD j true = true
  | k + 1, h => by
    by_cases h0 : cnt listed k = 0
    · have hk : ¬ listed.getD k true = true := fun e => by
        unfold cnt at h
        rw [if_pos e] at h
        omega
      exact ⟨k, by omega, by simpa using hk, cnt_zero h0⟩
    · obtain ⟨i, h1, h2⟩ := cnt_pos (listed := listed) (k := k) (by omega)
      exact ⟨i, by omega, h2⟩
theorem getD_set_self {listed : Array Bool} {i : Nat} (d : Bool) (h : i < listed.size) : (listed.setIfInBounds i true).getD i d = true := by
  simp [h]
theorem cnt_set_out {listed : Array Bool} {i : Nat} : ∀ {k : Nat}, k ≤ i → cnt (listed.setIfInBounds i true) k = cnt listed k
  | 0, _ => rfl
  | k + 1, h => by
    simp only [cnt]
    rw [cnt_set_out (by omega), getD_set_ne true (by omega)]
theorem cnt_set {listed : Array Bool} {i : Nat} (hs : i < listed.size) (hu : listed.getD i true = false) : ∀ {k : Nat}, i < k → cnt (listed.setIfInBounds i true) k + 1 = cnt listed k
  | k + 1, h => by
    simp only [cnt]
    by_cases hik : i = k
    · subst hik
      rw [cnt_set_out (Nat.le_refl _), getD_set_self true hs, hu]
      simp
    · have := cnt_set hs hu (k := k) (by omega)
      rw [getD_set_ne true hik]
      omega
theorem cnt_new (m k : Nat) (h : k ≤ m) : cnt (Array.replicate m false) k = k := by
  induction k with
  | zero => rfl
  | succ k ih =>
    simp only [cnt]
    rw [ih (by omega)]
    have : (Array.replicate m false).getD k true = false := by simp [show k < m by omega]
    rw [this]
    simp
end count

abbrev Fact := Value → World → (Nat → Prop) → Prop
def waitsOn (ops : Array Oper) (i d : Nat) : Bool := Region.waitsFor .any ops i d
def doneA (n m : Nat) : Array Bool := (Array.replicate n true) ++ (Array.replicate (m - n) false)

theorem doneA_at {n m i : Nat} (h : i < n) : (doneA n m).getD i true = true := by
  simp [doneA, Array.getElem?_append, h]
def ordB (ops : Array Oper) (n : Nat) : Bool := (List.range n).all fun i => match ops[i]? with
  | some o => o.after.all fun e => !Region.binds .any e || decide (e.on < i)
  | none => false
def dstB (ops : Array Oper) (n : Nat) : Bool := (List.range n).all fun i => (List.range n).all fun j => decide (i = j) || (match dstOf ops i with | some x => decide (dstOf ops j ≠ some x) | none => true)
def consB (ops : Array Oper) (n : Nat) (cons : List (Nat × Nat)) : Bool := cons.all fun p => decide (p.1 ≠ p.2) && (List.range n).all fun i => decide (i = p.1) || !waitsOn ops i p.2
def freeB (ops : Array Oper) (n : Nat) (cons : List (Nat × Nat)) : Bool :=
  Region.noSelect ops && decide (n < ops.size) && Region.sinkB .any ops n && Region.chainB .any ops n && ordB ops n && dstB ops n && consB ops n cons && Region.seqB .any ops (ops.size - n) n (doneA n ops.size)

/-- What is known behind some operations: of each its fact, if no other has consumed it; what each has made. -/
def Known (w0 : World) (n : Nat) (J : Nat → Fact) (cons : List (Nat × Nat)) (listed : Array Bool) (u : Nat → Value) (w : World) : Prop :=
  Ext w0 w ∧ ∃ S : Nat → Nat → Prop,
    (∀ i, i < n → listed.getD i true = true → (∃ c, (c, i) ∈ cons ∧ c < n ∧ listed.getD c true = true) ∨ J i (u i) w (S i)) ∧
    (∀ i b, S i b → w0.heap.size ≤ b ∧ b < w.heap.size) ∧ (∀ i j b, S i b → S j b → i = j)

/-- An operation is walked. -/
def OpOk (P : Program) (ops : Array Oper) (a0 : Act) (w0 : World) (n : Nat) (J : Nat → Fact) (cons : List (Nat × Nat)) (i : Nat) : Prop :=
  ∀ (u : Nat → Value) (w : World) (S : Nat → Nat → Prop) (o : Oper), ops[i]? = some o → Ext w0 w → (∀ i b, S i b → w0.heap.size ≤ b ∧ b < w.heap.size) → (∀ i j b, S i b → S j b → i = j) →
    (∀ d, d < n → waitsOn ops i d = true → J d (u d) w (S d)) →
    wpList P ops (Exit.then (fun a' w' => ∃ v, a' = (fr ops a0 u n).put o.dst v ∧ Upd (fun b => ∃ d, (i, d) ∈ cons ∧ S d b) w w' ∧ J i v w' (fun b => (w.heap.size ≤ b ∧ b < w'.heap.size) ∨ ∃ d, (i, d) ∈ cons ∧ S d b)) noQ) [o] (fr ops a0 u n) w

/-- A fact hangs on the old blocks and on its own. -/
def Local (w0 : World) (J : Fact) : Prop := ∀ v w w' S, J v w S → Upd (fun b => w0.heap.size ≤ b ∧ ¬ S b) w w' → J v w' S

section law
variable {P : Program} {ops : Array Oper} {a0 : Act} {w0 : World} {n : Nat} {J : Nat → Fact} {cons : List (Nat × Nat)}

theorem known_step {listed : Array Bool} {u : Nat → Value} {w w' : World} {i : Nat} {v : Value} {S : Nat → Nat → Prop} (hloc : ∀ i, i < n → Local w0 (J i)) (hin : i < n) (hsz : i < listed.size)
    (hE : Ext w0 w) (hJ : ∀ i, i < n → listed.getD i true = true → (∃ c, (c, i) ∈ cons ∧ c < n ∧ listed.getD c true = true) ∨ J i (u i) w (S i))
    (hr : ∀ i b, S i b → w0.heap.size ≤ b ∧ b < w.heap.size) (hd : ∀ i j b, S i b → S j b → i = j)
    (hU : Upd (fun b => ∃ d, (i, d) ∈ cons ∧ S d b) w w') (hv : J i v w' (fun b => (w.heap.size ≤ b ∧ b < w'.heap.size) ∨ ∃ d, (i, d) ∈ cons ∧ S d b)) :
    Known w0 n J cons (listed.setIfInBounds i true) (updf u i v) w' := by
  classical
  refine ⟨hE.trans' hU (fun b hb ⟨d, _, hs⟩ => by have := (hr d b hs).1; omega), fun j b => if j = i then ((w.heap.size ≤ b ∧ b < w'.heap.size) ∨ ∃ d, (i, d) ∈ cons ∧ S d b) else S j b ∧ ¬ ∃ d, (i, d) ∈ cons ∧ S d b, ?_, ?_, ?_⟩
  · intro j hj hl
    by_cases hji : j = i
    · subst hji
      right
      rw [updf_same]
      simp only [if_true]
      exact hv
    · rw [getD_set_ne true (Ne.symm hji)] at hl
      rcases hJ j hj hl with ⟨c, hc, hcn, hcl⟩ | h
      · left
        refine ⟨c, hc, hcn, ?_⟩
        by_cases hci : i = c
        · subst hci; exact getD_set_self true hsz
        · rw [getD_set_ne true hci]; exact hcl
      · by_cases hcon : (i, j) ∈ cons
        · exact .inl ⟨i, hcon, hin, getD_set_self true hsz⟩
        · right
          rw [updf_ne u v hji]
          have h2 := hloc j hj _ _ w' _ h (hU.mono fun b hb ⟨d, hdc, hs⟩ => ⟨(hr d b hs).1, fun hsj => hcon (by rw [hd j d b hsj hs]; exact hdc)⟩)
          have e : (fun b => if j = i then ((w.heap.size ≤ b ∧ b < w'.heap.size) ∨ ∃ d, (i, d) ∈ cons ∧ S d b) else S j b ∧ ¬ ∃ d, (i, d) ∈ cons ∧ S d b) = S j := by
            funext b
            rw [if_neg hji]
            refine propext ⟨fun h => h.1, fun h => ⟨h, ?_⟩⟩
            rintro ⟨d, hdc, hs⟩
            exact hcon (by rw [hd j d b h hs]; exact hdc)
          dsimp only
          rw [e]
          exact h2
  · intro j b hs
    have h0 := hE.size
    have h1 := hU.size
    by_cases hji : j = i
    · simp only [if_pos hji] at hs
      rcases hs with ⟨h2, h3⟩ | ⟨d, _, hs⟩
      · exact ⟨by omega, h3⟩
      · have := hr d b hs; exact ⟨this.1, by omega⟩
    · simp only [if_neg hji] at hs
      have := hr j b hs.1; exact ⟨this.1, by omega⟩
  · intro j k b hs hs'
    by_cases hji : j = i <;> by_cases hki : k = i
    · rw [hji, hki]
    · simp only [if_pos hji] at hs
      simp only [if_neg hki] at hs'
      rcases hs with ⟨h2, _⟩ | h2
      · have := (hr k b hs'.1).2; omega
      · exact absurd h2 hs'.2
    · simp only [if_neg hji] at hs
      simp only [if_pos hki] at hs'
      rcases hs' with ⟨h2, _⟩ | h2
      · have := (hr j b hs.1).2; omega
      · exact absurd h2 hs.2
    · simp only [if_neg hji] at hs
      simp only [if_neg hki] at hs'
      exact hd j k b hs.1 hs'.1

theorem free_run {Lq : Act → World → Prop} (hB : freeB ops n cons = true) (hloc : ∀ i, i < n → Local w0 (J i)) (hop : ∀ i, i < n → OpOk P ops a0 w0 n J cons i)
    (hL : ∀ u w, Known w0 n J cons (doneA n ops.size) u w → Lq (fr ops a0 u n) w) :
    ∀ (f : Nat) (listed : Array Bool) (u : Nat → Value) (w : World), HeadInv .any ops n listed → cnt listed n = f → Known w0 n J cons listed u w →
      wpAnyC P .any ops n (fun listed' a' w' => Region.seqB .any ops (ops.size - n) n listed' = true ∧ Lq a' w') f (fun _ => True) listed (fr ops a0 u n) w := by
  simp only [freeB, Bool.and_eq_true, decide_eq_true_eq] at hB
  obtain ⟨⟨⟨⟨⟨⟨⟨hsel, hn⟩, hs⟩, hc⟩, hord⟩, hdst⟩, hcons⟩, hseq⟩ := hB
  have hdist : ∀ i j, i < n → j < n → i ≠ j → ∀ x, dstOf ops i = some x → dstOf ops j ≠ some x := fun i j hi hj hne x hx => by
    have h1 := List.all_eq_true.1 (List.all_eq_true.1 hdst i (List.mem_range.2 hi)) j (List.mem_range.2 hj)
    simp only [hx, Bool.or_eq_true, decide_eq_true_eq] at h1
    rcases h1 with h1 | h1
    · exact absurd h1 hne
    · exact h1
  intro f
  induction f with
  | zero =>
    intro listed u w inv hcnt hK
    have hall := cnt_zero hcnt
    have he : listed = doneA n ops.size := by
      apply Array.ext
      · simp [doneA, inv.size]; omega
      · intro i h1 h2
        have hi : i < ops.size := by rw [← inv.size]; exact h1
        by_cases hin : i < n
        · have := hall i hin
          simp [h1] at this
          rw [this]
          simp [doneA, hin]
        · have := inv.tail i (by omega) hi
          simp [h1] at this
          rw [this]
          simp [doneA, Array.getElem_append, hin]
    subst he
    exact ⟨hseq, hL u w hK⟩
  | succ f ih =>
    intro listed u w inv hcnt hK
    obtain ⟨i0, hi0, hun0, hbelow⟩ := cnt_pos (listed := listed) (k := n) (by omega)
    have hlt : ∀ i, i < n → i < listed.size := fun i hi => by rw [inv.size]; omega
    have hboth : ∀ j, j < n → listed.getD j true = true → listed.getD j false = true := fun j hj h => by simpa [hlt j hj] using h
    have hr0 : i0 ∈ Region.ready .any ops listed := by
      refine mem_ready.2 ⟨hun0, ?_⟩
      have h1 := List.all_eq_true.1 hord i0 (List.mem_range.2 hi0)
      cases ho : ops[i0]? with
      | none => simp [ho] at h1
      | some o =>
        refine ⟨o, rfl, fun e he hb => ?_⟩
        simp only [ho] at h1
        have h2 := Array.all_eq_true'.1 h1 e he
        simp only [hb, Bool.not_true, Bool.false_or, decide_eq_true_eq] at h2
        exact hboth _ (by omega) (hbelow e.on h2)
    refine ⟨(fun h => by rw [h] at hr0; cases hr0), fun i hi => ?_⟩
    have hin : i < n := by
      rcases Nat.lt_or_ge i n with h | h
      · exact h
      · exact absurd hi (tail_waits hs hc hn inv _ i0 rfl hi0 hun0 i h)
    refine ⟨hin, ?_⟩
    obtain ⟨hun, o, ho, hall⟩ := mem_ready.1 hi
    obtain ⟨hE, S, hJ, hrng, hdis⟩ := hK
    have hstep := hop i hin u w S o ho hE hrng hdis (fun d hdn hw => by
      obtain ⟨oj, hoj, e, he, hb, hon⟩ := Region.waitsFor_spec hw
      have : oj = o := Option.some.inj (hoj.symm.trans ho)
      subst this
      have hl := hall e he hb
      rw [hon] at hl
      have hl' : listed.getD d true = true := by simpa [hlt d hdn] using hl
      rcases hJ d hdn hl' with ⟨c, hcc, hcn, hcl⟩ | h
      · have h1 := List.all_eq_true.1 hcons (c, d) hcc
        simp only [Bool.and_eq_true, decide_eq_true_eq] at h1
        have h2 := List.all_eq_true.1 h1.2 i (List.mem_range.2 hin)
        simp only [Bool.or_eq_true, decide_eq_true_eq, hw, Bool.not_true, Bool.false_eq_true, or_false] at h2
        subst h2
        rw [hun] at hcl
        cases hcl
      · exact h)
    refine cOp_mono (fun a' w' h => ?_) (cOp_of_list ho hstep)
    obtain ⟨v, rfl, hU, hv⟩ := h
    refine ⟨fun _ => True, fun _ _ => trivial, trivial, ?_⟩
    have hd' : o.dst = dstOf ops i := by simp [dstOf, ho]
    rw [hd', fr_put hdist hin]
    refine ih _ _ _ (inv.set hi hin) ?_ (known_step hloc hin (hlt i hin) hE hJ hrng hdis hU hv)
    have := cnt_set (hlt i hin) hun hin
    omega

theorem wp_region_free {id : Nat} {Q : Exit → Act → World → Prop} {w : World} {l : List Oper} (n : Nat) (J : Nat → Fact) (cons : List (Nat × Nat)) (hm : P.follows .mixedOrders = true)
    (hB : freeB l.toArray n cons = true) (hloc : ∀ i, i < n → Local w.drew (J i)) (hop : ∀ i, i < n → OpOk P l.toArray a0 w.drew n J cons i)
    (hL : ∀ u w', Ext w.drew w' → (∀ i, i < n → (∀ c, (c, i) ∉ cons) → ∃ S, J i (u i) w' S) → wpList P l.toArray Q (l.drop n) (fr l.toArray a0 u n) w') : (Code.region id l.toArray true).wp P Q a0 w := by
  have hB' := hB
  simp only [freeB, Bool.and_eq_true, decide_eq_true_eq] at hB'
  obtain ⟨⟨⟨⟨⟨⟨⟨hsel, hn⟩, hs⟩, hc⟩, hord⟩, hdst⟩, hcons⟩, hseq⟩ := hB'
  have hn2 : n < l.length := by simpa using hn
  have hdl : (l.drop n).length = l.toArray.size - n := by simp
  have inv0 : HeadInv .any l.toArray n (Array.replicate l.toArray.size false) :=
    ⟨by simp, fun j oj _ hl => (by rw [getD_replicate_false] at hl; cases hl), fun t _ ht => getD_in (by simpa using ht) (getD_replicate_false _ _)⟩
  obtain ⟨u0, hu0⟩ := fr_self (ops := l.toArray) (a0 := a0) n
  have H := free_run (P := P) (a0 := a0) (Lq := fun a' w' => wpList P l.toArray Q (l.drop n) a' w') hB hloc hop (fun u w' ⟨hE, S, hJ, _, _⟩ => hL u w' hE (fun i hi hno => by
      rcases hJ i hi (doneA_at hi) with ⟨c, hcc, _⟩ | h
      · exact absurd hcc (hno c)
      · exact ⟨_, h⟩)) n _ u0 w.drew inv0 (cnt_new _ _ (by omega)) ⟨Upd.refl _ _, fun _ _ => False, (fun i hi hl => by
        have : (Array.replicate l.toArray.size false).getD i true = false := by
          have : i < l.length := by omega
          simp [this]
        rw [this] at hl; cases hl), fun _ _ h => h.elim, fun _ _ _ h => h.elim⟩
  rw [hu0] at H
  refine wp_region_any hm ?_
  have := wpAny_of_C (Q' := Q) (g := l.toArray.size - n) (fun listed a' w' hL => by
    have := wpAny_of_seq (md := .any) (Q' := Q) (l.drop n) n listed a' w' (fun j => by simp [List.getElem?_drop]) (by rw [hdl]; exact hL.1) hL.2
    rwa [hdl] at this) _ _ _ _ _ H
  rw [show n + (l.toArray.size - n) = l.toArray.size by omega] at this
  exact this
end law
end
/- A region whose order is open, by facts that may speak of the slots an operation waits for (stores into blocks that the region has made). A fact outlives a change of blocks that look as Z says. -/
section
abbrev FactU := (Nat → Value) → World → (Nat → Prop) → Prop

/-- What is known behind some operations: of each its fact, if no other has consumed it; what each has made. -/
def KnownU (ops : Array Oper) (w0 : World) (n : Nat) (J : Nat → FactU) (cons : List (Nat × Nat)) (listed : Array Bool) (u : Nat → Value) (w : World) : Prop :=
  Ext w0 w ∧ (∀ j, j < n → listed.getD j true = true → ∀ d, d < n → waitsOn ops j d = true → listed.getD d true = true) ∧ ∃ S : Nat → Nat → Prop,
    (∀ i, i < n → listed.getD i true = true → (∃ c, (c, i) ∈ cons ∧ c < n ∧ listed.getD c true = true) ∨ J i u w (S i)) ∧
    (∀ i b, S i b → w0.heap.size ≤ b ∧ b < w.heap.size) ∧ (∀ i j b, S i b → S j b → i = j)

/-- An operation is walked. -/
def OpOkU (P : Program) (ops : Array Oper) (a0 : Act) (w0 : World) (n : Nat) (J : Nat → FactU) (cons : List (Nat × Nat)) (i : Nat) : Prop :=
  ∀ (u : Nat → Value) (w : World) (S : Nat → Nat → Prop) (o : Oper), ops[i]? = some o → Ext w0 w → (∀ i b, S i b → w0.heap.size ≤ b ∧ b < w.heap.size) → (∀ i j b, S i b → S j b → i = j) →
    (∀ d, d < n → waitsOn ops i d = true → J d u w (S d)) →
    wpList P ops (Exit.then (fun a' w' => ∃ v, a' = (fr ops a0 u n).put o.dst v ∧ Upd (fun b => ∃ d, (i, d) ∈ cons ∧ S d b) w w' ∧ J i (updf u i v) w' (fun b => (w.heap.size ≤ b ∧ b < w'.heap.size) ∨ ∃ d, (i, d) ∈ cons ∧ S d b)) noQ) [o] (fr ops a0 u n) w

/-- A fact hangs on the old blocks and on its own. -/
def LocalU (Z : World → Nat → Prop) (w0 : World) (J : FactU) : Prop := ∀ u w w' S, J u w S → Upd (fun b => w0.heap.size ≤ b ∧ ¬ S b ∧ Z w b) w w' → J u w' S
/-- A fact speaks of its own slot and of the slots that its operation waits for. -/
def DepU (ops : Array Oper) (n i : Nat) (J : FactU) : Prop := ∀ u u' w S, (∀ d, d = i ∨ (d < n ∧ waitsOn ops i d = true) → u d = u' d) → J u w S → J u' w S

section law
variable {P : Program} {ops : Array Oper} {a0 : Act} {w0 : World} {n : Nat} {J : Nat → FactU} {cons : List (Nat × Nat)} {Z : World → Nat → Prop}

theorem known_stepU {listed : Array Bool} {u : Nat → Value} {w w' : World} {i : Nat} {v : Value} {S : Nat → Nat → Prop} (hloc : ∀ i, i < n → LocalU Z w0 (J i)) (hdep : ∀ i, i < n → DepU ops n i (J i)) (hin : i < n) (hsz : i < listed.size) (hun : listed.getD i true = false) (hcl : ∀ j, j < n → listed.getD j true = true → ∀ d, d < n → waitsOn ops j d = true → listed.getD d true = true) (hwi : ∀ d, d < n → waitsOn ops i d = true → listed.getD d true = true) (hZ : ∀ d b, (i, d) ∈ cons → S d b → Z w b)
    (hE : Ext w0 w) (hJ : ∀ i, i < n → listed.getD i true = true → (∃ c, (c, i) ∈ cons ∧ c < n ∧ listed.getD c true = true) ∨ J i u w (S i))
    (hr : ∀ i b, S i b → w0.heap.size ≤ b ∧ b < w.heap.size) (hd : ∀ i j b, S i b → S j b → i = j)
    (hU : Upd (fun b => ∃ d, (i, d) ∈ cons ∧ S d b) w w') (hv : J i (updf u i v) w' (fun b => (w.heap.size ≤ b ∧ b < w'.heap.size) ∨ ∃ d, (i, d) ∈ cons ∧ S d b)) :
    KnownU ops w0 n J cons (listed.setIfInBounds i true) (updf u i v) w' := by
  classical
  refine ⟨hE.trans' hU (fun b hb ⟨d, _, hs⟩ => by have := (hr d b hs).1; omega), ?_, fun j b => if j = i then ((w.heap.size ≤ b ∧ b < w'.heap.size) ∨ ∃ d, (i, d) ∈ cons ∧ S d b) else S j b ∧ ¬ ∃ d, (i, d) ∈ cons ∧ S d b, ?_, ?_, ?_⟩
  · intro j hj hl d hd hw
    have hset : ∀ x, listed.getD x true = true → (listed.setIfInBounds i true).getD x true = true := fun x hx => by
      by_cases hxi : i = x
      · subst hxi; exact getD_set_self true hsz
      · rw [getD_set_ne true hxi]; exact hx
    by_cases hji : j = i
    · subst hji; exact hset d (hwi d hd hw)
    · rw [getD_set_ne true (Ne.symm hji)] at hl
      exact hset d (hcl j hj hl d hd hw)
  · intro j hj hl
    by_cases hji : j = i
    · subst hji
      right
      simp only [if_true]
      exact hv
    · rw [getD_set_ne true (Ne.symm hji)] at hl
      rcases hJ j hj hl with ⟨c, hc, hcn, hcl⟩ | h
      · left
        refine ⟨c, hc, hcn, ?_⟩
        by_cases hci : i = c
        · subst hci; exact getD_set_self true hsz
        · rw [getD_set_ne true hci]; exact hcl
      · by_cases hcon : (i, j) ∈ cons
        · exact .inl ⟨i, hcon, hin, getD_set_self true hsz⟩
        · right
          have h := hdep j hj u (updf u i v) _ _ (fun d hd => (updf_ne u v (by
            rcases hd with rfl | ⟨hdn, hw⟩
            · exact hji
            · intro e
              subst e
              have := hcl j hj hl d hdn hw
              rw [hun] at this
              cases this)).symm) h
          have h2 := hloc j hj _ _ w' _ h (hU.mono fun b hb ⟨d, hdc, hs⟩ => ⟨(hr d b hs).1, fun hsj => hcon (by rw [hd j d b hsj hs]; exact hdc), hZ d b hdc hs⟩)
          have e : (fun b => if j = i then ((w.heap.size ≤ b ∧ b < w'.heap.size) ∨ ∃ d, (i, d) ∈ cons ∧ S d b) else S j b ∧ ¬ ∃ d, (i, d) ∈ cons ∧ S d b) = S j := by
            funext b
            rw [if_neg hji]
            refine propext ⟨fun h => h.1, fun h => ⟨h, ?_⟩⟩
            rintro ⟨d, hdc, hs⟩
            exact hcon (by rw [hd j d b h hs]; exact hdc)
          dsimp only
          rw [e]
          exact h2
  · intro j b hs
    have h0 := hE.size
    have h1 := hU.size
    by_cases hji : j = i
    · simp only [if_pos hji] at hs
      rcases hs with ⟨h2, h3⟩ | ⟨d, _, hs⟩
      · exact ⟨by omega, h3⟩
      · have := hr d b hs; exact ⟨this.1, by omega⟩
    · simp only [if_neg hji] at hs
      have := hr j b hs.1; exact ⟨this.1, by omega⟩
  · intro j k b hs hs'
    by_cases hji : j = i <;> by_cases hki : k = i
    · rw [hji, hki]
    · simp only [if_pos hji] at hs
      simp only [if_neg hki] at hs'
      rcases hs with ⟨h2, _⟩ | h2
      · have := (hr k b hs'.1).2; omega
      · exact absurd h2 hs'.2
    · simp only [if_neg hji] at hs
      simp only [if_pos hki] at hs'
      rcases hs' with ⟨h2, _⟩ | h2
      · have := (hr j b hs.1).2; omega
      · exact absurd h2 hs.2
    · simp only [if_neg hji] at hs
      simp only [if_neg hki] at hs'
      exact hd j k b hs.1 hs'.1

theorem free_runU {Lq : Act → World → Prop} (hB : freeB ops n cons = true) (hloc : ∀ i, i < n → LocalU Z w0 (J i)) (hdep : ∀ i, i < n → DepU ops n i (J i)) (hcw : ∀ p, p ∈ cons → p.2 < n ∧ waitsOn ops p.1 p.2 = true) (hZ : ∀ p, p ∈ cons → ∀ u w S b, J p.2 u w S → S b → Z w b) (hop : ∀ i, i < n → OpOkU P ops a0 w0 n J cons i)
    (hL : ∀ u w, KnownU ops w0 n J cons (doneA n ops.size) u w → Lq (fr ops a0 u n) w) :
    ∀ (f : Nat) (listed : Array Bool) (u : Nat → Value) (w : World), HeadInv .any ops n listed → cnt listed n = f → KnownU ops w0 n J cons listed u w →
      wpAnyC P .any ops n (fun listed' a' w' => Region.seqB .any ops (ops.size - n) n listed' = true ∧ Lq a' w') f (fun _ => True) listed (fr ops a0 u n) w := by
  simp only [freeB, Bool.and_eq_true, decide_eq_true_eq] at hB
  obtain ⟨⟨⟨⟨⟨⟨⟨hsel, hn⟩, hs⟩, hc⟩, hord⟩, hdst⟩, hcons⟩, hseq⟩ := hB
  have hdist : ∀ i j, i < n → j < n → i ≠ j → ∀ x, dstOf ops i = some x → dstOf ops j ≠ some x := fun i j hi hj hne x hx => by
    have h1 := List.all_eq_true.1 (List.all_eq_true.1 hdst i (List.mem_range.2 hi)) j (List.mem_range.2 hj)
    simp only [hx, Bool.or_eq_true, decide_eq_true_eq] at h1
    rcases h1 with h1 | h1
    · exact absurd h1 hne
    · exact h1
  intro f
  induction f with
  | zero =>
    intro listed u w inv hcnt hK
    have hall := cnt_zero hcnt
    have he : listed = doneA n ops.size := by
      apply Array.ext
      · simp [doneA, inv.size]; omega
      · intro i h1 h2
        have hi : i < ops.size := by rw [← inv.size]; exact h1
        by_cases hin : i < n
        · have := hall i hin
          simp [h1] at this
          rw [this]
          simp [doneA, hin]
        · have := inv.tail i (by omega) hi
          simp [h1] at this
          rw [this]
          simp [doneA, Array.getElem_append, hin]
    subst he
    exact ⟨hseq, hL u w hK⟩
  | succ f ih =>
    intro listed u w inv hcnt hK
    obtain ⟨i0, hi0, hun0, hbelow⟩ := cnt_pos (listed := listed) (k := n) (by omega)
    have hlt : ∀ i, i < n → i < listed.size := fun i hi => by rw [inv.size]; omega
    have hboth : ∀ j, j < n → listed.getD j true = true → listed.getD j false = true := fun j hj h => by simpa [hlt j hj] using h
    have hr0 : i0 ∈ Region.ready .any ops listed := by
      refine mem_ready.2 ⟨hun0, ?_⟩
      have h1 := List.all_eq_true.1 hord i0 (List.mem_range.2 hi0)
      cases ho : ops[i0]? with
      | none => simp [ho] at h1
      | some o =>
        refine ⟨o, rfl, fun e he hb => ?_⟩
        simp only [ho] at h1
        have h2 := Array.all_eq_true'.1 h1 e he
        simp only [hb, Bool.not_true, Bool.false_or, decide_eq_true_eq] at h2
        exact hboth _ (by omega) (hbelow e.on h2)
    refine ⟨(fun h => by rw [h] at hr0; cases hr0), fun i hi => ?_⟩
    have hin : i < n := by
      rcases Nat.lt_or_ge i n with h | h
      · exact h
      · exact absurd hi (tail_waits hs hc hn inv _ i0 rfl hi0 hun0 i h)
    refine ⟨hin, ?_⟩
    obtain ⟨hun, o, ho, hall⟩ := mem_ready.1 hi
    obtain ⟨hE, hcl, S, hJ, hrng, hdis⟩ := hK
    have hwi : ∀ d, d < n → waitsOn ops i d = true → listed.getD d true = true := fun d hdn hw => by
      obtain ⟨oj, hoj, e, he, hb, hon⟩ := Region.waitsFor_spec hw
      have : oj = o := Option.some.inj (hoj.symm.trans ho)
      subst this
      have hl := hall e he hb
      rw [hon] at hl
      simpa [hlt d hdn] using hl
    have hpre : ∀ d, d < n → waitsOn ops i d = true → J d u w (S d) := (fun d hdn hw => by
      obtain ⟨oj, hoj, e, he, hb, hon⟩ := Region.waitsFor_spec hw
      have : oj = o := Option.some.inj (hoj.symm.trans ho)
      subst this
      have hl := hall e he hb
      rw [hon] at hl
      have hl' : listed.getD d true = true := by simpa [hlt d hdn] using hl
      rcases hJ d hdn hl' with ⟨c, hcc, hcn, hcl⟩ | h
      · have h1 := List.all_eq_true.1 hcons (c, d) hcc
        simp only [Bool.and_eq_true, decide_eq_true_eq] at h1
        have h2 := List.all_eq_true.1 h1.2 i (List.mem_range.2 hin)
        simp only [Bool.or_eq_true, decide_eq_true_eq, hw, Bool.not_true, Bool.false_eq_true, or_false] at h2
        subst h2
        rw [hun] at hcl
        cases hcl
      · exact h)
    have hstep := hop i hin u w S o ho hE hrng hdis hpre
    refine cOp_mono (fun a' w' h => ?_) (cOp_of_list ho hstep)
    obtain ⟨v, rfl, hU, hv⟩ := h
    refine ⟨fun _ => True, fun _ _ => trivial, trivial, ?_⟩
    have hd' : o.dst = dstOf ops i := by simp [dstOf, ho]
    rw [hd', fr_put hdist hin]
    refine ih _ _ _ (inv.set hi hin) ?_ (known_stepU hloc hdep hin (hlt i hin) hun hcl hwi (fun d b hc hs => hZ (i, d) hc u w (S d) b (hpre d (hcw _ hc).1 (hcw _ hc).2) hs) hE hJ hrng hdis hU hv)
    have := cnt_set (hlt i hin) hun hin
    omega

theorem wp_region_freeU (Z : World → Nat → Prop) {id : Nat} {Q : Exit → Act → World → Prop} {w : World} {l : List Oper} (n : Nat) (J : Nat → FactU) (cons : List (Nat × Nat)) (hm : P.follows .mixedOrders = true)
    (hB : freeB l.toArray n cons = true) (hloc : ∀ i, i < n → LocalU Z w.drew (J i)) (hdep : ∀ i, i < n → DepU l.toArray n i (J i)) (hcw : ∀ p, p ∈ cons → p.2 < n ∧ waitsOn l.toArray p.1 p.2 = true) (hZ : ∀ p, p ∈ cons → ∀ u w S b, J p.2 u w S → S b → Z w b) (hop : ∀ i, i < n → OpOkU P l.toArray a0 w.drew n J cons i)
    (hL : ∀ u w' (S : Nat → Nat → Prop), Ext w.drew w' → (∀ i, i < n → (∀ c, (c, i) ∉ cons) → J i u w' (S i)) → (∀ i b, S i b → w.drew.heap.size ≤ b ∧ b < w'.heap.size) → (∀ i j b, S i b → S j b → i = j) → wpList P l.toArray Q (l.drop n) (fr l.toArray a0 u n) w') : (Code.region id l.toArray true).wp P Q a0 w := by
  have hB' := hB
  simp only [freeB, Bool.and_eq_true, decide_eq_true_eq] at hB'
  obtain ⟨⟨⟨⟨⟨⟨⟨hsel, hn⟩, hs⟩, hc⟩, hord⟩, hdst⟩, hcons⟩, hseq⟩ := hB'
  have hn2 : n < l.length := by simpa using hn
  have hdl : (l.drop n).length = l.toArray.size - n := by simp
  have inv0 : HeadInv .any l.toArray n (Array.replicate l.toArray.size false) :=
    ⟨by simp, fun j oj _ hl => (by rw [getD_replicate_false] at hl; cases hl), fun t _ ht => getD_in (by simpa using ht) (getD_replicate_false _ _)⟩
  obtain ⟨u0, hu0⟩ := fr_self (ops := l.toArray) (a0 := a0) n
  have H := free_runU (P := P) (a0 := a0) (Lq := fun a' w' => wpList P l.toArray Q (l.drop n) a' w') hB hloc hdep hcw hZ hop (fun u w' ⟨hE, _, S, hJ, hrg, hdj⟩ => hL u w' S hE (fun i hi hno => by
      rcases hJ i hi (doneA_at hi) with ⟨c, hcc, _⟩ | h
      · exact absurd hcc (hno c)
      · exact h) hrg hdj) n _ u0 w.drew inv0 (cnt_new _ _ (by omega)) ⟨Upd.refl _ _, (fun j hj hl => by
        have : (Array.replicate l.toArray.size false).getD j true = false := by
          have : j < l.length := by omega
          simp [this]
        rw [this] at hl; cases hl), fun _ _ => False, (fun i hi hl => by
        have : (Array.replicate l.toArray.size false).getD i true = false := by
          have : i < l.length := by omega
          simp [this]
        rw [this] at hl; cases hl), fun _ _ h => h.elim, fun _ _ _ h => h.elim⟩
  rw [hu0] at H
  refine wp_region_any hm ?_
  have := wpAny_of_C (Q' := Q) (g := l.toArray.size - n) (fun listed a' w' hL => by
    have := wpAny_of_seq (md := .any) (Q' := Q) (l.drop n) n listed a' w' (fun j => by simp [List.getElem?_drop]) (by rw [hdl]; exact hL.1) hL.2
    rwa [hdl] at this) _ _ _ _ _ H
  rw [show n + (l.toArray.size - n) = l.toArray.size by omega] at this
  exact this
end law
end
/- The law of regions whose order is open, by facts, once more: an operation need not be told what another one has consumed. -/
section

def consB2 (cons : List (Nat × Nat)) : Bool := cons.all fun p => cons.all fun q => !decide (q.2 = p.2) || decide (q.1 = p.1)
def freeB2 (ops : Array Oper) (n : Nat) (cons : List (Nat × Nat)) : Bool :=
  Region.noSelect ops && decide (n < ops.size) && Region.sinkB .any ops n && Region.chainB .any ops n && ordB ops n && dstB ops n && consB2 cons && Region.seqB .any ops (ops.size - n) n (doneA n ops.size)

/-- An operation is walked. -/
def OpOkV (P : Program) (ops : Array Oper) (a0 : Act) (w0 : World) (n : Nat) (J : Nat → FactU) (cons : List (Nat × Nat)) (i : Nat) : Prop :=
  ∀ (u : Nat → Value) (w : World) (S : Nat → Nat → Prop) (o : Oper), ops[i]? = some o → Ext w0 w → (∀ i b, S i b → w0.heap.size ≤ b ∧ b < w.heap.size) → (∀ i j b, S i b → S j b → i = j) →
    (∀ d, d < n → waitsOn ops i d = true → (∀ c, (c, d) ∈ cons → c = i) → J d u w (S d)) →
    wpList P ops (Exit.then (fun a' w' => ∃ v, a' = (fr ops a0 u n).put o.dst v ∧ Upd (fun b => ∃ d, (i, d) ∈ cons ∧ S d b) w w' ∧ J i (updf u i v) w' (fun b => (w.heap.size ≤ b ∧ b < w'.heap.size) ∨ ∃ d, (i, d) ∈ cons ∧ S d b)) noQ) [o] (fr ops a0 u n) w

section law
variable {P : Program} {ops : Array Oper} {a0 : Act} {w0 : World} {n : Nat} {J : Nat → FactU} {cons : List (Nat × Nat)} {Z : World → Nat → Prop}

theorem free_runV {Lq : Act → World → Prop} (hB : freeB2 ops n cons = true) (hloc : ∀ i, i < n → LocalU Z w0 (J i)) (hdep : ∀ i, i < n → DepU ops n i (J i)) (hcw : ∀ p, p ∈ cons → p.2 < n ∧ waitsOn ops p.1 p.2 = true) (hZ : ∀ p, p ∈ cons → ∀ u w S b, J p.2 u w S → S b → Z w b) (hop : ∀ i, i < n → OpOkV P ops a0 w0 n J cons i)
    (hL : ∀ u w, KnownU ops w0 n J cons (doneA n ops.size) u w → Lq (fr ops a0 u n) w) :
    ∀ (f : Nat) (listed : Array Bool) (u : Nat → Value) (w : World), HeadInv .any ops n listed → cnt listed n = f → KnownU ops w0 n J cons listed u w →
      wpAnyC P .any ops n (fun listed' a' w' => Region.seqB .any ops (ops.size - n) n listed' = true ∧ Lq a' w') f (fun _ => True) listed (fr ops a0 u n) w := by
  simp only [freeB2, Bool.and_eq_true, decide_eq_true_eq] at hB
  obtain ⟨⟨⟨⟨⟨⟨⟨hsel, hn⟩, hs⟩, hc⟩, hord⟩, hdst⟩, hcons⟩, hseq⟩ := hB
  have hdist : ∀ i j, i < n → j < n → i ≠ j → ∀ x, dstOf ops i = some x → dstOf ops j ≠ some x := fun i j hi hj hne x hx => by
    have h1 := List.all_eq_true.1 (List.all_eq_true.1 hdst i (List.mem_range.2 hi)) j (List.mem_range.2 hj)
    simp only [hx, Bool.or_eq_true, decide_eq_true_eq] at h1
    rcases h1 with h1 | h1
    · exact absurd h1 hne
    · exact h1
  intro f
  induction f with
  | zero =>
    intro listed u w inv hcnt hK
    have hall := cnt_zero hcnt
    have he : listed = doneA n ops.size := by
      apply Array.ext
      · simp [doneA, inv.size]; omega
      · intro i h1 h2
        have hi : i < ops.size := by rw [← inv.size]; exact h1
        by_cases hin : i < n
        · have := hall i hin
          simp [h1] at this
          rw [this]
          simp [doneA, hin]
        · have := inv.tail i (by omega) hi
          simp [h1] at this
          rw [this]
          simp [doneA, Array.getElem_append, hin]
    subst he
    exact ⟨hseq, hL u w hK⟩
  | succ f ih =>
    intro listed u w inv hcnt hK
    obtain ⟨i0, hi0, hun0, hbelow⟩ := cnt_pos (listed := listed) (k := n) (by omega)
    have hlt : ∀ i, i < n → i < listed.size := fun i hi => by rw [inv.size]; omega
    have hboth : ∀ j, j < n → listed.getD j true = true → listed.getD j false = true := fun j hj h => by simpa [hlt j hj] using h
    have hr0 : i0 ∈ Region.ready .any ops listed := by
      refine mem_ready.2 ⟨hun0, ?_⟩
      have h1 := List.all_eq_true.1 hord i0 (List.mem_range.2 hi0)
      cases ho : ops[i0]? with
      | none => simp [ho] at h1
      | some o =>
        refine ⟨o, rfl, fun e he hb => ?_⟩
        simp only [ho] at h1
        have h2 := Array.all_eq_true'.1 h1 e he
        simp only [hb, Bool.not_true, Bool.false_or, decide_eq_true_eq] at h2
        exact hboth _ (by omega) (hbelow e.on h2)
    refine ⟨(fun h => by rw [h] at hr0; cases hr0), fun i hi => ?_⟩
    have hin : i < n := by
      rcases Nat.lt_or_ge i n with h | h
      · exact h
      · exact absurd hi (tail_waits hs hc hn inv _ i0 rfl hi0 hun0 i h)
    refine ⟨hin, ?_⟩
    obtain ⟨hun, o, ho, hall⟩ := mem_ready.1 hi
    obtain ⟨hE, hcl, S, hJ, hrng, hdis⟩ := hK
    have hwi : ∀ d, d < n → waitsOn ops i d = true → listed.getD d true = true := fun d hdn hw => by
      obtain ⟨oj, hoj, e, he, hb, hon⟩ := Region.waitsFor_spec hw
      have : oj = o := Option.some.inj (hoj.symm.trans ho)
      subst this
      have hl := hall e he hb
      rw [hon] at hl
      simpa [hlt d hdn] using hl
    have hpre : ∀ d, d < n → waitsOn ops i d = true → (∀ c, (c, d) ∈ cons → c = i) → J d u w (S d) := (fun d hdn hw huq => by
      obtain ⟨oj, hoj, e, he, hb, hon⟩ := Region.waitsFor_spec hw
      have : oj = o := Option.some.inj (hoj.symm.trans ho)
      subst this
      have hl := hall e he hb
      rw [hon] at hl
      have hl' : listed.getD d true = true := by simpa [hlt d hdn] using hl
      rcases hJ d hdn hl' with ⟨c, hcc, hcn, hcl⟩ | h
      · rw [huq c hcc, hun] at hcl
        cases hcl
      · exact h)
    have huniq : ∀ d, (i, d) ∈ cons → ∀ c, (c, d) ∈ cons → c = i := fun d hid c hcd => by
      have h1 := List.all_eq_true.1 (List.all_eq_true.1 hcons (i, d) hid) (c, d) hcd
      simpa using h1
    have hstep := hop i hin u w S o ho hE hrng hdis hpre
    refine cOp_mono (fun a' w' h => ?_) (cOp_of_list ho hstep)
    obtain ⟨v, rfl, hU, hv⟩ := h
    refine ⟨fun _ => True, fun _ _ => trivial, trivial, ?_⟩
    have hd' : o.dst = dstOf ops i := by simp [dstOf, ho]
    rw [hd', fr_put hdist hin]
    refine ih _ _ _ (inv.set hi hin) ?_ (known_stepU hloc hdep hin (hlt i hin) hun hcl hwi (fun d b hc hs => hZ (i, d) hc u w (S d) b (hpre d (hcw _ hc).1 (hcw _ hc).2 (huniq d hc)) hs) hE hJ hrng hdis hU hv)
    have := cnt_set (hlt i hin) hun hin
    omega

theorem wp_region_freeV (Z : World → Nat → Prop) {id : Nat} {Q : Exit → Act → World → Prop} {w : World} {l : List Oper} (n : Nat) (J : Nat → FactU) (cons : List (Nat × Nat)) (hm : P.follows .mixedOrders = true)
    (hB : freeB2 l.toArray n cons = true) (hloc : ∀ i, i < n → LocalU Z w.drew (J i)) (hdep : ∀ i, i < n → DepU l.toArray n i (J i)) (hcw : ∀ p, p ∈ cons → p.2 < n ∧ waitsOn l.toArray p.1 p.2 = true) (hZ : ∀ p, p ∈ cons → ∀ u w S b, J p.2 u w S → S b → Z w b) (hop : ∀ i, i < n → OpOkV P l.toArray a0 w.drew n J cons i)
    (hL : ∀ u w' (S : Nat → Nat → Prop), Ext w.drew w' → (∀ i, i < n → (∀ c, (c, i) ∉ cons) → J i u w' (S i)) → (∀ i b, S i b → w.drew.heap.size ≤ b ∧ b < w'.heap.size) → (∀ i j b, S i b → S j b → i = j) → wpList P l.toArray Q (l.drop n) (fr l.toArray a0 u n) w') : (Code.region id l.toArray true).wp P Q a0 w := by
  have hB' := hB
  simp only [freeB2, Bool.and_eq_true, decide_eq_true_eq] at hB'
  obtain ⟨⟨⟨⟨⟨⟨⟨hsel, hn⟩, hs⟩, hc⟩, hord⟩, hdst⟩, hcons⟩, hseq⟩ := hB'
  have hn2 : n < l.length := by simpa using hn
  have hdl : (l.drop n).length = l.toArray.size - n := by simp
  have inv0 : HeadInv .any l.toArray n (Array.replicate l.toArray.size false) :=
    ⟨by simp, fun j oj _ hl => (by rw [getD_replicate_false] at hl; cases hl), fun t _ ht => getD_in (by simpa using ht) (getD_replicate_false _ _)⟩
  obtain ⟨u0, hu0⟩ := fr_self (ops := l.toArray) (a0 := a0) n
  have H := free_runV (P := P) (a0 := a0) (Lq := fun a' w' => wpList P l.toArray Q (l.drop n) a' w') hB hloc hdep hcw hZ hop (fun u w' ⟨hE, _, S, hJ, hrg, hdj⟩ => hL u w' S hE (fun i hi hno => by
      rcases hJ i hi (doneA_at hi) with ⟨c, hcc, _⟩ | h
      · exact absurd hcc (hno c)
      · exact h) hrg hdj) n _ u0 w.drew inv0 (cnt_new _ _ (by omega)) ⟨Upd.refl _ _, (fun j hj hl => by
        have : (Array.replicate l.toArray.size false).getD j true = false := by
          have : j < l.length := by omega
          simp [this]
        rw [this] at hl; cases hl), fun _ _ => False, (fun i hi hl => by
        have : (Array.replicate l.toArray.size false).getD i true = false := by
          have : i < l.length := by omega
          simp [this]
        rw [this] at hl; cases hl), fun _ _ h => h.elim, fun _ _ _ h => h.elim⟩
  rw [hu0] at H
  refine wp_region_any hm ?_
  have := wpAny_of_C (Q' := Q) (g := l.toArray.size - n) (fun listed a' w' hL => by
    have := wpAny_of_seq (md := .any) (Q' := Q) (l.drop n) n listed a' w' (fun j => by simp [List.getElem?_drop]) (by rw [hdl]; exact hL.1) hL.2
    rwa [hdl] at this) _ _ _ _ _ H
  rw [show n + (l.toArray.size - n) = l.toArray.size by omega] at this
  exact this
end law
end
/- A region whose order is open, walked whole: as the law of XPlan, for regions whose last operation is not forced (the plan lists all operations). -/
section
section
variable {P : Program} {ops : Array Oper} {md : Region.Mode} {C : World → Prop}
theorem wpAnyC_firstW {i : Nat} {oi : Oper} {v : Value} {L : Array Bool → Act → World → Prop} (hi : ops[i]? = some oi) (hsel : ∀ (j : Nat) (o : Oper) cs b, ops[j]? = some o → o.op ≠ .select cs b)
    (hdone : ∀ listed a w, L listed a w → ∀ j ∈ Region.ready md ops listed, ops.size ≤ j) :
    ∀ (f : Nat) (C : World → Prop) (listed : Array Bool) (a : Act) (w : World), C w →
      (∀ j oj, ops[j]? = some oj → j ≠ i → listed.getD j true = false → (∀ e ∈ oj.after, Region.binds md e = true → e.on ≠ i) → oi.apart ops oj = true) →
      i ∈ Region.ready md ops listed → YieldsC P ops C oi v a →
      wpAnyC P md ops ops.size L f C (listed.setIfInBounds i true) (a.put oi.dst v) w → wpAnyC P md ops ops.size L (f + 1) C listed a w := by
  have hlt : ∀ {j : Nat} {listed : Array Bool}, j ∈ Region.ready md ops listed → j < ops.size := fun h => by
    obtain ⟨-, o, ho, -⟩ := mem_ready.1 h
    exact (Array.getElem?_eq_some_iff.1 ho).1
  intro f
  induction f with
  | zero =>
    intro C listed a w hC _ hr hy H
    refine ⟨fun h => (by rw [h] at hr; cases hr), fun j hj => ?_⟩
    have hjn := hlt hj
    refine ⟨hjn, ?_⟩
    by_cases hji : j = i
    · subst hji; exact hy.cOp hC hi ⟨C, fun _ h => h, hC, H⟩
    · have := hdone _ _ _ H j (ready_mono hj hji)
      omega
  | succ f ih =>
    intro C listed a w hC hfree hr hy H
    have hun := (mem_ready.1 hr).1
    refine ⟨fun h => (by rw [h] at hr; cases hr), fun j hj => ?_⟩
    have hjn := hlt hj
    refine ⟨hjn, ?_⟩
    by_cases hji : j = i
    · subst hji; exact hy.cOp hC hi ⟨C, fun _ h => h, hC, H⟩
    · have h1 := (H.2 j (ready_mono hj hji)).2
      obtain ⟨hjun, oj, hoj, hall⟩ := mem_ready.1 hj
      have hnot : ∀ e ∈ oj.after, Region.binds md e = true → e.on ≠ i := fun e he hb heq => by
        have h1 := hall e he hb
        rw [heq, getD_both hun] at h1
        cases h1
      have h2 := cOp_put hoj (hfree j oj hoj hji hjun hnot) (fun cs b => hsel i oi cs b hi) (fun cs b => hsel j oj cs b hoj) hy h1
      have hfree' : ∀ k ok, ops[k]? = some ok → k ≠ i → (listed.setIfInBounds j true).getD k true = false →
          (∀ e ∈ ok.after, Region.binds md e = true → e.on ≠ i) → oi.apart ops ok = true := fun k ok hk hki hun hno => by
        refine hfree k ok hk hki ?_ hno
        by_cases hjk : j = k
        · subst hjk; exact hjun
        · rw [getD_set_ne true hjk] at hun; exact hun
      refine cOp_mono (fun a' w' h3 => ?_) h2
      obtain ⟨hy3, C', hsub, hC', h4⟩ := h3
      refine ⟨C', hsub, hC', ih C' (listed.setIfInBounds j true) a' w' hC' hfree' (ready_mono hr (Ne.symm hji)) (hy3.narrow hsub) ?_⟩
      rw [Array.setIfInBounds_comm _ _ hji]
      exact h4
theorem wpAnyC_planW {Lq : Act → World → Prop} (hsel : Region.noSelect ops = true) :
    ∀ (plan : List (Bool × Nat)) (C : World → Prop) (listed : Array Bool) (a : Act) (w : World), C w →
    headB md ops ops.size 0 plan listed = true → wpHead P ops Lq plan C a w →
    wpAnyC P md ops ops.size (fun listed' a' w' => Region.seqB md ops 0 ops.size listed' = true ∧ Lq a' w') plan.length C listed a w
  | [], C, listed, a, w, _, hB, h => ⟨by simpa [headB] using hB, h⟩
  | (false, i) :: r, C, listed, a, w, hC, hB, h => by
    simp only [headB, Bool.and_eq_true, decide_eq_true_eq] at hB
    obtain ⟨⟨⟨hin, hr⟩, hf⟩, hB'⟩ := hB
    have hr' : i ∈ Region.ready md ops listed := by simpa using hr
    unfold wpHead at h
    split at h
    · exact h.elim
    · rename_i o ho
      have key : ∃ v, YieldsC P ops C o v a ∧ wpHead P ops Lq r C (a.put o.dst v) w := by
        by_cases hw : Region.wanted o (yielded ops a.tmps) = true
        · simp only [hw, if_true] at h
          obtain ⟨v, h1, h2⟩ := h
          exact ⟨v, .inl ⟨hw, h1⟩, h2⟩
        · simp only [hw] at h
          exact ⟨undef, .inr ⟨by simpa using hw, rfl⟩, h⟩
      obtain ⟨v, hy, hK⟩ := key
      exact wpAnyC_firstW ho (Region.noSelect_spec hsel) (fun listed' a' w' hL => seqB_ready hL.1) r.length C listed a w hC (Region.free_spec ho hf) hr' hy
        (wpAnyC_planW hsel r C _ _ w hC hB' hK)
  | (true, i) :: r, C, listed, a, w, hC, hB, h => by
    simp only [headB, Bool.and_eq_true, decide_eq_true_eq] at hB
    obtain ⟨⟨hin, hr⟩, hB'⟩ := hB
    refine ⟨by rw [hr]; simp, fun j hj => ?_⟩
    have hji : j = i := by rw [hr] at hj; simpa using hj
    subst hji
    exact ⟨hin, cOp_mono (fun a' w' h' => by
      obtain ⟨C', hsub, hC', h'⟩ := h'
      exact ⟨C', hsub, hC', wpAnyC_planW hsel r C' _ a' w' hC' hB' h'⟩) h⟩
end
def planWB (md : Region.Mode) (ops : Array Oper) (plan : List (Bool × Nat)) : Bool :=
  Region.noSelect ops && decide (plan.length = ops.size) && headB md ops ops.size 0 plan (Array.replicate ops.size false)
theorem wp_region_all {P : Program} {id : Nat} {Q : Exit → Act → World → Prop} {a : Act} {w : World} {l : List Oper} (S : World → Prop) (plan : List (Bool × Nat)) (hm : P.follows .mixedOrders = true)
    (hB : planWB .any l.toArray plan = true) (hC : S w.drew)
    (h : Nonempty (Wd S) → wpHead P l.toArray (fun a' w' => wpList P l.toArray Q [] a' w') plan (Cls S) a w.drew) : (Code.region id l.toArray true).wp P Q a w := by
  simp only [planWB, Bool.and_eq_true, decide_eq_true_eq] at hB
  obtain ⟨⟨hsel, hpl⟩, hlex⟩ := hB
  have H := wpAnyC_planW (md := .any) hsel plan (Cls S) _ a w.drew ⟨⟨_, hC⟩, rfl⟩ hlex (h ⟨⟨_, hC⟩⟩)
  refine wp_region_any hm ?_
  have := wpAny_of_C (Q' := Q) (g := 0) (fun listed a' w' hL => wpAny_of_seq (md := .any) (Q' := Q) [] l.toArray.size listed a' w' (fun j => by simp) hL.1 hL.2) _ _ _ _ _ H
  rw [hpl, Nat.add_zero] at this
  exact this
end
/- A region whose order is open, walked whole by a plan of three kinds of steps: 0 an operation that only reads (it yields one value in every world of the class), 2 one that reads no memory (one value in every world), 1 a loud one, when no other is ready. A loud operation of rs, that waits for all readers of the plan, may leave any class behind. -/
section
section
variable {P : Program} {ops : Array Oper} {md : Region.Mode} {rs : List Nat}
def wpAnyR (P : Program) (md : Region.Mode) (ops : Array Oper) (rs : List Nat) (L : Array Bool → Act → World → Prop) : Nat → (World → Prop) → Array Bool → Act → World → Prop
  | 0, _, listed, a, w => L listed a w
  | f + 1, C, listed, a, w =>
    Region.ready md ops listed ≠ [] ∧ ∀ i ∈ Region.ready md ops listed, cOp P ops i (fun a' w' => ∃ C' : World → Prop, (i ∈ rs ∨ ∀ w, C' w → C w) ∧ C' w' ∧ wpAnyR P md ops rs L f C' (listed.setIfInBounds i true) a' w') a w
theorem wpAny_of_R {g : Nat} {L : Array Bool → Act → World → Prop} {Q' : Exit → Act → World → Prop} (hL : ∀ listed a w, L listed a w → wpAny P md ops Q' g listed a w) :
    ∀ (f : Nat) (C : World → Prop) (listed : Array Bool) (a : Act) (w : World), wpAnyR P md ops rs L f C listed a w → wpAny P md ops Q' (f + g) listed a w
  | 0, _, listed, a, w, h => by rw [Nat.zero_add]; exact hL _ _ _ h
  | f + 1, C, listed, a, w, h => by
    rw [show f + 1 + g = (f + g) + 1 by omega]
    exact ⟨fun h0 => absurd h0 h.1, fun i hi => wpOp_of_cOp (fun a' w' h' => by obtain ⟨C', _, _, h'⟩ := h'; exact wpAny_of_R hL f C' _ a' w' h') (h.2 i hi)⟩
theorem wpAnyR_first {i : Nat} {oi : Oper} {v : Value} {L : Array Bool → Act → World → Prop} (hi : ops[i]? = some oi) (hsel : ∀ (j : Nat) (o : Oper) cs b, ops[j]? = some o → o.op ≠ .select cs b)
    (hdone : ∀ listed a w, L listed a w → ∀ j ∈ Region.ready md ops listed, ops.size ≤ j) (D : (World → Prop) → World → Prop) (hD : ∀ C w, C w → D C w)
    (hsub : ∀ j ∈ rs, ∀ oj, ops[j]? = some oj → (∀ C C' : World → Prop, ∀ w, D C' w → D C w) ∨ ∃ e ∈ oj.after, Region.binds md e = true ∧ e.on = i)
    (hmono : ∀ C C' : World → Prop, (∀ w, C' w → C w) → ∀ w, D C' w → D C w) :
    ∀ (f : Nat) (C : World → Prop) (listed : Array Bool) (a : Act) (w : World), C w →
      (∀ j oj, ops[j]? = some oj → j ≠ i → listed.getD j true = false → (∀ e ∈ oj.after, Region.binds md e = true → e.on ≠ i) → oi.apart ops oj = true) →
      i ∈ Region.ready md ops listed → YieldsC P ops (D C) oi v a →
      wpAnyR P md ops rs L f C (listed.setIfInBounds i true) (a.put oi.dst v) w → wpAnyR P md ops rs L (f + 1) C listed a w := by
  have hlt : ∀ {j : Nat} {listed : Array Bool}, j ∈ Region.ready md ops listed → j < ops.size := fun h => by
    obtain ⟨-, o, ho, -⟩ := mem_ready.1 h
    exact (Array.getElem?_eq_some_iff.1 ho).1
  intro f
  induction f with
  | zero =>
    intro C listed a w hC _ hr hy H
    refine ⟨fun h => (by rw [h] at hr; cases hr), fun j hj => ?_⟩
    have hjn := hlt hj
    by_cases hji : j = i
    · subst hji; exact hy.cOp (hD C w hC) hi ⟨C, .inr fun _ h => h, hC, H⟩
    · have := hdone _ _ _ H j (ready_mono hj hji)
      omega
  | succ f ih =>
    intro C listed a w hC hfree hr hy H
    have hun := (mem_ready.1 hr).1
    refine ⟨fun h => (by rw [h] at hr; cases hr), fun j hj => ?_⟩
    by_cases hji : j = i
    · subst hji; exact hy.cOp (hD C w hC) hi ⟨C, .inr fun _ h => h, hC, H⟩
    · have h1 := H.2 j (ready_mono hj hji)
      obtain ⟨hjun, oj, hoj, hall⟩ := mem_ready.1 hj
      have hnot : ∀ e ∈ oj.after, Region.binds md e = true → e.on ≠ i := fun e he hb heq => by
        have h1 := hall e he hb
        rw [heq, getD_both hun] at h1
        cases h1
      have h2 := cOp_put hoj (hfree j oj hoj hji hjun hnot) (fun cs b => hsel i oi cs b hi) (fun cs b => hsel j oj cs b hoj) hy h1
      have hfree' : ∀ k ok, ops[k]? = some ok → k ≠ i → (listed.setIfInBounds j true).getD k true = false →
          (∀ e ∈ ok.after, Region.binds md e = true → e.on ≠ i) → oi.apart ops ok = true := fun k ok hk hki hun hno => by
        refine hfree k ok hk hki ?_ hno
        by_cases hjk : j = k
        · subst hjk; exact hjun
        · rw [getD_set_ne true hjk] at hun; exact hun
      refine cOp_mono (fun a' w' h3 => ?_) h2
      obtain ⟨hy3, C', hsb, hC', h4⟩ := h3
      have hDD : ∀ w, D C' w → D C w := by
        rcases hsb with hr' | hs'
        · rcases hsub j hr' oj hoj with h5 | ⟨e, he, hb, ho⟩
          · exact h5 C C'
          · exact absurd ho (hnot e he hb)
        · exact hmono C C' hs'
      refine ⟨C', hsb, hC', ih C' (listed.setIfInBounds j true) a' w' hC' hfree' (ready_mono hr (Ne.symm hji)) (hy3.narrow hDD) ?_⟩
      rw [Array.setIfInBounds_comm _ _ hji]
      exact h4
def headRB (md : Region.Mode) (ops : Array Oper) (rs : List Nat) : List (Nat × Nat) → Array Bool → Bool
  | [], listed => Region.seqB md ops 0 ops.size listed
  | (0, i) :: r, listed => (Region.ready md ops listed).contains i && Region.free md ops listed i && (rs.all fun j => ((ops[j]?).map fun o => o.after.any fun e => Region.binds md e && decide (e.on = i)).getD false) && headRB md ops rs r (listed.setIfInBounds i true)
  | (1, i) :: r, listed => decide (Region.ready md ops listed = [i]) && headRB md ops rs r (listed.setIfInBounds i true)
  | (_ + 2, i) :: r, listed => (Region.ready md ops listed).contains i && Region.free md ops listed i && headRB md ops rs r (listed.setIfInBounds i true)
def anyW : World → Prop := fun _ => True
def wpHeadR (P : Program) (ops : Array Oper) (rs : List Nat) (L : Act → World → Prop) : List (Nat × Nat) → (World → Prop) → Act → World → Prop
  | [], _, a, w => L a w
  | (0, i) :: r, C, a, w =>
    match ops[i]? with
    | none => False
    | some o => if Region.wanted o (yielded ops a.tmps) then steady P o a C (fun a' => wpHeadR P ops rs L r C a' w) else wpHeadR P ops rs L r C (a.put o.dst undef) w
  | (1, i) :: r, C, a, w => cOp P ops i (fun a' w' => ∃ C' : World → Prop, (i ∈ rs ∨ ∀ w, C' w → C w) ∧ C' w' ∧ wpHeadR P ops rs L r C' a' w') a w
  | (_ + 2, i) :: r, C, a, w =>
    match ops[i]? with
    | none => False
    | some o => if Region.wanted o (yielded ops a.tmps) then steady P o a anyW (fun a' => wpHeadR P ops rs L r C a' w) else wpHeadR P ops rs L r C (a.put o.dst undef) w
theorem wpAnyR_plan {Lq : Act → World → Prop} (hsel : Region.noSelect ops = true) :
    ∀ (plan : List (Nat × Nat)) (C : World → Prop) (listed : Array Bool) (a : Act) (w : World), C w →
    headRB md ops rs plan listed = true → wpHeadR P ops rs Lq plan C a w →
    wpAnyR P md ops rs (fun listed' a' w' => Region.seqB md ops 0 ops.size listed' = true ∧ Lq a' w') plan.length C listed a w
  | [], C, listed, a, w, _, hB, h => ⟨by simpa [headRB] using hB, h⟩
  | (0, i) :: r, C, listed, a, w, hC, hB, h => by
    simp only [headRB, Bool.and_eq_true] at hB
    obtain ⟨⟨⟨hr, hf⟩, hrs⟩, hB'⟩ := hB
    have hr' : i ∈ Region.ready md ops listed := by simpa using hr
    unfold wpHeadR at h
    split at h
    · exact h.elim
    · rename_i o ho
      have key : ∃ v, YieldsC P ops C o v a ∧ wpHeadR P ops rs Lq r C (a.put o.dst v) w := by
        by_cases hw : Region.wanted o (yielded ops a.tmps) = true
        · simp only [hw, if_true] at h
          obtain ⟨v, h1, h2⟩ := h
          exact ⟨v, .inl ⟨hw, h1⟩, h2⟩
        · simp only [hw] at h
          exact ⟨undef, .inr ⟨by simpa using hw, rfl⟩, h⟩
      obtain ⟨v, hy, hK⟩ := key
      refine wpAnyR_first ho (Region.noSelect_spec hsel) (fun listed' a' w' hL => seqB_ready hL.1) (fun C => C) (fun _ _ h => h) (fun j hj oj hoj => .inr ?_) (fun _ _ h => h) r.length C listed a w hC (Region.free_spec ho hf) hr' hy
        (wpAnyR_plan hsel r C _ _ w hC hB' hK)
      have h3 := List.all_eq_true.1 hrs j hj
      rw [hoj] at h3
      simp only [Option.map_some, Option.getD_some, Array.any_eq_true'] at h3
      obtain ⟨e, he, h4⟩ := h3
      simp only [Bool.and_eq_true, decide_eq_true_eq] at h4
      exact ⟨e, he, h4.1, h4.2⟩
  | (1, i) :: r, C, listed, a, w, hC, hB, h => by
    simp only [headRB, Bool.and_eq_true, decide_eq_true_eq] at hB
    obtain ⟨hr, hB'⟩ := hB
    refine ⟨by rw [hr]; simp, fun j hj => ?_⟩
    have hji : j = i := by rw [hr] at hj; simpa using hj
    subst hji
    exact cOp_mono (fun a' w' h' => by
      obtain ⟨C', hsub, hC', h'⟩ := h'
      exact ⟨C', hsub, hC', wpAnyR_plan hsel r C' _ a' w' hC' hB' h'⟩) h
  | (k + 2, i) :: r, C, listed, a, w, hC, hB, h => by
    simp only [headRB, Bool.and_eq_true] at hB
    obtain ⟨⟨hr, hf⟩, hB'⟩ := hB
    have hr' : i ∈ Region.ready md ops listed := by simpa using hr
    unfold wpHeadR at h
    split at h
    · exact h.elim
    · rename_i o ho
      have key : ∃ v, YieldsC P ops anyW o v a ∧ wpHeadR P ops rs Lq r C (a.put o.dst v) w := by
        by_cases hw : Region.wanted o (yielded ops a.tmps) = true
        · simp only [hw, if_true] at h
          obtain ⟨v, h1, h2⟩ := h
          exact ⟨v, .inl ⟨hw, h1⟩, h2⟩
        · simp only [hw] at h
          exact ⟨undef, .inr ⟨by simpa using hw, rfl⟩, h⟩
      obtain ⟨v, hy, hK⟩ := key
      exact wpAnyR_first ho (Region.noSelect_spec hsel) (fun listed' a' w' hL => seqB_ready hL.1) (fun _ => anyW) (fun _ _ _ => trivial) (fun j hj oj hoj => .inl fun _ _ _ h => h) (fun _ _ _ _ h => h) r.length C listed a w hC (Region.free_spec ho hf) hr' hy
        (wpAnyR_plan hsel r C _ _ w hC hB' hK)
end
def planRB (md : Region.Mode) (ops : Array Oper) (rs : List Nat) (plan : List (Nat × Nat)) : Bool :=
  Region.noSelect ops && decide (plan.length = ops.size) && headRB md ops rs plan (Array.replicate ops.size false)
theorem wp_region_r {P : Program} {id : Nat} {Q : Exit → Act → World → Prop} {a : Act} {w : World} {l : List Oper} (S : World → Prop) (rs : List Nat) (plan : List (Nat × Nat)) (hm : P.follows .mixedOrders = true)
    (hB : planRB .any l.toArray rs plan = true) (hC : S w.drew)
    (h : Nonempty (Wd S) → wpHeadR P l.toArray rs (fun a' w' => wpList P l.toArray Q [] a' w') plan (Cls S) a w.drew) : (Code.region id l.toArray true).wp P Q a w := by
  simp only [planRB, Bool.and_eq_true, decide_eq_true_eq] at hB
  obtain ⟨⟨hsel, hpl⟩, hlex⟩ := hB
  have H := wpAnyR_plan (md := .any) hsel plan (Cls S) _ a w.drew ⟨⟨_, hC⟩, rfl⟩ hlex (h ⟨⟨_, hC⟩⟩)
  refine wp_region_any hm ?_
  have := wpAny_of_R (Q' := Q) (g := 0) (fun listed a' w' hL => wpAny_of_seq (md := .any) (Q' := Q) [] l.toArray.size listed a' w' (fun j => by simp) hL.1 hL.2) _ _ _ _ _ H
  rw [hpl, Nat.add_zero] at this
  exact this
section
variable {P : Program} {ops : Array Oper} {rs : List Nat}
theorem headR_nil {C : World → Prop} {L : Act → World → Prop} {a : Act} {w : World} (h : L a w) : wpHeadR P ops rs L [] C a w := h
theorem headR_q {C : World → Prop} {L : Act → World → Prop} {i : Nat} {r : List (Nat × Nat)} {o : Oper} {a : Act} {w : World} (ho : ops[i]? = some o)
    (h : ∀ K : Act → Prop, (∀ a, wpHeadR P ops rs L r C a w → K a) → if Region.wanted o (yielded ops a.tmps) then steady P o a C K else K (a.put o.dst undef)) :
    wpHeadR P ops rs L ((0, i) :: r) C a w := by
  unfold wpHeadR
  simp only [ho]
  exact h _ (fun _ h => h)
theorem headR_p {C : World → Prop} {L : Act → World → Prop} {i : Nat} {r : List (Nat × Nat)} {o : Oper} {a : Act} {w : World} (ho : ops[i]? = some o)
    (h : ∀ K : Act → Prop, (∀ a, wpHeadR P ops rs L r C a w → K a) → if Region.wanted o (yielded ops a.tmps) then steady P o a anyW K else K (a.put o.dst undef)) :
    wpHeadR P ops rs L ((2, i) :: r) C a w := by
  unfold wpHeadR
  simp only [ho]
  exact h _ (fun _ h => h)
theorem headR_l {C : World → Prop} {L : Act → World → Prop} {i : Nat} {r : List (Nat × Nat)} {o : Oper} {a : Act} {w : World} (ho : ops[i]? = some o)
    (h : wpList P ops (Exit.then (fun a' w' => ∃ C' : World → Prop, (i ∈ rs ∨ ∀ w, C' w → C w) ∧ C' w' ∧ wpHeadR P ops rs L r C' a' w') noQ) [o] a w) :
    wpHeadR P ops rs L ((1, i) :: r) C a w := by
  unfold wpHeadR cOp
  simp only [ho]
  unfold wpList at h
  split
  · rename_i hw
    rw [if_pos hw] at h
    rcases h with h | ⟨_, _, _, hf⟩
    · exact oper_wp_imp (fun a w hk => hk) (by
        unfold Oper.wp at *
        generalize (execOp a.eval o).run P w = r at *
        cases r with
        | ok n w' =>
          cases n <;> simp only [Oper.upon] at h ⊢ <;>
            first
              | exact h
              | exact Calls.mono h (fun e w'' he => by
                  cases e with
                  | returned v => exact he
                  | panicked c => exact he
                  | outgrown => obtain ⟨_, _, hf⟩ := he; exact hf.elim)
              | exact Rows.mono h (fun _ _ he => he)
        | halt x w' => cases x <;> simp only [Oper.upon] at h ⊢ <;> exact h)
    · exact hf.elim
  · rename_i hw
    rw [if_neg hw] at h
    exact h
end
end
/- A region whose order is open, in the round of a range over a function (the wide fence): by the plan of the lone walk. -/
section

section
variable {P : Program} {ops : Array Oper} {md : Region.Mode}

theorem wpOpIn_of_wpOp {i l n : Nat} {a : Act} {w : World} {K0 : Act → World → Prop} {K K' : Act → World → Prop} {Q : Exit → Act → World → Prop} (hdef : ∀ (j : Nat) (o : Oper) c, ops[j]? = some o → o.op ≠ .defer c) (h : ∀ a w, K a w → K' a w)
    (hh : wpOp P ops (Exit.then K0 noQ) i K a w) : wpOpIn (Fence.wide.inRound l) n P ops Q i K' a w := by
  unfold wpOp at hh
  unfold wpOpIn
  split
  · simp [*] at hh; exact h _ _ hh
  · rename_i o ho
    simp only [ho] at hh
    split
    · rename_i hw
      rw [if_pos hw] at hh
      rcases hh with hh | ⟨_, _, _, hf⟩
      · refine ⟨fun f _ => trivial, ?_⟩
        rw [Oper.semAt_eq _ _ _ (fun c => hdef i o c ho)]
        unfold Oper.wp at hh
        generalize (execOp a.eval o).run P w = r at *
        cases r with
        | ok nx w' =>
          cases nx <;> simp only [Oper.upon, Oper.uponIn] at hh ⊢
          case value => exact h _ _ hh
          case skip => exact h _ _ hh
          case defer => exact h _ _ hh
          case enter f args =>
            refine ⟨fun hd => by simp [Fence.wide] at hd, CallsIn.inRound l (callsIn_wide.2 (Calls.mono hh (fun e w'' he => by
              cases e with
              | returned v => exact h _ _ he
              | panicked c => exact he.elim
              | outgrown => obtain ⟨_, _, hf⟩ := he; exact hf.elim)))⟩
          case row rw args => exact ⟨fun hd => by simp [Fence.wide] at hd, fun c cs _ => let ⟨v, w'', r, s⟩ := hh c cs; ⟨v, w'', h _ _ r, stepsIn_wide.2 s⟩⟩
        | halt x w' => cases x <;> simp only [Oper.upon, Oper.uponIn] at hh ⊢ <;> exact hh.elim
      · exact hf.elim
    · rename_i hw
      rw [if_neg hw] at hh
      exact ⟨fun f _ => trivial, h _ _ hh⟩
theorem wpAnyIn_of_wpAny {l n : Nat} {K0 : Act → World → Prop} {Q : Exit → Act → World → Prop} (hdef : ∀ (j : Nat) (o : Oper) c, ops[j]? = some o → o.op ≠ .defer c) (hK : ∀ a w, K0 a w → Q .normal a w) :
    ∀ (f : Nat) (listed : Array Bool) (a : Act) (w : World), wpAny P md ops (Exit.then K0 noQ) f listed a w → wpAnyIn (Fence.wide.inRound l) n P md ops Q f listed a w
  | 0, listed, a, w, h => ⟨h.1, hK _ _ h.2⟩
  | f + 1, listed, a, w, h => ⟨fun h0 => hK _ _ (h.1 h0), fun i hi => wpOpIn_of_wpOp hdef (fun a' w' h' => wpAnyIn_of_wpAny hdef hK f _ a' w' h') (h.2 i hi)⟩
def noDefer (ops : List Oper) : Bool := ops.all fun o => match o.op with | .defer _ => false | _ => true
theorem noDefer_spec {l : List Oper} (h : noDefer l = true) : ∀ (j : Nat) (o : Oper) c, l.toArray[j]? = some o → o.op ≠ .defer c := fun j o c hj e => by
  have hm : o ∈ l := by rw [List.getElem?_toArray] at hj; exact List.mem_of_getElem? hj
  have := List.all_eq_true.1 h o hm
  simp [e] at this
theorem wpIn_region_plan {id ln n1 : Nat} {Q : Exit → Act → World → Prop} {a : Act} {w : World} {l : List Oper} (S : World → Prop) (n : Nat) (plan : List (Bool × Nat)) (hm : P.follows .mixedOrders = true)
    (hB : planB .any l.toArray n plan = true) (hD : noDefer l = true) (hC : S w.drew)
    (h : Nonempty (Wd S) → wpHead P l.toArray (fun a' w' => wpList P l.toArray (Exit.then (fun a w => Q .normal a w) noQ) (l.drop n) a' w') plan (Cls S) a w.drew) : (Code.region id l.toArray true).wpIn (Fence.wide.inRound ln) n1 P Q a w := by
  simp only [planB, Bool.and_eq_true, decide_eq_true_eq] at hB
  obtain ⟨⟨⟨⟨⟨hsel, hn⟩, hs⟩, hc⟩, hpl⟩, hlex⟩ := hB
  have hdl : (l.drop n).length = l.toArray.size - n := by simp
  have inv0 : HeadInv .any l.toArray n (Array.replicate l.toArray.size false) :=
    ⟨by simp, fun j oj _ hl => (by rw [getD_replicate_false] at hl; cases hl), fun t _ ht => getD_in (by simpa using ht) (getD_replicate_false _ _)⟩
  have H := wpAnyC_plan (md := .any) (g := l.toArray.size - n) hsel hs hc hn plan (Cls S) _ a w.drew ⟨⟨_, hC⟩, rfl⟩ inv0 hlex (h ⟨⟨_, hC⟩⟩)
  refine wpIn_region_any hm ?_
  have := wpAny_of_C (Q' := Exit.then (fun a w => Q .normal a w) noQ) (g := l.toArray.size - n) (fun listed a' w' hL => by
    have := wpAny_of_seq (md := .any) (Q' := Exit.then (fun a w => Q .normal a w) noQ) (l.drop n) n listed a' w' (fun j => by simp [List.getElem?_drop]) (by rw [hdl]; exact hL.1) hL.2
    rwa [hdl] at this) _ _ _ _ _ H
  rw [hpl, show n + (l.toArray.size - n) = l.toArray.size by omega] at this
  exact wpAnyIn_of_wpAny (noDefer_spec hD) (fun _ _ h => h) _ _ _ _ this
end
end
/- Slices of slices: the address behind a cut is a word of its own, so that a walk leaves it alone. -/
section
open Go.RowKit

/-- Where 's[k:]' begins, s of the capacity c at A. -/
def shA (A : Option Addr) (c k : Nat) : Option Addr := if c = k then A else A.map (·.add k)
theorem shA_none (c k : Nat) : shA none c k = none := by unfold shA; split <;> rfl
theorem shA_zero (A : Option Addr) (c : Nat) : shA A c 0 = A := by
  unfold shA
  split
  · rfl
  · cases A with
    | none => rfl
    | some a => simp [Addr.add]
theorem shA_some (g o c k : Nat) : shA (some ⟨g, o, none⟩) c k = some (if c = k then ⟨g, o, none⟩ else ⟨g, o + k, none⟩) := by
  unfold shA
  split
  · rfl
  · rw [Option.map_some, Addr.add_lit]
theorem inA_shA {A : Option Addr} {c k i : Nat} : inA (shA A c k) i ↔ inA A i := by
  unfold shA inA
  split
  · rfl
  · cases A with
    | none => rfl
    | some a => simp [Addr.add]; split <;> simp
section
variable {α : Type} [Inhabited α] {f : α → Value} {w : World} {A : Option Addr} {xs : List α} {B c : Nat} {e : TypeId} {vs : List Value}
theorem Sl.shA (h : Sl f w A xs) {k : Nat} (hc : xs.length ≤ c) : Sl f w (shA A c k) (xs.drop k) := by
  by_cases hk : c = k
  · rw [List.drop_of_length_le (by omega)]; exact Sl.nil (f := f)
  · rcases Nat.eq_zero_or_pos xs.length with h0 | h0
    · rw [List.eq_nil_of_length_eq_zero h0, List.drop_nil]; exact Sl.nil (f := f)
    · obtain ⟨b, o, rfl, _, _⟩ := h.open_ h0
      rw [shA_some, if_neg hk]
      exact h.drop k
omit [Inhabited α] in
theorem Ows.shA (h : Ows w B e A c vs) {k : Nat} (hk : k ≤ vs.length) : Ows w B e (shA A c k) (c - k) (vs.drop k) := by
  rcases h.2.2 with ⟨rfl, rfl⟩ | ⟨g, o, cur, rfl, _⟩
  · have h1 := h.1
    have h0 : vs = [] := List.eq_nil_of_length_eq_zero (by omega)
    subst h0
    rw [shA_none, List.drop_nil, Nat.zero_sub]
    exact Ows.nil
  · rw [shA_some]
    have := h.drop (k := k) hk
    by_cases h2 : c = k
    · rw [if_pos h2] at this ⊢; exact this
    · rw [if_neg h2] at this ⊢; exact this
end
section
variable {P : Program} {T e : TypeId} (hT : P.underlying T = some (.slice e)) (hs : (P.info? e).map (·.size) = some 1)
include hT hs
theorem run_cut_at (w : World) (A : Option Addr) (len cap l h m : Nat) : (((sizeOf (P.elem T)).run P w).andThen fun s w => .ok (sliced A l h m s) w) = .ok (.slice (shA A m l) (h - l) (m - l)) w := by
  have he : P.elem T = e := by simp [Program.elem, hT]
  cases hq : P.info? e with
  | none => simp [hq] at hs
  | some i =>
    have h1 : i.size = 1 := by simpa [hq] using hs
    simp [he, sizeOf, typeInfo, hq, h1, sliced, shA]
/-- s[l:] -/
theorem run_cut_l (A : Option Addr) (len cap l : Nat) (k : IntKind) (hl : l ≤ len) (w : World) : (Instr.sliceAt T (.slice A len cap) (some (.int k (l : Int))) none none).run P w = .ok (.slice (shA A cap l) (len - l) (cap - l)) w := by
  have hT' : P.underlying T = some (.slice (P.elem T)) := by simp [Program.elem, hT]
  rw [run_sliceAt_slice w T _ _ _ _ hT', run_slice_l w T A len cap hT' k l (by omega) (by omega)]
  exact run_cut_at hT hs w A len cap l len cap
/-- s[:h] -/
theorem run_cut_h (A : Option Addr) (len cap h : Nat) (k : IntKind) (hh : h ≤ cap) (w : World) : (Instr.sliceAt T (.slice A len cap) none (some (.int k (h : Int))) none).run P w = .ok (.slice A h cap) w := by
  have hT' : P.underlying T = some (.slice (P.elem T)) := by simp [Program.elem, hT]
  rw [run_sliceAt_slice w T _ _ _ _ hT', run_slice_h w T A len cap hT' k h (by omega) (by omega)]
  have := run_cut_at hT hs w A len cap 0 h cap
  rw [shA_zero] at this
  exact this
/-- s[l:h] -/
theorem run_cut_lh (A : Option Addr) (len cap l h : Nat) (k k' : IntKind) (hl : l ≤ h) (hh : h ≤ cap) (w : World) : (Instr.sliceAt T (.slice A len cap) (some (.int k (l : Int))) (some (.int k' (h : Int))) none).run P w = .ok (.slice (shA A cap l) (h - l) (cap - l)) w := by
  have hT' : P.underlying T = some (.slice (P.elem T)) := by simp [Program.elem, hT]
  rw [run_sliceAt_slice w T _ _ _ _ hT', run_slice_lh w T A len cap hT' k k' l h (by omega) (by omega) (by omega)]
  exact run_cut_at hT hs w A len cap l h cap
/-- s[:h:m] -/
theorem run_cut_hm (A : Option Addr) (len cap h m : Nat) (k k' : IntKind) (hh : h ≤ m) (hm : m ≤ cap) (w : World) : (Instr.sliceAt T (.slice A len cap) none (some (.int k (h : Int))) (some (.int k' (m : Int)))).run P w = .ok (.slice A h m) w := by
  have hT' : P.underlying T = some (.slice (P.elem T)) := by simp [Program.elem, hT]
  rw [run_sliceAt_slice w T _ _ _ _ hT', run_slice_hm w T A len cap hT' k k' h m (by omega) (by omega) (by omega)]
  have := run_cut_at hT hs w A len cap 0 h m
  rw [shA_zero] at this
  exact this
end
end
/- A copy onto a slice that is the call's own. -/
section
open Go.RowKit

/-- what lies there behind a copy -/
def onto {α : Type} (ys xs : List α) : List α := xs.take ys.length ++ ys.drop xs.length
theorem onto_length {α : Type} (ys xs : List α) : (onto ys xs).length = ys.length := by unfold onto; simp; omega
theorem onto_at {α : Type} [Inhabited α] (ys xs : List α) (i : Nat) (hi : i < ys.length) : gat (onto ys xs) i = if i < xs.length then gat xs i else gat ys i := by
  unfold onto
  rw [gat_lt (by simp; omega)]
  by_cases h : i < xs.length
  · rw [if_pos h, List.getElem_append_left (by simp; omega), List.getElem_take, gat_lt h]
  · rw [if_neg h, List.getElem_append_right (by simp; omega), List.getElem_drop, gat_lt hi]
    congr 1
    simp
    omega
theorem Own.arr {α : Type} [Inhabited α] {f : α → Value} {w : World} {B g c : Nat} {e : TypeId} {ys : List α} (h : Own w B e (some ⟨g, 0, none⟩) c (ys.map f)) : ∃ F : Nat → Value, Arr w g e c F ∧ ∀ i, i < ys.length → F i = f (gat ys i) := by
  have hr := h.row
  rcases h.2 with ⟨h0, _⟩ | ⟨g', cap, cur, hv, hb, hg, hn, hm, hcs, htake⟩
  · simp at h0
  · injection hv with hA _ hcc
    injection hA with hA
    injection hA with hA
    subst hA hcc
    refine ⟨fun i => cur.getD i default, ?_, fun i hi => ?_⟩
    · unfold Arr
      rw [hg]
      congr 2
      apply Array.ext
      · simp at hcs; simp [hcs]
      · intro i h1 h2
        simp [Array.getD, h1]
    · obtain ⟨cs, h1, h2, h3⟩ := hr
      rw [hg] at h1
      injection h1 with h1
      injection h1 with h1
      subst h1
      have h4 := h3 i hi
      show cur.getD i default = _
      rw [Array.getD_eq_getD_getElem?, h4]
      rfl
theorem wpList_copy_onto {P : Program} {w : World} {ops : Array Oper} {rest : List Oper} {o : Oper} {a : Act} {Q : Exit → Act → World → Prop} {α : Type} [Inhabited α] (enc : α → Value) (hone : ∀ x, (enc x).oneCell' = true) (ys xs : List α) (hgd : o.guard = none) {d s : Operand} {dT sT el : TypeId} (ho : o.op = .call { callee := .builtin .copy, args := #[d, s], argTypes := #[dT, sT] })
    (hu : P.underlying dT = some (.slice el)) (hsz : (P.info? el).map (·.size) = some 1) {g dl dc : Nat} (hd : a.eval d = .slice (some ⟨g, 0, none⟩) dl dc) {A : Option Addr} {sl sc : Nat} (hsv : a.eval s = .slice A sl sc)
    (hx : Sl enc w A xs) (hxl : xs.length = sl) (hyl : ys.length = dl) {B c : Nat} (hO : Own w B el (some ⟨g, 0, none⟩) c (ys.map enc))
    (h : ∀ w', Own w' B el (some ⟨g, 0, none⟩) c ((onto ys xs).map enc) → Upd (only g) w w' → wpList P ops Q rest (a.put o.dst (goInt (xs.take ys.length).length)) w') : wpList P ops Q (o :: rest) a w := by
  have hlen : (xs.take ys.length).length = Nat.min sl dl := by
    rw [List.length_take, hxl, hyl]
    exact Nat.min_comm _ _
  rcases Nat.eq_zero_or_pos (xs.take ys.length).length with h0 | h0
  · refine wpList_copy_nothing hgd d s dT sT ho el hu hsz _ _ _ _ _ _ hd hsv (by rw [← hlen]; exact h0) ?_
    have h1 : (onto ys xs) = ys := by
      have h2 : xs.take ys.length = [] := List.length_eq_zero_iff.1 h0
      unfold onto
      rw [h2, List.nil_append]
      rw [List.length_take] at h0
      rcases Nat.eq_zero_or_pos xs.length with h3 | h3
      · rw [h3]; rfl
      · have h4 : ys = [] := List.length_eq_zero_iff.1 (by omega)
        rw [h4]; simp
    have := h w (by rw [h1]; exact hO) (Upd.refl _ _)
    rwa [h0] at this
  · obtain ⟨F, hA, hF⟩ := hO.arr
    have hcap := hO.cap.1
    rw [List.length_map] at hcap
    refine wpList_copy_arr enc hone (xs.take ys.length) hgd ho hu hsz hd hsv (hx.take _) h0 hlen hA (by rw [List.length_take]; omega) fun w' hA' hU => ?_
    refine h w' (hO.of_row ⟨_, hA', by simp, fun i hi => ?_⟩ (by simp [onto_length])) hU
    rw [List.length_map, onto_length] at hi
    rw [List.getElem?_map, gat_some (by rw [onto_length]; exact hi), onto_at _ _ _ hi]
    rw [Array.getElem?_ofFn, dif_pos (by omega)]
    simp only [Nat.zero_le, true_and, Nat.zero_add, Nat.sub_zero, Option.map_some]
    congr 1
    by_cases h : i < xs.length
    · rw [if_pos h, if_pos (by rw [List.length_take]; omega), gat_take (by omega)]
    · rw [if_neg h, if_neg (by rw [List.length_take]; omega), hF i hi]
end
end Go.Proofs.Ytejjofjhcgdedaa
