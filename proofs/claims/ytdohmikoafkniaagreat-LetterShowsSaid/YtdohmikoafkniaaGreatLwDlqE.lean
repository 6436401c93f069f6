/- Equal exponents: Prove refused, the law's member, plain laws. -/
import Derived.Test.YtdohmikoafkniaaGreatLwDlqC
set_option maxRecDepth 100000
set_option maxHeartbeats 8000000
namespace Go.Proofs.YtdohmikoafkniaaGreat
set_option linter.unusedSimpArgs false
set_option linter.unusedVariables false
open Go.RowKit
open Nt Sha
attribute [local go_sem] steady steadyUpon Cls same_cell anyW
attribute [local irreducible] wpHead wpTree wpHeadR sum chalOf ansN
/-! ### plainly -/
section
variable {P Q : Nat}
theorem gok_of {a:Nat} (h:memB P Q a=true) (hP:2≤P) (hQ:64<Q):GOk P Q a:=⟨(memB_lt h).2.2,hP,hQ⟩
theorem GOk.pow_one {a:Nat} (h:GOk P Q a) (x:Nat):(a^x % P)^Q % P=1:=by
 rw[←Nat.pow_mod,←Nat.pow_mul,Nat.mul_comm,Nat.pow_mul];exact one_pow_mod h.two h.one
theorem GOk.opn_pv {a:Nat} (h:GOk P Q a) {x k c s:Nat} (hs:s % Q=(k+c*x) % Q) (hc:c≤Q):opn P Q a (a^x % P) s c=a^k % P:=by
 unfold opn
 rw[Nat.mul_mod,inv_pow' (h.pow_one x) h.two h.sml hc,←Nat.mul_mod]
 exact h.open_ hs hc
theorem pvC_lt (hQ:64<Q) (a b x:Nat) (side:List (BitVec 8)):pvC P Q a b x side<Q:=ansN_lt (by omega)
theorem pvS_lt (hQ:64<Q) (a b x:Nat) (side:List (BitVec 8)):pvS P Q a b x side<Q:=Nat.mod_lt _ (by omega)
theorem pvB_length (a b x:Nat) (side:List (BitVec 8)):(pvB P Q a b x side).length=2*byteSz Q:=by
 unfold pvB;rw[List.length_append,toB_length,toB_length];omega
theorem proved {a b:Nat} (ha:memB P Q a=true) (hb:memB P Q b=true) (hP:2≤P) (hQ:64<Q) (x:Nat) (side:List (BitVec 8)):dverB P Q a b (a^x % P) (b^x % P) side (pvB P Q a b x side)=true:=by
 have ga:=gok_of ha hP hQ
 have gb:=gok_of hb hP hQ
 have hc:=pvC_lt (P:=P) hQ a b x side
 have hs:=pvS_lt (P:=P) hQ a b x side
 have ht:(pvB P Q a b x side).take (byteSz Q)=toB (pvC P Q a b x side) (byteSz Q):=by
  unfold pvB;rw[List.take_append_of_le_length (by rw[toB_length];exact Nat.le_refl _),List.take_of_length_le (by rw[toB_length];exact Nat.le_refl _)]
 have hd:(pvB P Q a b x side).drop (byteSz Q)=toB (pvS P Q a b x side) (byteSz Q):=by
  unfold pvB;rw[List.drop_append_of_le_length (by rw[toB_length];exact Nat.le_refl _),List.drop_of_length_le (by rw[toB_length];exact Nat.le_refl _),List.nil_append]
 have hse:pvS P Q a b x side % Q=(pvK P Q a b x side+pvC P Q a b x side*x) % Q:=by
  unfold pvS;rw[Nat.mod_mod,Nat.add_mod,Nat.mod_mod,←Nat.add_mod]
 have h1:=ga.opn_pv hse (Nat.le_of_lt hc)
 have h2:=gb.opn_pv hse (Nat.le_of_lt hc)
 have hm:[a,b,a^x % P,b^x % P].all (memB P Q)=true:=by
  simp only[List.all_cons,List.all_nil,ha,hb,ga.mem x,gb.mem x];rfl
 unfold dverB
 rw[ht,hd,ofB_fix hc,ofB_fix hs,hm,decide_eq_true (pvB_length a b x side),decide_eq_true hc,decide_eq_true hs,h1,h2]
 simp only[Bool.true_and]
 exact decide_eq_true rfl
end
theorem sl4 {w:World} {g:Nat} {t:TypeId} {A:Option Addr} {xs:List (BitVec 8)} {a0 a1 a2 a3 b0 b1 b2 b3:Option Addr} {l0 l1 l2 l3 c0 c1 c2 c3 m0 m1 m2 m3 d0 d1 d2 d3:Nat} (h:Sl by8 w A xs) (hb:Blk w g t #[.slice a0 l0 c0,.slice a1 l1 c1,.slice a2 l2 c2,.slice a3 l3 c3]):
 Sl by8 ((((w.setCell ⟨g,0,none⟩ (.slice b0 m0 d0)).setCell ⟨g,1,none⟩ (.slice b1 m1 d1)).setCell ⟨g,2,none⟩ (.slice b2 m2 d2)).setCell ⟨g,3,none⟩ (.slice b3 m3 d3)) A xs:=by
 have hne:∀(A:Option Addr) (l c:Nat) (x:BitVec 8),by8 x≠.slice A l c:=fun _ _ _ _ h=>by cases h
 have h1:=h.far (v:=.slice b0 m0 d0) (hb.at 0 rfl) (hne _ _ _)
 have hb1:=hb.set 0 (.slice b0 m0 d0)
 have h2:=h1.far (v:=.slice b1 m1 d1) (hb1.at 1 rfl) (hne _ _ _)
 have hb2:=hb1.set 1 (.slice b1 m1 d1)
 have h3:=h2.far (v:=.slice b2 m2 d2) (hb2.at 2 rfl) (hne _ _ _)
 have hb3:=hb2.set 2 (.slice b2 m2 d2)
 exact h3.far (hb3.at 3 rfl) (hne _ _ _)
section
variable (gr P Q G H k : Nat) (w : World)
end
end Go.Proofs.YtdohmikoafkniaaGreat
