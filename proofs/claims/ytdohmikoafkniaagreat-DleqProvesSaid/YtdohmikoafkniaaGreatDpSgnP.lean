/- Signatures, plainly. -/
import Derived.Test.YtdohmikoafkniaaGreatDpSgnC
import Derived.Test.YtdohmikoafkniaaGreatDpSgnD
namespace Go.Proofs.YtdohmikoafkniaaGreat
set_option linter.unusedSimpArgs false
set_option linter.unusedVariables false
open Go.RowKit
open Nt Sha
attribute [local irreducible] sum chalOf
structure GOk (P Q G:Nat):Prop where
 one:G^Q % P=1
 two:2≤P
 sml:64<Q
theorem gok (r:Nat) (hr:r<3):GOk (grP r) (grQ r) (grG r):=by
 match r,hr with
 | 0,_=>exact⟨by rw[pow_is 70 (by decide)];decide+kernel,by decide,by decide⟩
 | 1,_=>exact⟨by rw[pow_is 70 (by decide)];decide+kernel,by decide,by decide⟩
 | 2,_=>exact⟨by rw[pow_is 70 (by decide)];decide+kernel,by decide,by decide⟩
section
variable {P Q G : Nat}
theorem one_pow_mod (h:2≤P) {a t:Nat} (ha:a % P=1):a^t % P=1:=by
 rw[Nat.pow_mod,ha,Nat.one_pow,Nat.mod_eq_of_lt (by omega)]
theorem GOk.red (h:GOk P Q G) (e:Nat):G^e % P=G^(e % Q) % P:=by
 conv=>lhs;rw[←Nat.div_add_mod e Q,Nat.pow_add,Nat.pow_mul,Nat.mul_mod,one_pow_mod h.two h.one,Nat.one_mul,Nat.mod_mod]
theorem GOk.cong (h:GOk P Q G) {a b:Nat} (e:a % Q=b % Q):G^a % P=G^b % P:=by rw[h.red a,h.red b,e]
theorem mem_of {a:Nat} (h:GOk P Q G) (ha:a^Q % P=1):memB P Q (a % P)=true:=by
 have h1:(a % P)^Q % P=1:=by rw[←Nat.pow_mod];exact ha
 have h0:0<a % P:=by
  rcases Nat.eq_zero_or_pos (a % P)with h2 | h2
  · rw[h2,Nat.zero_pow (by have:=h.sml;omega),Nat.zero_mod]at h1;omega
  · exact h2
 unfold memB
 rw[decide_eq_true h0,decide_eq_true (Nat.mod_lt _ (by have:=h.two;omega)),decide_eq_true h1]
 rfl
theorem GOk.mem (h:GOk P Q G) (e:Nat):memB P Q (G^e % P)=true:=mem_of h (by rw[←Nat.pow_mul,Nat.mul_comm,Nat.pow_mul];exact one_pow_mod h.two h.one)
theorem GOk.open_ (h:GOk P Q G) {k x c s:Nat} (hs:s % Q=(k+c*x) % Q) (hc:c≤Q):G^s*(G^x % P)^(Q - c) % P=G^k % P:=by
 rw[Nat.mul_mod,←Nat.pow_mod,←Nat.mul_mod,←Nat.pow_mul,←Nat.pow_add]
 refine h.cong ?_
 rw[Nat.add_mod,hs,←Nat.add_mod]
 have e:k+c*x+x*(Q - c)=k+x*Q:=by
  rw[Nat.mul_comm c x,Nat.add_assoc,←Nat.mul_add,show c+(Q - c)=Q by omega]
 rw[e,Nat.add_mul_mod_self_right]
theorem ofB_fix {c Q:Nat} (h:c<Q):ofB (toB c (byteSz Q))=c:=ofB_toB c _ (bytelen_le_iff.1 (byteSz_mono (Nat.le_of_lt h)))
end
end Go.Proofs.YtdohmikoafkniaaGreat
