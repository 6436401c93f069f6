/- Signatures, plainly. -/
import Derived.Test.YtbhhjfhepkbfgaaLbSgnB
namespace Go.Proofs.Ytbhhjfhepkbfgaa
set_option linter.unusedSimpArgs false
set_option linter.unusedVariables false
open Go.RowKit
open Nt Sha
attribute [local irreducible] sum
structure GOk (P Q G:Nat):Prop where
 one:G^Q % P=1
 two:2≤P
 sml:64<Q
theorem gok (r:Nat) (hr:r<3):GOk (grP r) (grQ r) (grG r):=by
 match r,hr with
 | 0,_=>exact⟨by rw[pow_is 70 (by decide)];decide+kernel,by decide,by decide⟩
 | 1,_=>exact⟨by rw[pow_is 70 (by decide)];decide+kernel,by decide,by decide⟩
 | 2,_=>exact⟨by rw[pow_is 70 (by decide)];decide+kernel,by decide,by decide⟩
section
variable {P Q G : Nat}
theorem one_pow_mod (h:2≤P) {a t:Nat} (ha:a % P=1):a^t % P=1:=by
 rw[Nat.pow_mod,ha,Nat.one_pow,Nat.mod_eq_of_lt (by omega)]
theorem mem_of {a:Nat} (h:GOk P Q G) (ha:a^Q % P=1):memB P Q (a % P)=true:=by
 have h1:(a % P)^Q % P=1:=by rw[←Nat.pow_mod];exact ha
 have h0:0<a % P:=by
  rcases Nat.eq_zero_or_pos (a % P)with h2 | h2
  · rw[h2,Nat.zero_pow (by have:=h.sml;omega),Nat.zero_mod]at h1;omega
  · exact h2
 unfold memB
 rw[decide_eq_true h0,decide_eq_true (Nat.mod_lt _ (by have:=h.two;omega)),decide_eq_true h1]
 rfl
theorem GOk.mem (h:GOk P Q G) (e:Nat):memB P Q (G^e % P)=true:=mem_of h (by rw[←Nat.pow_mul,Nat.mul_comm,Nat.pow_mul];exact one_pow_mod h.two h.one)
end
end Go.Proofs.Ytbhhjfhepkbfgaa
