/- Signatures, plainly. -/
import Derived.Test.YtbhhjfhepkbfgaaGreatWsSgnC
import Derived.Test.YtbhhjfhepkbfgaaGreatWsSgnD
namespace Go.Proofs.YtbhhjfhepkbfgaaGreat
set_option linter.unusedSimpArgs false
set_option linter.unusedVariables false
open Go.RowKit
open Nt Sha
attribute [local irreducible] sum chalOf
structure GOk (P Q G:Nat):Prop where
 one:G^Q % P=1
 two:2≤P
 sml:64<Q
theorem gok (r:Nat) (hr:r<3):GOk (grP r) (grQ r) (grG r):=by
 match r,hr with
 | 0,_=>exact⟨by rw[pow_is 70 (by decide)];decide+kernel,by decide,by decide⟩
 | 1,_=>exact⟨by rw[pow_is 70 (by decide)];decide+kernel,by decide,by decide⟩
 | 2,_=>exact⟨by rw[pow_is 70 (by decide)];decide+kernel,by decide,by decide⟩
section
variable {P Q G : Nat}
theorem one_pow_mod (h:2≤P) {a t:Nat} (ha:a % P=1):a^t % P=1:=by
 rw[Nat.pow_mod,ha,Nat.one_pow,Nat.mod_eq_of_lt (by omega)]
theorem GOk.red (h:GOk P Q G) (e:Nat):G^e % P=G^(e % Q) % P:=by
 conv=>lhs;rw[←Nat.div_add_mod e Q,Nat.pow_add,Nat.pow_mul,Nat.mul_mod,one_pow_mod h.two h.one,Nat.one_mul,Nat.mod_mod]
theorem GOk.cong (h:GOk P Q G) {a b:Nat} (e:a % Q=b % Q):G^a % P=G^b % P:=by rw[h.red a,h.red b,e]
theorem mem_of {a:Nat} (h:GOk P Q G) (ha:a^Q % P=1):memB P Q (a % P)=true:=by
 have h1:(a % P)^Q % P=1:=by rw[←Nat.pow_mod];exact ha
 have h0:0<a % P:=by
  rcases Nat.eq_zero_or_pos (a % P)with h2 | h2
  · rw[h2,Nat.zero_pow (by have:=h.sml;omega),Nat.zero_mod]at h1;omega
  · exact h2
 unfold memB
 rw[decide_eq_true h0,decide_eq_true (Nat.mod_lt _ (by have:=h.two;omega)),decide_eq_true h1]
 rfl
theorem GOk.mem (h:GOk P Q G) (e:Nat):memB P Q (G^e % P)=true:=mem_of h (by rw[←Nat.pow_mul,Nat.mul_comm,Nat.pow_mul];exact one_pow_mod h.two h.one)
theorem GOk.mem0 :memB P Q 0=false:=by unfold memB;rw[decide_eq_false (by omega)];rfl
theorem GOk.open_ (h:GOk P Q G) {k x c s:Nat} (hs:s % Q=(k+c*x) % Q) (hc:c≤Q):G^s*(G^x % P)^(Q - c) % P=G^k % P:=by
 rw[Nat.mul_mod,←Nat.pow_mod,←Nat.mul_mod,←Nat.pow_mul,←Nat.pow_add]
 refine h.cong ?_
 rw[Nat.add_mod,hs,←Nat.add_mod]
 have e:k+c*x+x*(Q - c)=k+x*Q:=by
  rw[Nat.mul_comm c x,Nat.add_assoc,←Nat.mul_add,show c+(Q - c)=Q by omega]
 rw[e,Nat.add_mul_mod_self_right]
theorem sgnC_lt (h:GOk P Q G) (x:Nat) (msg:List (BitVec 8)):sgnC P Q G x msg<Q:=chalOf_lt (by have:=h.sml;omega)
theorem sgnS_lt (h:GOk P Q G) (x:Nat) (msg:List (BitVec 8)):sgnS P Q G x msg<Q:=Nat.mod_lt _ (by have:=h.sml;omega)
theorem signB_length (P Q G x:Nat) (msg:List (BitVec 8)):(signB P Q G x msg).length=2*byteSz Q:=by
 unfold signB;rw[List.length_append,toB_length,toB_length];omega
theorem ofB_fix {c Q:Nat} (h:c<Q):ofB (toB c (byteSz Q))=c:=ofB_toB c _ (bytelen_le_iff.1 (byteSz_mono (Nat.le_of_lt h)))
theorem GOk.signed (h:GOk P Q G) (x:Nat) (msg:List (BitVec 8)):verB P Q G (G^x % P) msg (signB P Q G x msg)=true:=by
 have hc:=sgnC_lt h x msg
 have hs:=sgnS_lt h x msg
 have ht:(signB P Q G x msg).take (byteSz Q)=toB (sgnC P Q G x msg) (byteSz Q):=by
  unfold signB;rw[List.take_append_of_le_length (by rw[toB_length];exact Nat.le_refl _),List.take_of_length_le (by rw[toB_length];exact Nat.le_refl _)]
 have hd:(signB P Q G x msg).drop (byteSz Q)=toB (sgnS P Q G x msg) (byteSz Q):=by
  unfold signB;rw[List.drop_append_of_le_length (by rw[toB_length];exact Nat.le_refl _),List.drop_of_length_le (by rw[toB_length];exact Nat.le_refl _),List.nil_append]
 have ho:G^sgnS P Q G x msg*(G^x % P)^(Q - sgnC P Q G x msg) % P=G^sgnK Q x msg % P:=h.open_ (by unfold sgnS;rw[Nat.mod_mod,Nat.add_mod,Nat.mod_mod,←Nat.add_mod]) (Nat.le_of_lt hc)
 unfold verB
 rw[ht,hd,ofB_fix hc,ofB_fix hs,h.mem x,decide_eq_true (signB_length P Q G x msg),decide_eq_true hc,decide_eq_true hs,ho,decide_eq_true (show chalOf [sgnB,memBy P Q (G^sgnK Q x msg % P),memBy P Q (G^x % P),msg] Q=sgnC P Q G x msg by unfold sgnC;rfl)]
 simp only[Bool.and_true]
theorem verB_len {y:Nat} {msg sig:List (BitVec 8)} (h:sig.length≠2*byteSz Q):verB P Q G y msg sig=false:=by
 unfold verB;rw[decide_eq_false h,Bool.false_and]
end
end Go.Proofs.YtbhhjfhepkbfgaaGreat
