/- Plain numbers: a number is a prime where enough of what is one less is known in primes (Pocklington's law), with Fermat's little law on the way. -/
namespace Go.Proofs.Ytbhhjfhepkbfgaa
set_option linter.unusedSimpArgs false
set_option linter.unusedVariables false
namespace Pk
def Pr (p:Nat):Prop:=2≤p∧∀d,d ∣ p→d=1∨d=p
theorem Pr.coprime {p a:Nat} (hp:Pr p) (h:¬p ∣ a):Nat.Coprime p a:=by
 rcases hp.2 (Nat.gcd p a) (Nat.gcd_dvd_left p a)with h1 | h1
 · exact h1
 · exact absurd (h1▸Nat.gcd_dvd_right p a) h
theorem Pr.dvd_mul {p a b:Nat} (hp:Pr p) (h:p ∣ a*b):p ∣ a∨p ∣ b:=by
 by_cases ha:p ∣ a
 · exact .inl ha
 · exact .inr ((hp.coprime ha).dvd_of_dvd_mul_left h)
theorem exists_pr {n:Nat} (h:2≤n):∃p,Pr p∧p ∣ n:=by
 induction n using Nat.strongRecOn with
 | ind n ih=>
   by_cases hp:∀d,d ∣ n→d=1∨d=n
   · exact⟨n,⟨h,hp⟩,Nat.dvd_refl _⟩
   · obtain⟨d,hd⟩:=Classical.not_forall.1 hp
     obtain⟨h1,h2⟩:=Classical.not_imp.1 hd
     have hle:=Nat.le_of_dvd (by omega) h1
     have hd0:0<d:=Nat.pos_of_dvd_of_pos h1 (by omega)
     have hd1:d≠1:=fun e=>h2 (.inl e)
     have hd2:d≠n:=fun e=>h2 (.inr e)
     obtain⟨p,hp,hpd⟩:=ih d (by omega) (by omega)
     exact⟨p,hp,Nat.dvd_trans hpd h1⟩
theorem small_factor {n:Nat} (h:2≤n) (hn:¬Pr n):∃p,Pr p∧p ∣ n∧p*p≤n:=by
 have h0:∃d,d ∣ n∧d≠1∧d≠n:=by
  refine Classical.byContradiction fun hc=>hn ⟨h,fun d hd=>?_⟩
  refine Classical.byContradiction fun hc2=>hc ⟨d,hd,fun e=>hc2 (.inl e),fun e=>hc2 (.inr e)⟩
 obtain⟨d,⟨e,he⟩,hd1,hd2⟩:=h0
 have hd0:d≠0:=by rintro rfl;simp at he;omega
 have he0:e≠0:=by rintro rfl;simp at he;omega
 have he1:e≠1:=by rintro rfl;simp at he;omega
 obtain⟨m,hm,hmm,hm2⟩:∃m,m ∣ n∧m*m≤n∧2≤m:=by
  rcases Nat.le_total d e with hde | hde
  · exact⟨d,⟨e,he⟩,by rw[he];exact Nat.mul_le_mul_left d hde,by omega⟩
  · exact⟨e,⟨d,by rw[he,Nat.mul_comm]⟩,by rw[he];exact Nat.mul_le_mul_right e hde,by omega⟩
 obtain⟨p,hp,hpm⟩:=exists_pr hm2
 have hle:=Nat.le_of_dvd (by omega) hpm
 exact⟨p,hp,Nat.dvd_trans hpm hm,Nat.le_trans (Nat.mul_le_mul hle hle) hmm⟩
def bn :Nat→Nat→Nat
 | _,0=>1
 | 0,_+1=>0
 | n+1,k+1=>bn n k+bn n (k+1)
theorem bn_0 (n:Nat):bn n 0=1:=by cases n<;>rfl
theorem bn_0s (k:Nat):bn 0 (k+1)=0:=rfl
theorem bn_ss (n k:Nat):bn (n+1) (k+1)=bn n k+bn n (k+1):=rfl
theorem bn_out :∀{n k:Nat},n<k→bn n k=0
 | n,0,h=>absurd h (by omega)
 | 0,k+1,_=>rfl
 | n+1,k+1,h=>by rw[bn_ss,bn_out (by omega),bn_out (by omega)]
theorem bn_self :∀n,bn n n=1
 | 0=>rfl
 | n+1=>by rw[bn_ss,bn_self n,bn_out (by omega)]
theorem bn_absorb :∀n k,(k+1)*bn (n+1) (k+1)=(n+1)*bn n k:=by
 intro n
 induction n with
 | zero=>
   intro k
   cases k with
   | zero=>rfl
   | succ k=>rw[bn_ss,bn_0s,bn_0s];simp
 | succ n ih=>
   intro k
   cases k with
   | zero=>
     have h:=ih 0
     rw[bn_0]at h
     rw[bn_ss,bn_0]
     omega
   | succ k=>
     have h1:=ih k
     have h2:=ih (k+1)
     have e1:bn (n+1) (k+1)=bn n k+bn n (k+1):=rfl
     have e2:(n+1+1)*bn (n+1) (k+1)=(n+1)*bn n k+(n+1)*bn n (k+1)+bn (n+1) (k+1):=by
      rw[Nat.add_mul (n+1) 1,Nat.one_mul,←Nat.mul_add,←e1]
     have e3:(k+1+1)*bn (n+1+1) (k+1+1)=(k+1)*bn (n+1) (k+1)+bn (n+1) (k+1)+(k+1+1)*bn (n+1) (k+1+1):=by
      rw[bn_ss (n+1),Nat.mul_add,Nat.add_mul (k+1) 1 (bn (n+1) (k+1)),Nat.one_mul]
     rw[e2,e3,h1,h2]
     omega
def sm (f:Nat→Nat):Nat→Nat
 | 0=>0
 | k+1=>sm f k+f k
theorem sm_congr {f g:Nat→Nat}:∀{k:Nat},(∀i,i<k→f i=g i)→sm f k=sm g k
 | 0,_=>rfl
 | k+1,h=>by unfold sm;rw[sm_congr fun i hi=>h i (by omega),h k (by omega)]
theorem sm_head (f:Nat→Nat):∀k,sm f (k+1)=f 0+sm (fun i=>f (i+1)) k
  | 0=>by simp[sm]
  | k+1=>by
    rw[sm,sm_head f k]
    conv=>rhs;rw[sm]
    omega
theorem sm_add (f g:Nat→Nat):∀k,sm (fun i=>f i+g i) k=sm f k+sm g k
  | 0=>rfl
  | k+1=>by simp only[sm,sm_add f g k];omega
theorem sm_mul (f:Nat→Nat) (c:Nat):∀k,sm (fun i=>f i*c) k=sm f k*c
  | 0=>by simp[sm]
  | k+1=>by simp only[sm,sm_mul f c k,Nat.add_mul]
theorem sm_dvd {p:Nat} {f:Nat→Nat}:∀{k:Nat},(∀i,i<k→p ∣ f i)→p ∣ sm f k
 | 0,_=>⟨0,rfl⟩
 | k+1,h=>by unfold sm;exact Nat.dvd_add (sm_dvd fun i hi=>h i (by omega)) (h k (by omega))
theorem bin (a:Nat):∀n,(a+1)^n=sm (fun k=>bn n k*a^k) (n+1)
  | 0=>by simp[sm,bn_0]
  | n+1=>by
    have ih:=bin a n
    rw[sm_head,bn_0]
    have e1:sm (fun i=>bn (n+1) (i+1)*a^(i+1)) (n+1)=sm (fun i=>bn n i*a^i*a+bn n (i+1)*a^(i+1)) (n+1):=
      sm_congr fun i _=>by rw[bn_ss,Nat.add_mul,Nat.pow_succ,←Nat.mul_assoc]
    rw[e1,sm_add,sm_mul,←ih]
    have e2:=sm_head (fun k=>bn n k*a^k) (n+1)
    have e3:sm (fun k=>bn n k*a^k) (n+1+1)=sm (fun k=>bn n k*a^k) (n+1)+bn n (n+1)*a^(n+1):=rfl
    rw[bn_out (by omega:n<n+1),Nat.zero_mul,Nat.add_zero,←ih]at e3
    rw[e3,bn_0]at e2
    rw[Nat.pow_succ,Nat.mul_add,Nat.mul_one]
    omega
theorem Pr.pos {p:Nat} (h:Pr p):0<p:=by have:=h.1;omega
theorem Pr.bn {p k:Nat} (hp:Pr p) (hk:k+1<p):p ∣ Pk.bn p (k+1):=by
 obtain⟨q,rfl⟩:∃q,p=q+1:=⟨p - 1,by omega⟩
 have h:(q+1) ∣ (k+1)*Pk.bn (q+1) (k+1):=⟨_,bn_absorb q k⟩
 rcases hp.dvd_mul h with h1 | h1
 · exact absurd (Nat.le_of_dvd (by omega) h1) (by omega)
 · exact h1
theorem Pr.freshman {p:Nat} (hp:Pr p) (a:Nat):∃m,(a+1)^p=a^p+1+p*m:=by
 obtain⟨q,hq⟩:∃q,p=q+1:=⟨p - 1,by have:=hp.pos;omega⟩
 have h:=bin a p
 rw[sm,bn_self,Nat.one_mul]at h
 have h2:sm (fun k=>Pk.bn p k*a^k) p=Pk.bn p 0*a^0+sm (fun i=>Pk.bn p (i+1)*a^(i+1)) q:=by
   conv=>lhs;rw[hq]
   rw[sm_head]
   simp only[←hq]
 obtain⟨m,hm⟩:p ∣ sm (fun i=>Pk.bn p (i+1)*a^(i+1)) q:=sm_dvd fun i hi=>Nat.dvd_trans (hp.bn (k:=i) (by omega)) (Nat.dvd_mul_right _ _)
 refine⟨m,?_⟩
 rw[h,h2,hm,bn_0,Nat.pow_zero]
 omega
theorem Pr.fermat {p:Nat} (hp:Pr p):∀a,∃m,a^p=a+p*m
 | 0=>⟨0,by rw[Nat.zero_pow hp.pos,Nat.mul_zero]⟩
 | a+1=>by
   obtain⟨m,hm⟩:=hp.fermat a
   obtain⟨l,hl⟩:=hp.freshman a
   exact⟨m+l,by rw[hl,hm,Nat.mul_add];omega⟩
theorem Pr.fermat1 {p a:Nat} (hp:Pr p) (ha:¬p ∣ a):a^(p - 1) % p=1:=by
 obtain⟨m,hm⟩:=hp.fermat a
 obtain⟨q,hq⟩:∃q,p=q+1:=⟨p - 1,by have:=hp.pos;omega⟩
 have h1:p - 1=q:=by omega
 have ha0:0<a:=Nat.pos_of_ne_zero fun e=>ha (e▸Nat.dvd_zero _)
 have hpw:1≤a^q:=Nat.pow_pos ha0
 rw[h1]
 have h2:a*(a^q - 1)=p*m:=by
  have h3:a^p=a*a^q:=by rw[hq,Nat.pow_succ,Nat.mul_comm]
  rw[h3]at hm
  rw[Nat.mul_sub,Nat.mul_one]
  omega
 rcases hp.dvd_mul ⟨m,h2⟩with h4 | ⟨k,hk⟩
 · exact absurd h4 ha
 · have h5:a^q=1+p*k:=by omega
   rw[h5,Nat.add_mul_mod_self_left,Nat.mod_eq_of_lt hp.1]
theorem one_gcd {q b:Nat} (hq:2≤q) (m n:Nat):b^m % q=1→b^n % q=1→b^Nat.gcd m n % q=1:=by
 induction m,n using Nat.gcd.induction with
 | H0 n=>intro _ h;rwa [Nat.gcd_zero_left]
 | H1 m n hm ih=>
   intro h1 h2
   rw[Nat.gcd_rec]
   refine ih ?_ h1
   have e:b^n=b^(n % m)*(b^m)^(n / m):=by rw[←Nat.pow_mul,←Nat.pow_add,Nat.mod_add_div]
   have h3:(b^m)^(n / m) % q=1:=by rw[Nat.pow_mod,h1,Nat.one_pow,Nat.mod_eq_of_lt hq]
   rw[e,Nat.mul_mod,h3,Nat.mul_one,Nat.mod_mod]at h2
   exact h2
def vpow (n p:Nat):Nat:=if h:2≤p∧0<n∧n % p=0 then p*vpow (n / p) p else 1
termination_by n
decreasing_by exact Nat.div_lt_self h.2.1 (by omega)
theorem vpow_no {n p:Nat} (h:n % p≠0):vpow n p=1:=by rw[vpow,dif_neg fun hc=>h hc.2.2]
theorem vpow_yes {n p:Nat} (hp:2≤p) (hn:0<n) (h:n % p=0):vpow n p=p*vpow (n / p) p:=by rw[vpow,dif_pos ⟨hp,hn,h⟩]
theorem vpow_spec {p:Nat} (hp:2≤p) (n:Nat) (hn:0<n):∃e k,vpow n p=p^e∧n=p^e*k∧¬p ∣ k:=by
 induction n using Nat.strongRecOn with
 | ind n ih=>
   by_cases h:n % p=0
   · obtain⟨k,rfl⟩:=Nat.dvd_of_mod_eq_zero h
     have hk:0<k:=Nat.pos_of_ne_zero fun e=>by subst e;simp at hn
     have hlt:k<p*k:=by
      have:=Nat.mul_le_mul_right k hp
      omega
     obtain⟨e,l,h1,h2,h3⟩:=ih k hlt hk
     refine⟨e+1,l,?_,?_,h3⟩
     · rw[vpow_yes hp hn h,Nat.mul_div_cancel_left k (by omega),h1,Nat.pow_succ,Nat.mul_comm]
     · conv=>lhs;rw[h2]
       rw[Nat.pow_succ,←Nat.mul_assoc,Nat.mul_comm p]
   · exact⟨0,n,by rw[vpow_no h,Nat.pow_zero],by rw[Nat.pow_zero,Nat.one_mul],fun hd=>h (Nat.mod_eq_zero_of_dvd hd)⟩
theorem vpow_pos (n p:Nat) (hp:2≤p) (hn:0<n):0<vpow n p:=by
 obtain⟨e,k,h1,h2,h3⟩:=vpow_spec hp n hn
 rw[h1];exact Nat.pow_pos (by omega)
theorem pock_one {N a p q:Nat} (hN:2≤N) (hp:Pr p) (hq:Pr q) (hqN:q ∣ N) (h1:a^(N - 1) % N=1) (hd:(N - 1) % p=0)
 (hg:Nat.gcd ((a^((N - 1) / p) % N+N - 1) % N) N=1):vpow (N - 1) p ∣ q - 1:=by
 obtain⟨e,k,e1,e2,e3⟩:=vpow_spec hp.1 (N - 1) (by omega)
 have hq2:=hq.1
 have m1:a^(N - 1) % q=1:=by
  rw[←Nat.mod_mod_of_dvd _ hqN,h1,Nat.mod_eq_of_lt hq2]
 have hqa:¬q ∣ a:=fun h=>by
   have:q ∣ a^(N - 1):=Nat.dvd_trans h (by rw[show N - 1=(N - 2)+1 by omega,Nat.pow_succ];exact Nat.dvd_mul_left _ _)
   rw[Nat.mod_eq_zero_of_dvd this]at m1
   omega
 have m2:=hq.fermat1 hqa
 have m3:=one_gcd hq2 (N - 1) (q - 1) m1 m2
 obtain⟨l,hl⟩:=Nat.gcd_dvd_left (N - 1) (q - 1)
 have hpl:¬p ∣ l:=by
  rintro⟨j,rfl⟩
  have e4:(N - 1) / p=Nat.gcd (N - 1) (q - 1)*j:=by
   conv=>lhs;rw[hl]
   rw[Nat.mul_left_comm,Nat.mul_div_cancel_left _ hp.pos]
  have m4:a^((N - 1) / p) % q=1:=by rw[e4,Nat.pow_mul,Nat.pow_mod,m3,Nat.one_pow,Nat.mod_eq_of_lt hq2]
  have m5:(a^((N - 1) / p) % N) % q=1:=by rw[Nat.mod_mod_of_dvd _ hqN,m4]
  obtain⟨c,hc⟩:=hqN
  have m6:q ∣ (a^((N - 1) / p) % N+N - 1) % N:=by
   refine Nat.dvd_of_mod_eq_zero ?_
   rw[Nat.mod_mod_of_dvd _ ⟨c,hc⟩]
   have m7:=Nat.div_add_mod (a^((N - 1) / p) % N) q
   rw[m5]at m7
   have m8:a^((N - 1) / p) % N+N - 1=q*((a^((N - 1) / p) % N) / q+c):=by rw[Nat.mul_add,←hc];omega
   rw[m8,Nat.mul_mod_right]
  have m9:=Nat.dvd_gcd m6 ⟨c,hc⟩
  rw[hg]at m9
  have:=Nat.le_of_dvd (by omega) m9
  omega
 rw[e1]
 have hco:Nat.Coprime (p^e) l:=(hp.coprime hpl).pow_left e
 have h2:p^e ∣ Nat.gcd (N - 1) (q - 1)*l:=by rw[←hl,e2];exact Nat.dvd_mul_right _ _
 exact Nat.dvd_trans (hco.dvd_of_dvd_mul_right h2) (Nat.gcd_dvd_right _ _)
def prodL :List Nat→Nat
 | []=>1
 | x :: l=>x*prodL l
theorem prodL_snoc (l:List Nat) (x:Nat):prodL (l++[x])=prodL l*x:=by
 induction l with
 | nil=>simp[prodL]
 | cons y l ih=>simp[prodL,ih,Nat.mul_assoc]
def once :List Nat→Prop
 | []=>True
 | x :: l=>x ∉ l∧once l
theorem pr_cop {p q:Nat} (hp:Pr p) (hq:Pr q) (h:p≠q):Nat.Coprime p q:=hp.coprime fun hd=>by
  rcases hq.2 p hd with h1 | h1
  · have:=hp.1;omega
  · exact h h1
theorem pow_cop {n p:Nat} (hn:0<n):∀{l:List Nat},Pr p→(∀x,x∈l→Pr x)→p ∉ l→Nat.Coprime (vpow n p) (prodL (l.map (vpow n)))
 | [],_,_,_=>Nat.coprime_one_right _
 | x :: l,hp,hl,hm=>by
   simp only[List.map_cons,prodL]
   have hx:=hl x (by simp)
   obtain⟨e,_,h1,_⟩:=vpow_spec hp.1 n hn
   obtain⟨f,_,h2,_⟩:=vpow_spec hx.1 n hn
   refine Nat.Coprime.mul_right ?_ (pow_cop hn hp (fun y hy=>hl y (by simp[hy])) (fun h=>hm (by simp[h])))
   rw[h1,h2]
   exact((pr_cop hp hx (fun h=>hm (by simp[h]))).pow_left e).pow_right f
theorem all_dvd {n m:Nat} (hn:0<n):∀{l:List Nat},(∀x,x∈l→Pr x)→once l→(∀x,x∈l→vpow n x ∣ m)→prodL (l.map (vpow n)) ∣ m
 | [],_,_,_=>Nat.one_dvd _
 | x :: l,hl,ho,hd=>by
   simp only[List.map_cons,prodL]
   exact(pow_cop hn (hl x (by simp)) (fun y hy=>hl y (by simp[hy])) ho.1).mul_dvd_of_dvd_of_dvd (hd x (by simp)) (all_dvd hn (fun y hy=>hl y (by simp[hy])) ho.2 fun y hy=>hd y (by simp[hy]))
theorem pock {N a:Nat} {ps:List Nat} (hN:2≤N) (hps:∀p,p∈ps→Pr p) (ho:once ps) (h1:a^(N - 1) % N=1)
 (hg:∀p,p∈ps→(N - 1) % p=0∧Nat.gcd ((a^((N - 1) / p) % N+N - 1) % N) N=1)
 (hF:N<prodL (ps.map (vpow (N - 1)))*prodL (ps.map (vpow (N - 1)))):Pr N:=by
 refine Classical.byContradiction fun hn=>?_
 obtain⟨q,hq,hqN,hqq⟩:=small_factor hN hn
 have hd:prodL (ps.map (vpow (N - 1))) ∣ q - 1:=all_dvd (by omega) hps ho fun p hp=>pock_one hN (hps p hp) hq hqN h1 (hg p hp).1 (hg p hp).2
 have hle:=Nat.le_of_dvd (by have:=hq.1;omega) hd
 have h2:=Nat.mul_le_mul (show prodL (ps.map (vpow (N - 1)))≤q by omega) (show prodL (ps.map (vpow (N - 1)))≤q by omega)
 omega
theorem pr_of_small {n:Nat} (h:2≤n) (hd:∀d,2≤d→d*d≤n→n % d≠0):Pr n:=by
 refine Classical.byContradiction fun hn=>?_
 obtain⟨p,hp,hpn,hpp⟩:=small_factor h hn
 exact hd p hp.1 hpp (Nat.mod_eq_zero_of_dvd hpn)
end Pk
end Go.Proofs.Ytbhhjfhepkbfgaa
