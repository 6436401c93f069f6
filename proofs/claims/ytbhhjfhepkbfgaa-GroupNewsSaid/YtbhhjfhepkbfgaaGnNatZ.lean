/- Merged: NatM Num NatO. -/
import Derived.Test.YtbhhjfhepkbfgaaGnBase
namespace Go.Proofs.Ytbhhjfhepkbfgaa
set_option linter.unusedSimpArgs false
set_option linter.unusedVariables false
/- Numbers as rows of digits to a base, the lowest first: values, carries, trimmed rows, quotients digit by digit. -/
section
namespace Nt
def vf (β:Nat) (f:Nat→Nat):Nat→Nat
 | 0=>0
 | n+1=>vf β f n+f n*β^n
section
variable {β : Nat} {f g : Nat → Nat}
theorem vf_succ (n:Nat):vf β f (n+1)=vf β f n+f n*β^n:=rfl
theorem vf_congr {n:Nat} (h:∀i,i<n→f i=g i):vf β f n=vf β g n:=by
 induction n with
 | zero=>rfl
 | succ n ih=>rw[vf_succ,vf_succ,ih (fun i hi=>h i (by omega)),h n (by omega)]
theorem vf_zero_tail {n m:Nat} (hnm:n≤m) (h:∀i,n≤i→i<m→f i=0):vf β f m=vf β f n:=by
 induction m with
 | zero => have:n=0:=by omega
           subst this;rfl
 | succ m ih=>
   by_cases e:n=m+1
   · subst e;rfl
   · rw[vf_succ,h m (by omega) (by omega),ih (by omega) (fun i hi hm=>h i hi (by omega))];omega
theorem vf_lt {n:Nat} (hd:∀i,i<n→f i<β):vf β f n<β^n:=by
 induction n with
 | zero=>simp[vf]
 | succ n ih=>
   have h1:=ih (fun i hi=>hd i (by omega))
   have h2:=hd n (by omega)
   rw[vf_succ,Nat.pow_succ]
   have h3:(f n+1)*β^n≤β*β^n:=Nat.mul_le_mul_right _ h2
   rw[Nat.add_mul,Nat.one_mul]at h3
   rw[Nat.mul_comm (β^n) β]
   omega
theorem vf_ge {n:Nat} (h:f n≠0):β^n≤vf β f (n+1):=by
 rw[vf_succ]
 have:1*β^n≤f n*β^n:=Nat.mul_le_mul_right _ (by omega)
 omega
theorem vf_mono {n m:Nat} (h:n≤m):vf β f n≤vf β f m:=by
 induction m with
 | zero => have:n=0:=by omega
           subst this;exact Nat.le_refl _
 | succ m ih=>
   by_cases e:n=m+1
   · subst e;exact Nat.le_refl _
   · rw[vf_succ];have:=ih (by omega);omega
theorem vf_set {n j v:Nat} (hj:j<n):vf β (fun i=>if i=j then v else f i) n+f j*β^j=vf β f n+v*β^j:=by
  induction n with
  | zero=>omega
  | succ n ih=>
    rw[vf_succ,vf_succ]
    by_cases e:j=n
    · subst e
      rw[if_pos rfl,vf_congr (g:=f) (fun i hi=>if_neg (by omega))];omega
    · rw[if_neg (by omega)]
      have:=ih (by omega)
      omega
theorem vf_split (n m:Nat):vf β f (n+m)=vf β f n+vf β (fun i=>f (n+i)) m*β^n:=by
  induction m with
  | zero=>simp[vf]
  | succ m ih=>
    rw[←Nat.add_assoc,vf_succ,ih,vf_succ,Nat.add_mul,Nat.mul_assoc (f (n+m)),←Nat.pow_add,Nat.add_comm m n]
    omega
theorem vf_digit (hβ:1<β) {n i:Nat} (hd:∀i,i<n→f i<β) (hi:i<n):vf β f n / β^i % β=f i:=by
 obtain⟨m,rfl⟩:∃m,n=i+1+m:=⟨n - (i+1),by omega⟩
 rw[Nat.add_assoc,vf_split]
 have h0:vf β f i<β^i:=vf_lt fun j hj=>hd j (by omega)
 rw[Nat.add_mul_div_right _ _ (Nat.pow_pos (by omega)),Nat.div_eq_of_lt h0,Nat.zero_add,vf_split]
 have h1:vf β (fun k=>f (i+k)) 1=f i:=by simp[vf]
 rw[h1,Nat.pow_one,Nat.add_mul_mod_self_right,Nat.mod_eq_of_lt (hd i hi)]
theorem vf_inj (hβ:1<β) {n:Nat} (hf:∀i,i<n→f i<β) (hg:∀i,i<n→g i<β) (h:vf β f n=vf β g n) {i:Nat} (hi:i<n):f i=g i:=by
 rw[←vf_digit hβ hf hi,h,vf_digit hβ hg hi]
def Trd (f:Nat→Nat) (n:Nat):Prop:=n=0∨f (n - 1)≠0
theorem Trd.low {n:Nat} (h:Trd f n) (h0:0<n):β^(n - 1)≤vf β f n:=by
 obtain⟨m,rfl⟩:∃m,n=m+1:=⟨n - 1,by omega⟩
 rcases h with h | h
 · omega
 · exact vf_ge (by simpa using h)
theorem Trd.len_lt (hβ:1<β) {n m:Nat} (hf:∀i,i<n→f i<β) (hg:Trd g m) (h:n<m):vf β f n<vf β g m:=by
 have h1:=vf_lt hf
 have h2:=hg.low (β:=β) (by omega)
 have h3:β^n≤β^(m - 1):=Nat.pow_le_pow_right (by omega) (by omega)
 omega
theorem Trd.zero_iff (hβ:1<β) {n:Nat} (h:Trd f n):vf β f n=0↔n=0:=by
 constructor
 · intro e
   rcases Nat.eq_zero_or_pos n with h0 | h0
   · exact h0
   · have:=h.low (β:=β) h0
     have:0<β^(n - 1):=Nat.pow_pos (by omega)
     omega
 · rintro rfl;rfl
theorem vf_lt_of_digit {n k:Nat} (hk:k<n) (hf:∀i,i<n→f i<β) (he:∀i,k<i→i<n→f i=g i) (h:f k<g k):vf β f n<vf β g n:=by
 obtain⟨m,rfl⟩:∃m,n=k+1+m:=⟨n - (k+1),by omega⟩
 rw[vf_split (k+1) m,vf_split (f:=g) (k+1) m,vf_congr (f:=fun i=>f (k+1+i)) (g:=fun i=>g (k+1+i)) (fun i hi=>he _ (by omega) (by omega))]
 have h1:vf β f k<β^k:=vf_lt fun i hi=>hf i (by omega)
 have h2:vf β f (k+1)<vf β g (k+1):=by
  rw[vf_succ,vf_succ]
  have:(f k+1)*β^k≤g k*β^k:=Nat.mul_le_mul_right _ h
  rw[Nat.add_mul,Nat.one_mul]at this
  omega
 omega
end
theorem carry_step (β x P:Nat):x % β*P+x / β*(P*β)=x*P:=by
 rw[←Nat.mul_assoc,Nat.mul_right_comm,←Nat.add_mul]
 congr 1
 rw[Nat.mul_comm]
 exact Nat.mod_add_div x β
section
variable {β : Nat} {a b o u v : Nat → Nat}
theorem add_step {k c:Nat} (h:vf β o k+c*β^k=vf β a k+vf β b k) (ho:o k=(c+a k+b k) % β):
 vf β o (k+1)+(c+a k+b k) / β*β^(k+1)=vf β a (k+1)+vf β b (k+1):=by
 have hc:=carry_step β (c+a k+b k) (β^k)
 rw[vf_succ,vf_succ,vf_succ,ho,Nat.pow_succ]
 rw[Nat.add_mul,Nat.add_mul]at hc
 omega
theorem sub_step {k w w':Nat} (h:vf β o k+vf β b k=vf β a k+w*β^k) (ho:o k+b k+w=a k+w'*β):
 vf β o (k+1)+vf β b (k+1)=vf β a (k+1)+w'*β^(k+1):=by
 have e:=congrArg (·*β^k) ho
 simp only[Nat.add_mul]at e
 rw[vf_succ,vf_succ,vf_succ,Nat.pow_succ,Nat.mul_comm (β^k) β,←Nat.mul_assoc]
 omega
theorem sub_end {n w:Nat} (h:vf β o n+vf β b n=vf β a n+w*β^n) (ho:∀i,i<n→o i<β) (hab:vf β b n≤vf β a n):w=0:=by
 have h1:=vf_lt ho
 rcases Nat.eq_zero_or_pos w with e | e
 · exact e
 · have:1*β^n≤w*β^n:=Nat.mul_le_mul_right _ e
   omega
theorem mul_step {N i k c x V:Nat} {o':Nat→Nat} (hN:i+k<N) (h:vf β o N+c*β^(i+k)=V+x*β^i*vf β b k) (ho:o'=fun j=>if j=i+k then (c+(x*b k+o (i+k))) % β else o j):
    vf β o' N+(c+(x*b k+o (i+k))) / β*β^(i+(k+1))=V+x*β^i*vf β b (k+1):=by
  have hs:=vf_set (β:=β) (f:=o) (v:=(c+(x*b k+o (i+k))) % β) hN
  rw[←ho]at hs
  have hc:=carry_step β (c+(x*b k+o (i+k))) (β^(i+k))
  have e:x*β^i*(b k*β^k)=x*b k*β^(i+k):=by rw[Nat.pow_add];ac_rfl
  rw[vf_succ,Nat.mul_add,e,←Nat.add_assoc i k 1,Nat.pow_succ]
  rw[Nat.add_mul,Nat.add_mul]at hc
  omega
theorem mul_carry (hβ:0<β) {c x y z:Nat} (hc:c<β) (hx:x<β) (hy:y<β) (hz:z<β):(c+(x*y+z)) / β<β:=by
 rw[Nat.div_lt_iff_lt_mul hβ]
 obtain⟨m,rfl⟩:∃m,β=m+1:=⟨β - 1,by omega⟩
 have h1:x*y≤m*m:=Nat.mul_le_mul (by omega) (by omega)
 rw[Nat.mul_add,Nat.add_mul]
 omega
theorem small_step {n i d r V:Nat} {o':Nat→Nat} (hi:i<n) (h:V=vf β o n*d+r*β^(i+1)+vf β a (i+1)) (hz:o i=0) (ho:o'=fun j=>if j=i then (r*β+a i) / d else o j):
    V=vf β o' n*d+(r*β+a i) % d*β^i+vf β a i:=by
  have hs:=vf_set (β:=β) (f:=o) (v:=(r*β+a i) / d) hi
  rw[←ho,hz,Nat.zero_mul,Nat.add_zero]at hs
  rw[hs,h,vf_succ,Nat.add_mul]
  have e:=congrArg (·*β^i) (Nat.div_add_mod (r*β+a i) d)
  simp only[Nat.add_mul]at e
  have e2:r*β^(i+1)=r*β*β^i:=by rw[Nat.pow_succ,Nat.mul_comm (β^i) β,Nat.mul_assoc]
  have e3:(r*β+a i) / d*β^i*d=d*((r*β+a i) / d)*β^i:=by ac_rfl
  rw[e2,e3]
  omega
theorem small_lt {d r x:Nat} (hr:r<d) (hx:x<β):(r*β+x) / d<β:=by
 rw[Nat.div_lt_iff_lt_mul (by omega)]
 have:(r+1)*β≤d*β:=Nat.mul_le_mul_right _ hr
 rw[Nat.add_mul,Nat.one_mul]at this
 rw[Nat.mul_comm β d]
 omega
theorem divmod_of {V q d r:Nat} (h:V=q*d+r) (hr:r<d):V / d=q∧V % d=r:=by
 subst h
 constructor
 · rw[Nat.mul_comm,Nat.mul_add_div (by omega),Nat.div_eq_of_lt hr,Nat.add_zero]
 · rw[Nat.mul_comm,Nat.mul_add_mod,Nat.mod_eq_of_lt hr]
theorem take_step {k c w w' q:Nat} (h:vf β o k+q*vf β v k=vf β u k+(c+w)*β^k) (ho:o k+(c+q*v k) % β+w=u k+w'*β):
 vf β o (k+1)+q*vf β v (k+1)=vf β u (k+1)+((c+q*v k) / β+w')*β^(k+1):=by
 have e:=congrArg (·*β^k) ho
 simp only[Nat.add_mul]at e
 have hc:=carry_step β (c+q*v k) (β^k)
 rw[Nat.add_mul]at hc
 have e2:q*(v k*β^k)=q*v k*β^k:=by ac_rfl
 have e3:β^(k+1)=β*β^k:=by rw[Nat.pow_succ,Nat.mul_comm]
 rw[vf_succ,vf_succ,vf_succ,Nat.mul_add,e2,e3,Nat.add_mul,←Nat.mul_assoc w' β]
 rw[Nat.add_mul]at h
 rw[Nat.mul_comm (β^k) β]at hc
 omega
/-! ### a digit of a quotient -/
section digit
set_option linter.unusedSectionVars false
variable {m : Nat} (hβ : 1 < β) (hu : ∀ i, i ≤ m → u i < β) (hv : ∀ i, i < m → v i < β) (hm : 2 ≤ m)
include hβ hu hv hm
theorem top_split :∃ul vl,ul<β^(m - 2)∧vl<β^(m - 2)∧vf β u (m+1)=((u m*β+u (m - 1))*β+u (m - 2))*β^(m - 2)+ul∧vf β v m=(v (m - 1)*β+v (m - 2))*β^(m - 2)+vl:=by
 obtain⟨k,rfl⟩:∃k,m=k+2:=⟨m - 2,by omega⟩
 refine⟨vf β u k,vf β v k,vf_lt fun i hi=>hu i (by omega),vf_lt fun i hi=>hv i (by omega),?_,?_⟩
 · have e0:k+2 - 1=k+1:=rfl
   have e1:k+2 - 2=k:=rfl
   rw[e0,e1,vf_succ,vf_succ,vf_succ]
   simp only[Nat.add_mul,Nat.pow_succ]
   have x1:u (k+2)*(β^k*β*β)=u (k+2)*β*β*β^k:=by ac_rfl
   have x2:u (k+1)*(β^k*β)=u (k+1)*β*β^k:=by ac_rfl
   omega
 · have e0:k+2 - 1=k+1:=rfl
   have e1:k+2 - 2=k:=rfl
   rw[e0,e1,vf_succ,vf_succ]
   simp only[Nat.add_mul,Nat.pow_succ]
   have x2:v (k+1)*(β^k*β)=v (k+1)*β*β^k:=by ac_rfl
   omega
theorem guess_high {q r:Nat} (hq:q*v (m - 1)+r=u m*β+u (m - 1)) (hUV:vf β u (m+1)<β*vf β v m) (h:β≤q∨r*β+u (m - 2)<q*v (m - 2)):vf β u (m+1) / vf β v m<q:=by
 have hV:0<vf β v m:=by
  rcases Nat.eq_zero_or_pos (vf β v m)with e | e
  · rw[e]at hUV;omega
  · exact e
 rw[Nat.div_lt_iff_lt_mul hV]
 rcases h with h | h
 · exact Nat.lt_of_lt_of_le hUV (Nat.mul_le_mul_right _ h)
 · obtain⟨ul,vl,h1,h2,e1,e2⟩:=top_split hβ hu hv hm
   have h3:(u m*β+u (m - 1))*β+u (m - 2)+1≤q*(v (m - 1)*β+v (m - 2)):=by
    rw[←hq,Nat.mul_add,Nat.add_mul,←Nat.mul_assoc];omega
   have h4:=Nat.mul_le_mul_right (β^(m - 2)) h3
   rw[Nat.add_mul,Nat.one_mul]at h4
   rw[e1,e2,Nat.mul_add,←Nat.mul_assoc]
   omega
theorem guess_low {q r:Nat} (hq:q*v (m - 1)+r=u m*β+u (m - 1)) (hv1:0<v (m - 1)) (h:(q<β∧q*v (m - 2)≤r*β+u (m - 2))∨(q≤β∧β≤r)):q≤vf β u (m+1) / vf β v m+1:=by
 obtain⟨ul,vl,h1,h2,e1,e2⟩:=top_split hβ hu hv hm
 have hqb:q≤β:=by omega
 have h3:q*(v (m - 1)*β+v (m - 2))≤(u m*β+u (m - 1))*β+u (m - 2):=by
  rw[←hq,Nat.mul_add,Nat.add_mul,←Nat.mul_assoc]
  rcases h with ⟨_,h⟩ | ⟨_,h⟩
  · omega
  · have hw:q*v (m - 2)≤β*β:=Nat.mul_le_mul hqb (Nat.le_of_lt (hv (m - 2) (by omega)))
    have:β*β≤r*β:=Nat.mul_le_mul_right _ h
    omega
 have h4:=Nat.mul_le_mul_right (β^(m - 2)) h3
 have hp:β*β^(m - 2)=β^(m - 1):=by rw[←Nat.pow_succ'];congr 1;omega
 have h5:q*vl≤β*β^(m - 2):=Nat.mul_le_mul hqb (Nat.le_of_lt h2)
 have h6:β^(m - 1)≤vf β v m:=by
  obtain⟨k,rfl⟩:∃k,m=k+1:=⟨m - 1,by omega⟩
  exact vf_ge (by simpa using Nat.pos_iff_ne_zero.1 hv1)
 have hV:0<vf β v m:=Nat.lt_of_lt_of_le (Nat.pow_pos (by omega)) h6
 have h8:q*(v (m - 1)*β+v (m - 2))*β^(m - 2)≤vf β u (m+1):=by rw[e1];omega
 have h7:q*vf β v m≤vf β u (m+1)+vf β v m:=by
  conv=>lhs;rw[e2]
  rw[Nat.mul_add,←Nat.mul_assoc]
  omega
 have:q - 1≤vf β u (m+1) / vf β v m:=by
  rw[Nat.le_div_iff_mul_le hV,Nat.sub_mul,Nat.one_mul]
  omega
 exact Nat.le_add_of_sub_le this
end digit
theorem take_yes {m q cw U V um:Nat} (h:vf β o m+q*V=vf β u m+cw*β^m) (hU:U=vf β u m+um*β^m) (hV:V≤β^m) (hV0:0<V) (hq:U / V≤q) (hd:cw≤um):q=U / V∧vf β o m=U % V∧um - cw=0:=by
 obtain⟨e,rfl⟩:∃e,um=cw+e:=⟨um - cw,by omega⟩
 rw[Nat.add_mul]at hU
 have h1:U=q*V+(vf β o m+e*β^m):=by omega
 have h2:q≤U / V:=by rw[Nat.le_div_iff_mul_le hV0];omega
 have h3:q=U / V:=Nat.le_antisymm h2 hq
 have h4:U % V=vf β o m+e*β^m:=by
  have:=Nat.div_add_mod U V
  rw[←h3,Nat.mul_comm]at this
  omega
 have h5:=Nat.mod_lt U hV0
 rcases Nat.eq_zero_or_pos e with e0 | e0
 · subst e0
   rw[Nat.zero_mul,Nat.add_zero]at h4
   exact⟨h3,h4.symm,by omega⟩
 · have:1*β^m≤e*β^m:=Nat.mul_le_mul_right _ e0
   omega
theorem take_no {m q cw U V um:Nat} (h:vf β o m+q*V=vf β u m+cw*β^m) (hU:U=vf β u m+um*β^m) (hV:V≤β^m) (hV0:0<V) (ho:vf β o m<β^m) (hq:q≤U / V+1) (hd:um<cw):
 q=U / V+1∧cw=um+1∧vf β o m+V=U % V+β^m:=by
 obtain⟨e,rfl⟩:∃e,cw=um+1+e:=⟨cw - um - 1,by omega⟩
 rw[Nat.add_mul,Nat.add_mul,Nat.one_mul]at h
 have h1:vf β o m+q*V=U+β^m+e*β^m:=by omega
 have h2:U / V<q:=by
  rw[Nat.div_lt_iff_lt_mul hV0]
  omega
 have h3:q=U / V+1:=by omega
 have h4:=Nat.div_add_mod U V
 have h5:q*V=V*(U / V)+V:=by rw[h3,Nat.add_mul,Nat.one_mul,Nat.mul_comm]
 have h6:=Nat.mod_lt U hV0
 rcases Nat.eq_zero_or_pos e with e0 | e0
 · subst e0
   rw[Nat.zero_mul]at h1
   exact⟨h3,rfl,by omega⟩
 · have:1*β^m≤e*β^m:=Nat.mul_le_mul_right _ e0
   omega
theorem back_end {m c R V O:Nat} (h:vf β o m+c*β^m=O+V) (ho:vf β o m<β^m) (hc:c≤1) (hO:O+V=R+β^m):c=1∧vf β o m=R:=by
 rcases Nat.eq_zero_or_pos c with e | e
 · subst e;rw[Nat.zero_mul]at h;omega
 · have:c=1:=by omega
   subst this;rw[Nat.one_mul]at h;exact⟨rfl,by omega⟩
theorem vf_zero_above {n K:Nat} (hβ:0<β) (h:vf β u n<β^K) {i:Nat} (hK:K≤i) (hi:i<n):u i=0:=by
 by_cases e:u i=0
 · exact e
 · have h1:=vf_ge (β:=β) e
   have h2:=vf_mono (β:=β) (f:=u) (show i+1≤n by omega)
   have h3:β^K≤β^i:=Nat.pow_le_pow_right hβ hK
   omega
theorem div_step {q q' u':Nat→Nat} {nq nu m j U0 V:Nat} (hβ:1<β) (h0:U0=vf β q nq*V+vf β u nu) (hlt:vf β u nu<V*β^(j+1)) (hV:V≤β^m) (hV0:0<V) (hqz:q j=0) (hj:j<nq) (hnu:j+m<nu) (hul:vf β u j<β^j)
 (hu':∀i,i<nu→(i<j∨j+m<i)→u' i=u i) (hd:vf β (fun i=>u' (j+i)) (m+1)=vf β (fun i=>u (j+i)) (m+1) % V)
 (hq':q'=fun i=>if i=j then vf β (fun i=>u (j+i)) (m+1) / V else q i):
 U0=vf β q' nq*V+vf β u' nu∧vf β u' nu<V*β^j:=by
 have hz:∀i,j+m<i→i<nu→u i=0:=fun i h1 h2=>vf_zero_above (by omega) (K:=j+m+1) (Nat.lt_of_lt_of_le hlt (by
   have:V*β^(j+1)≤β^m*β^(j+1):=Nat.mul_le_mul_right _ hV
   rw[←Nat.pow_add]at this
   rwa [show m+(j+1)=j+m+1 by omega]at this)) (by omega) h2
 have e1:vf β u nu=vf β u j+vf β (fun i=>u (j+i)) (m+1)*β^j:=by
   rw[vf_zero_tail (n:=j+(m+1)) (by omega) (fun i h1 h2=>hz i (by omega) h2),vf_split]
 have e2:vf β u' nu=vf β u j+vf β (fun i=>u' (j+i)) (m+1)*β^j:=by
   rw[vf_zero_tail (n:=j+(m+1)) (by omega) (fun i h1 h2=>by rw[hu' i h2 (.inr (by omega))];exact hz i (by omega) h2),vf_split,vf_congr (f:=u') (g:=u) (fun i hi=>hu' i (by omega) (.inl hi))]
 have hs:=vf_set (β:=β) (f:=q) (v:=vf β (fun i=>u (j+i)) (m+1) / V) hj
 rw[←hq',hqz,Nat.zero_mul,Nat.add_zero]at hs
 rw[hs,e2,hd,h0,e1]
 generalize vf β (fun i=>u (j+i)) (m+1)=X
 have e3:=congrArg (·*β^j) (Nat.div_add_mod X V)
 simp only[Nat.add_mul]at e3
 rw[Nat.add_mul]
 have e4:X / V*β^j*V=V*(X / V)*β^j:=by ac_rfl
 have e5:(X % V+1)*β^j≤V*β^j:=Nat.mul_le_mul_right _ (Nat.mod_lt X hV0)
 rw[Nat.add_mul,Nat.one_mul]at e5
 exact⟨by omega,by omega⟩
theorem shl_step {out out':Nat→Nat} {N i D:Nat} (hi:i+1<N) (h:vf β out N=vf β a i*D) (hz:out (i+1)=0) (ho:∀j,j<N→out' j=if j=i then out i+a i*D % β else if j=i+1 then a i*D / β else out j):
    vf β out' N=vf β a (i+1)*D:=by
  have h1:=vf_set (β:=β) (f:=out) (v:=out i+a i*D % β) (show i<N by omega)
  have h2:=vf_set (β:=β) (f:=fun j=>if j=i then out i+a i*D % β else out j) (v:=a i*D / β) hi
  simp only[show ¬(i+1=i) by omega,if_false,hz,Nat.zero_mul,Nat.add_zero]at h2
  have h3:vf β out' N=vf β (fun j=>if j=i+1 then a i*D / β else if j=i then out i+a i*D % β else out j) N:=vf_congr fun j hj=>by
    rw[ho j hj]
    by_cases e:j=i
    · subst e;rw[if_pos rfl,if_neg (by omega),if_pos rfl]
    · rw[if_neg e,if_neg e]
  have hc:=carry_step β (a i*D) (β^i)
  rw[h3,h2,vf_succ,Nat.add_mul,Nat.pow_succ]
  rw[Nat.add_mul]at h1
  have e:a i*β^i*D=a i*D*β^i:=by ac_rfl
  omega
theorem shl_lt {x D E:Nat} (hβ:β=D*E) (hE:0<β) (hx:x<β):x*D / β<D:=by
 rw[Nat.div_lt_iff_lt_mul hE,Nat.mul_comm]
 have hD:0<D:=by
  rcases Nat.eq_zero_or_pos D with e | e
  · subst e;simp at hβ;omega
  · exact e
 exact(Nat.mul_lt_mul_left hD).2 hx
theorem shr_digit {x y D E:Nat} (hβ:β=D*E) (hD:0<D) (hx:x<β):(y*β+x) / D % β=y % D*E+x / D:=by
 have h1:y*β+x=D*(y*E)+x:=by rw[hβ];ac_rfl
 have h2:(y*β+x) / D=y*E+x / D:=by rw[h1,Nat.mul_add_div hD]
 have h3:y*E=y / D*β+y % D*E:=by
  have:=congrArg (·*E) (Nat.div_add_mod y D)
  simp only[Nat.add_mul]at this
  rw[←this,hβ];congr 1;ac_rfl
 have h4:x / D<E:=by rw[Nat.div_lt_iff_lt_mul hD,Nat.mul_comm,←hβ];exact hx
 have h5:y % D*E+x / D<β:=by
  have:(y % D+1)*E≤D*E:=Nat.mul_le_mul_right _ (Nat.mod_lt y hD)
  rw[Nat.add_mul,Nat.one_mul,←hβ]at this
  omega
 rw[h2,h3,Nat.add_assoc,Nat.mul_comm (y / D),Nat.mul_add_mod,Nat.mod_eq_of_lt h5]
theorem shr_step {r:Nat→Nat} {k D E:Nat} (hβ:β=D*E) (hD:0<D) (hu:u k<β) (h:vf β r k*D+u 0 % D=vf β u k+u k % D*β^k) (hr:r k=(u (k+1)*β+u k) / D % β):
 vf β r (k+1)*D+u 0 % D=vf β u (k+1)+u (k+1) % D*β^(k+1):=by
 rw[vf_succ,vf_succ,hr,shr_digit hβ hD hu,Nat.pow_succ,Nat.add_mul]
 have e:=congrArg (·*β^k) (Nat.div_add_mod (u k) D)
 simp only[Nat.add_mul]at e
 have e1:(u (k+1) % D*E+u k / D)*β^k*D=u (k+1) % D*(β^k*β)+D*(u k / D)*β^k:=by
  rw[hβ,Nat.add_mul,Nat.add_mul];congr 1<;>ac_rfl
 rw[e1]
 omega
theorem shr_end {r:Nat→Nat} {m D:Nat} (hD:0<D) (h:vf β r m*D+u 0 % D=vf β u m+u m % D*β^m) (h0:u m=0):vf β r m=vf β u m / D:=by
 rw[h0,Nat.zero_mod,Nat.zero_mul,Nat.add_zero]at h
 rw[←h,Nat.mul_comm,Nat.mul_add_div hD,Nat.div_eq_of_lt (Nat.mod_lt _ hD),Nat.add_zero]
theorem div_shift {a b D:Nat} (hD:0<D):a*D / (b*D)=a / b∧a*D % (b*D) / D=a % b:=by
 refine⟨Nat.mul_div_mul_right _ _ hD,?_⟩
 rw[Nat.mul_mod_mul_right,Nat.mul_div_cancel _ hD]
end
/-! ### bits, bytes -/
def blen (n:Nat):Nat:=if n=0 then 0 else n.log2+1
theorem blen_lt (n:Nat):n<2^blen n:=by
 unfold blen
 split
 · subst_vars;simp
 · exact Nat.lt_log2_self
theorem blen_le {n:Nat} (h:n≠0):0<blen n∧2^(blen n - 1)≤n:=by
 unfold blen
 rw[if_neg h]
 exact⟨by omega,by simpa using Nat.log2_self_le h⟩
theorem blen_zero :blen 0=0:=rfl
theorem blen_uniq {n L:Nat} (h0:L=0∨2^(L - 1)≤n) (h1:n<2^L):blen n=L:=by
 by_cases e:n=0
 · subst e
   rcases h0 with h0 | h0
   · rw[h0];rfl
   · have:0<2^(L - 1):=Nat.pow_pos (by omega)
     omega
 · have ⟨h2,h3⟩:=blen_le e
   have h4:=blen_lt n
   rcases h0 with h0 | h0
   · subst h0;simp at h1;exact absurd h1 e
   · have a1:L - 1<blen n:=(Nat.pow_lt_pow_iff_right (by omega:1<2)).1 (Nat.lt_of_le_of_lt h0 h4)
     have a2:blen n - 1<L:=(Nat.pow_lt_pow_iff_right (by omega:1<2)).1 (Nat.lt_of_le_of_lt h3 h1)
     by_cases hL:L=0
     · subst hL;simp at h1;exact absurd h1 e
     · omega
theorem blen_le_iff {n k:Nat}:blen n≤k↔n<2^k:=by
 constructor
 · intro h
   exact Nat.lt_of_lt_of_le (blen_lt n) (Nat.pow_le_pow_right (by omega) h)
 · intro h
   by_cases e:n=0
   · subst e;simp[blen_zero]
   · have ⟨h2,h3⟩:=blen_le e
     have:=(Nat.pow_lt_pow_iff_right (by omega:1<2)).1 (Nat.lt_of_le_of_lt h3 h)
     omega
theorem blen_mono {a b:Nat} (h:a≤b):blen a≤blen b:=blen_le_iff.2 (Nat.lt_of_le_of_lt h (blen_lt b))
theorem blen_eq_zero {n:Nat}:blen n=0↔n=0:=by
 constructor
 · intro h;have:=blen_lt n;rw[h]at this;simpa using this
 · rintro rfl;rfl
def bytelen (n:Nat):Nat:=(blen n+7) / 8
theorem pow256 (k:Nat):256^k=2^(8*k):=by rw[Nat.pow_mul]
theorem lt_bytelen (n:Nat):n<256^bytelen n:=by
 rw[pow256]
 exact blen_le_iff.1 (by unfold bytelen;omega)
theorem bytelen_le_iff {n k:Nat}:bytelen n≤k↔n<256^k:=by
 rw[pow256,←blen_le_iff]
 unfold bytelen
 omega
theorem bits_step {d k:Nat}:d % 2^(k+1)=d % 2^k+d / 2^k % 2*2^k:=by
 rw[Nat.mod_pow_succ,Nat.mul_comm]
theorem part_digit {β γ m N i:Nat} {l:Nat→Nat} (hγ:1<γ) (hβ:β=γ^m) (hm:0<m) (hl:∀j,j<N→l j<β) {X:Nat} (hX:vf β l N=X) (hx:X<γ^i) (hi:i / m<N):l (i / m)<γ^(i % m):=by
 have hb:1<β:=by rw[hβ];exact Nat.one_lt_pow (by omega) hγ
 rw[←vf_digit hb hl hi,hX]
 refine Nat.lt_of_le_of_lt (Nat.mod_le _ _) ?_
 rw[Nat.div_lt_iff_lt_mul (Nat.pow_pos (by omega)),hβ,←Nat.pow_mul,←Nat.pow_add]
 have:i % m+m*(i / m)=i:=by rw[Nat.add_comm];exact Nat.div_add_mod i m
 rw[this];exact hx
theorem part_step {β γ m N i d:Nat} {l l' f:Nat→Nat} (hβ:β=γ^m) (hX:vf β l N=vf γ f i) (hi:i / m<N) (hd:f i=d) (hl':l'=fun j=>if j=i / m then l j+d*γ^(i % m) else l j):vf β l' N=vf γ f (i+1):=by
  have h1:=vf_set (β:=β) (f:=l) (v:=l (i / m)+d*γ^(i % m)) hi
  have h2:vf β l' N=vf β (fun j=>if j=i / m then l (i / m)+d*γ^(i % m) else l j) N:=vf_congr fun j _=>by
    rw[hl']
    by_cases e:j=i / m
    · subst e;simp
    · simp[e]
  have h3:d*γ^(i % m)*β^(i / m)=d*γ^i:=by
   rw[hβ,←Nat.pow_mul,Nat.mul_assoc,←Nat.pow_add]
   congr 2
   rw[Nat.add_comm];exact Nat.div_add_mod i m
  rw[h2,vf_succ,hd,←hX]
  rw[Nat.add_mul]at h1
  omega
theorem digit_digit {x β γ m i:Nat} (hβ:β=γ^m) (hm:0<m):x / β^(i / m) % β / γ^(i % m) % γ=x / γ^i % γ:=by
 have h1:γ^m=γ^(i % m)*γ^(m - i % m):=by
  rw[←Nat.pow_add];congr 1;have:=Nat.mod_lt i hm;omega
 have h2:γ^(m - i % m)=γ*γ^(m - i % m - 1):=by
  rw[←Nat.pow_succ'];congr 1;have:=Nat.mod_lt i hm;omega
 have h3:γ^i=β^(i / m)*γ^(i % m):=by
  rw[hβ,←Nat.pow_mul,←Nat.pow_add];congr 1;exact(Nat.div_add_mod i m).symm
 have h4:β=γ^(i % m)*(γ*γ^(m - i % m - 1)):=by rw[hβ,h1,h2]
 have key:∀y,y % β / γ^(i % m) % γ=y / γ^(i % m) % γ:=fun y=>by
   rw[h4,Nat.mod_mul_right_div_self,Nat.mod_mul_right_mod]
 rw[key,Nat.div_div_eq_div_mul,←h3]
end Nt
end
/- Numbers in memory: a row of words, or of truths, whose last one is not nought, as the number that it is. -/
section
open Go.RowKit
open Nt
def dig {α:Type} [Inhabited α] (d:α→Nat) (xs:List α):Nat→Nat:=fun i=>d (gat xs i)
def numOf {α:Type} [Inhabited α] (β:Nat) (d:α→Nat) (xs:List α):Nat:=vf β (dig d xs) xs.length
abbrev W32 :Nat:=4294967296
def d32 (x:BitVec 32):Nat:=x.toNat
def d8 (x:BitVec 8):Nat:=x.toNat
def d1 (x:Bool):Nat:=x.toNat
theorem d32_lt (x:BitVec 32):d32 x<W32:=x.isLt
theorem d8_lt (x:BitVec 8):d8 x<256:=x.isLt
theorem d1_lt (x:Bool):d1 x<2:=by cases x<;>decide
theorem n32_d (x:BitVec 32):n32 x=(d32 x:Int):=rfl
theorem n8_d (x:BitVec 8):n8 x=(d8 x:Int):=rfl
section
variable {α : Type} [Inhabited α] {d : α → Nat} {xs ys : List α} {β : Nat}
theorem dig_append_left {i:Nat} (h:i<xs.length):dig d (xs++ys) i=dig d xs i:=by unfold dig;rw[gat_append_left h]
theorem dig_append_right {i:Nat} (h:xs.length≤i):dig d (xs++ys) i=dig d ys (i - xs.length):=by unfold dig;rw[gat_append_right h]
theorem vf_append_left {k:Nat} (h:k≤xs.length):vf β (dig d (xs++ys)) k=vf β (dig d xs) k:=vf_congr fun i hi=>dig_append_left (by omega)
theorem dig_take {i k:Nat} (h:i<k):dig d (xs.take k) i=dig d xs i:=by unfold dig;rw[gat_take h]
theorem dig_set {i j:Nat} {x:α} (hj:j<xs.length):dig d (xs.set j x) i=if i=j then d x else dig d xs i:=by
  unfold dig gat
  rw[List.getD_eq_getElem?_getD,List.getElem?_set]
  by_cases e:j=i
  · subst e;simp[hj]
  · rw[if_neg e,if_neg (Ne.symm e),List.getD_eq_getElem?_getD]
theorem numOf_lt (hd:∀x,d x<β):numOf β d xs<β^xs.length:=vf_lt fun i _=>hd _
theorem dig_out (h0:d (default:α)=0) {i:Nat} (h:xs.length≤i):dig d xs i=0:=by
 unfold dig gat
 rw[List.getD_eq_getElem?_getD,List.getElem?_eq_none h]
 exact h0
theorem vf_out (h0:d (default:α)=0) {k:Nat} (h:xs.length≤k):vf β (dig d xs) k=numOf β d xs:=vf_zero_tail h fun i hi _=>dig_out h0 hi
end
theorem Sl.new_at {α:Type} [Inhabited α] (f:α→Value) {w:World} {t:TypeId} (xs:List α) {b:Nat} (hb:w.heap.size=b) {cs:Array Value} (hc:(xs.map f).toArray=cs):Sl f (w.alloc (.cells cs t)) (some ⟨b,0,none⟩) xs:=by
 subst hb hc;exact Sl.new f w t xs
def NumS {α:Type} [Inhabited α] (f:α→Value) (d:α→Nat) (β:Nat) (w:World) (s:Value) (n:Nat):Prop:=
 ∃A c xs,s=.slice A xs.length c∧xs.length≤c∧c≤maxLen∧Sl f w A xs∧Trd (dig d xs) xs.length∧numOf β d xs=n
def NatV (w:World) (v:Value) (n:Nat):Prop:=∃s,v=.agg #[s]∧NumS by32 d32 W32 w s n
theorem ecell {W w1:World} (hU:Ext W w1):(∀b o,b<W.heap.size→w1.cell? ⟨b,o,none⟩=W.cell? ⟨b,o,none⟩)∧(∀b o,b<W.heap.size→w1.frozen? ⟨b,o,none⟩=W.frozen? ⟨b,o,none⟩)∧W.heap.size≤w1.heap.size:=
 ⟨fun b o h=>hU.cell (p:=⟨b,o,none⟩) h (fun h=>h),fun b o h=>hU.frozen (p:=⟨b,o,none⟩) h (fun h=>h),hU.size⟩
theorem Sl.far {α:Type} [Inhabited α] {f:α→Value} {w:World} {A:Option Addr} {xs:List α} {p:Addr} {u v:Value} (h:Sl f w A xs) (hc:w.cell? p=some u) (hu:∀x,f x≠u):Sl f (w.setCell p v) A xs:=fun i hi=>by
  obtain⟨b,o,e,hx⟩:=h i hi
  refine⟨b,o,e,?_⟩
  rw[World.cell?_setCell_other _ _ _ _ (fun hp=>hu (gat xs i) (by
    rw[←hp,hc]at hx
    injection hx with hx
    exact hx.symm))]
  exact hx
theorem NumS.far {α:Type} [Inhabited α] {f:α→Value} {d:α→Nat} {β:Nat} {w:World} {s:Value} {n:Nat} {p:Addr} {u v:Value} (h:NumS f d β w s n) (hc:w.cell? p=some u) (hu:∀x,f x≠u):NumS f d β (w.setCell p v) s n:=by
 obtain⟨A,c,xs,h1,h2,h3,h4,h5⟩:=h
 exact⟨A,c,xs,h1,h2,h3,h4.far hc hu,h5⟩
theorem NatV.far {w:World} {s:Value} {n:Nat} {p:Addr} {A:Option Addr} {l c:Nat} {v:Value} (h:NatV w s n) (hc:w.cell? p=some (.slice A l c)):NatV (w.setCell p v) s n:=by
 obtain⟨s,rfl,h⟩:=h
 exact⟨s,rfl,h.far hc (fun x e=>by cases e)⟩
def RefV (w:World) (v:Value) (n:Nat):Prop:=NumS Value.bool d1 2 w v n
section
variable {w w' : World} {v : Value} {n : Nat}
theorem NumS.ext {α:Type} [Inhabited α] {f:α→Value} {d:α→Nat} {β:Nat} (h:NumS f d β w v n) (hu:Ext w w'):NumS f d β w' v n:=by
 obtain⟨A,c,xs,h1,h2,h3,h4,h5⟩:=h
 exact⟨A,c,xs,h1,h2,h3,h4.ext hu,h5⟩
theorem NatV.ext (h:NatV w v n) (hu:Ext w w'):NatV w' v n:=by
 obtain⟨s,h1,h2⟩:=h
 exact⟨s,h1,h2.ext hu⟩
theorem RefV.ext (h:RefV w v n) (hu:Ext w w'):RefV w' v n:=NumS.ext h hu
theorem NatV.of_eq {m:Nat} (h:NatV w v n) (e:n=m):NatV w v m:=e▸h
theorem RefV.of_eq {m:Nat} (h:RefV w v n) (e:n=m):RefV w v m:=e▸h
theorem NumS.nil {α:Type} [Inhabited α] (f:α→Value) (d:α→Nat) (β:Nat) (w:World):NumS f d β w (.slice none 0 0) 0:=
 ⟨none,0,[],rfl,Nat.le_refl _,Nat.zero_le _,Sl.nil,.inl rfl,rfl⟩
theorem NumS.cut {α:Type} [Inhabited α] {f:α→Value} {d:α→Nat} {β:Nat} {A:Option Addr} {k c N:Nat} {xs:List α} (hS:Sl f w A xs) (hk:k≤xs.length) (hc:k≤c) (hm:c≤maxLen) (hv:vf β (dig d xs) k=N) (ht:k=0∨dig d xs (k - 1)≠0):
 NumS f d β w (.slice A k c) N:=by
 have hl:(xs.take k).length=k:=by rw[List.length_take];omega
 refine⟨A,c,xs.take k,by rw[hl],by rw[hl];exact hc,hm,hS.take k,?_,?_⟩
 · rw[hl]
   rcases ht with h | h
   · exact .inl h
   · rcases Nat.eq_zero_or_pos k with h0 | h0
     · exact .inl h0
     · exact .inr (by rw[dig_take (by omega)];exact h)
 · unfold numOf
   rw[hl,←hv]
   exact vf_congr fun i hi=>dig_take hi
theorem NatV.nil (w:World):NatV w (.agg #[.slice none 0 0]) 0:=⟨_,rfl,NumS.nil _ _ _ _⟩
theorem NatV.words (h:NatV w v n):∃A c xs,v=.agg #[.slice A xs.length c]∧xs.length≤c∧c≤maxLen∧Sl by32 w A xs∧Trd (dig d32 xs) xs.length∧numOf W32 d32 xs=n:=by
 obtain⟨s,rfl,A,c,xs,rfl,h⟩:=h
 exact⟨A,c,xs,rfl,h⟩
theorem NatV.open_ (h:NatV w v n):∃A l c xs,v=.agg #[.slice A l c]∧xs.length=l∧l≤c∧c≤maxLen∧Sl by32 w A xs∧Trd (dig d32 xs) l∧numOf W32 d32 xs=n:=by
 obtain⟨A,c,xs,h1,h2,h3,h4,h5,h6⟩:=h.words
 exact⟨A,xs.length,c,xs,h1,rfl,h2,h3,h4,h5,h6⟩
theorem RefV.open_ (h:RefV w v n):∃A l c xs,v=.slice A l c∧xs.length=l∧l≤c∧c≤maxLen∧Sl Value.bool w A xs∧Trd (dig d1 xs) l∧numOf 2 d1 xs=n:=by
 obtain⟨A,c,xs,h1,h2,h3,h4,h5,h6⟩:=h
 exact⟨A,xs.length,c,xs,h1,rfl,h2,h3,h4,h5,h6⟩
theorem one_lt_W32 :1<W32:=by decide
theorem W32_pow :W32=2^32:=rfl
theorem words_len {xs:List (BitVec 32)} (ht:Trd (dig d32 xs) xs.length):xs.length=(blen (numOf W32 d32 xs)+31) / 32:=by
 have h1:=numOf_lt (xs:=xs) d32_lt
 rw[W32_pow,←Nat.pow_mul,←blen_le_iff]at h1
 rw[←W32_pow]at h1
 rcases Nat.eq_zero_or_pos xs.length with e | e
 · rw[e]at h1 ⊢;omega
 · have h2:=ht.low (β:=W32) e
   have h3:¬blen (numOf W32 d32 xs)≤32*(xs.length - 1):=by
    rw[blen_le_iff,Nat.pow_mul,←W32_pow]
    show ¬vf W32 (dig d32 xs) xs.length<_
    omega
   omega
theorem bits_len {xs:List Bool} (ht:Trd (dig d1 xs) xs.length):xs.length=blen (numOf 2 d1 xs):=by
 refine(blen_uniq ?_ (numOf_lt d1_lt)).symm
 rcases Nat.eq_zero_or_pos xs.length with e | e
 · exact .inl e
 · exact .inr (ht.low e)
end
end
/- The division of long numbers, in plain numbers: the shift that sets the divisor's highest bit; the window under a digit; the end. -/
section
namespace Nt
section
variable {β : Nat} {f u : Nat → Nat}
theorem norm_word {t n:Nat} (ht:t≠0) (h32:blen t≤32) (hn:n=32 - blen t):2147483648≤t*2^n∧(t+1)*2^n≤4294967296:=by
 obtain⟨h1,h2⟩:=blen_le ht
 have h3:=blen_lt t
 have e1:2^(blen t - 1)*2^n=2147483648:=by
  rw[←Nat.pow_add,show blen t - 1+n=31 by omega]
 have e2:2^blen t*2^n=4294967296:=by
  rw[←Nat.pow_add,show blen t+n=32 by omega]
 constructor
 · rw[←e1];exact Nat.mul_le_mul_right _ h2
 · rw[←e2];exact Nat.mul_le_mul_right _ h3
theorem norm_low {m D c:Nat} (hc:c≤f m*D):c*β^m≤vf β f (m+1)*D:=by
 rw[vf_succ,Nat.add_mul]
 have h1:c*β^m≤f m*D*β^m:=Nat.mul_le_mul_right _ hc
 have h2:f m*D*β^m=f m*β^m*D:=by ac_rfl
 omega
theorem norm_high {m D:Nat} (hd:∀i,i<m→f i<β) (hD:0<D) (hc:(f m+1)*D≤β):vf β f (m+1)*D<β^(m+1):=by
 have h1:vf β f m<β^m:=vf_lt hd
 have h2:vf β f (m+1)<(f m+1)*β^m:=by rw[vf_succ,Nat.add_mul];omega
 have h3:vf β f (m+1)*D<(f m+1)*β^m*D:=Nat.mul_lt_mul_of_pos_right h2 hD
 have h4:(f m+1)*β^m*D=(f m+1)*D*β^m:=by ac_rfl
 have h5:(f m+1)*D*β^m≤β*β^m:=Nat.mul_le_mul_right _ hc
 have h6:β*β^m=β^(m+1):=by rw[Nat.pow_succ,Nat.mul_comm]
 omega
theorem top_ge {m c:Nat} (hd:∀i,i<m→f i<β) (h:c*β^m≤vf β f (m+1)):c≤f m:=by
 have h1:vf β f m<β^m:=vf_lt hd
 rw[vf_succ]at h
 rcases Nat.lt_or_ge (f m) c with h2 | h2
 · have h3:(f m+1)*β^m≤c*β^m:=Nat.mul_le_mul_right _ h2
   rw[Nat.add_mul]at h3
   omega
 · exact h2
theorem drop_top {m:Nat} (hβ:0<β) (h:vf β f (m+1)<β^m):vf β f m=vf β f (m+1):=by
 rw[vf_succ,vf_zero_above hβ h (Nat.le_refl _) (Nat.lt_succ_self _),Nat.zero_mul,Nat.add_zero]
theorem window_lt {nu m j V:Nat} (hβ:0<β) (hlt:vf β u nu<V*β^(j+1)) (hnu:j+m<nu):vf β (fun i=>u (j+i)) (m+1)<β*V:=by
  have h1:vf β u (j+(m+1))≤vf β u nu:=vf_mono (by omega)
  rw[vf_split]at h1
  have hp:0<β^j:=Nat.pow_pos hβ
  refine Nat.lt_of_mul_lt_mul_right (a:=β^j) ?_
  have e:β*V*β^j=V*β^(j+1):=by rw[Nat.pow_succ];ac_rfl
  omega
theorem div_start {q:Nat→Nat} {nu nq U0 V:Nat} (hu:vf β u nu=U0) (hq:∀i,i<nq→q i=0) (hU:U0<V*β^nq):U0=vf β q nq*V+vf β u nu∧vf β u nu<V*β^nq:=by
 have h0:vf β q nq=0:=by
  have:=vf_zero_tail (β:=β) (f:=q) (n:=0) (m:=nq) (by omega) (fun i _ h=>hq i h)
  rw[this];rfl
 exact⟨by rw[h0,hu];omega,by rw[hu];exact hU⟩
theorem start_lt {a b D m nq:Nat} (hD:0<D) (ha:a<β^(m+nq)) (hb:β^m≤b):a*D<b*D*β^nq:=by
 have h1:β^m*β^nq≤b*β^nq:=Nat.mul_le_mul_right _ hb
 rw[Nat.pow_add]at ha
 have h2:a*D<b*β^nq*D:=Nat.mul_lt_mul_of_pos_right (by omega) hD
 have h3:b*β^nq*D=b*D*β^nq:=by ac_rfl
 omega
theorem div_end {a b D Q R:Nat} (hD:0<D) (h:a*D=Q*(b*D)+R) (hR:R<b*D):Q=a / b∧R / D=a % b:=by
 obtain⟨h1,h2⟩:=divmod_of h hR
 obtain⟨h3,h4⟩:=div_shift (a:=a) (b:=b) hD
 exact⟨by rw[←h1,h3],by rw[←h2,h4]⟩
end
end Nt
end
end Go.Proofs.Ytbhhjfhepkbfgaa
