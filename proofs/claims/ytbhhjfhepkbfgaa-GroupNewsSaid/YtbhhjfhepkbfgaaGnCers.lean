/- Merged: CertA CertB CertC CertD CertE CertF. -/
import Derived.Test.YtbhhjfhepkbfgaaGnExpL
import Derived.Test.YtbhhjfhepkbfgaaGnPock
namespace Go.Proofs.Ytbhhjfhepkbfgaa
set_option linter.unusedSimpArgs false
set_option linter.unusedVariables false
/- Small primes and what is known, walked: Small, known, power, long. -/
section
open Go.RowKit
open Nt
attribute [local go_sem] steady steadyUpon Cls same_cell
attribute [local irreducible] wpHead wpTree
def smallB (n:Nat):Bool:=decide (2≤n) && (decide (n<65536) && (List.range 256).all fun d=>!(decide (2≤d) && (decide (d*d≤n) && decide (n % d=0))))
theorem smallB_iff {n:Nat}:smallB n=true↔2≤n∧n<65536∧∀d,2≤d→d*d≤n→n % d≠0:=by
 unfold smallB
 simp only[Bool.and_eq_true,decide_eq_true_iff,List.all_eq_true,List.mem_range,Bool.not_eq_true',Bool.and_eq_false_iff,decide_eq_false_iff_not]
 have h:∀d:Nat,(¬2≤d∨¬d*d≤n∨¬n % d=0)↔(2≤d→d*d≤n→n % d≠0):=fun d=>
  ⟨fun h h1 h2=>h.elim (fun h=>absurd h1 h) (fun h=>h.elim (fun h=>absurd h2 h) id),fun h=>by
    by_cases h1:2≤d
    · by_cases h2:d*d≤n
      · exact .inr (.inr (h h1 h2))
      · exact .inr (.inl h2)
    · exact .inl h1⟩
 simp only[h]
 refine⟨fun ⟨h1,h2,h3⟩=>⟨h1,h2,fun d hd hdd=>h3 d ?_ hd hdd⟩,fun ⟨h1,h2,h3⟩=>⟨h1,h2,fun d _ hd hdd=>h3 d hd hdd⟩⟩
 refine Nat.lt_of_not_ge fun h=>?_
 have:=Nat.mul_le_mul h h
 omega
theorem smallB_pr {n:Nat} (h:smallB n=true):Pk.Pr n:=by
 obtain⟨h1, -,h3⟩:=smallB_iff.1 h
 exact Pk.pr_of_small h1 h3
theorem smallB_false {n:Nat} (h:n<2∨65536≤n):smallB n=false:=by
 cases e:smallB n with
 | false=>rfl
 | true=>obtain⟨h1,h2, -⟩:=smallB_iff.1 e;omega
theorem smallB_div {n d:Nat} (h1:2≤d) (h2:d*d≤n) (h3:n % d=0):smallB n=false:=by
 cases e:smallB n with
 | false=>rfl
 | true=>exact absurd h3 ((smallB_iff.1 e).2.2 d h1 h2)
set_option maxRecDepth 100000 in
set_option maxHeartbeats 2000000 in
theorem csmall_any (v:Value) (n:Nat) (w:World) (hV:NatV w v n):Calls Try.prog 59 #[v] w fun e w'=>e=.returned (.bool (smallB n))∧Ext w w':=by
  obtain⟨A,la,ca,xs,rfl, -⟩:=hV.open_
  obtain⟨t,ht⟩:∃t,t=smallB n:=⟨_,rfl⟩
  rw[←ht]
  have Ht:=hide ht
  clear ht
  go_enter Try.func59,Try.ntmps59
  go_wp2_with fail
  refine name_c (fun W hW=>?_)
  have hE:Ext w W:=by rw[hW];exact(Upd.refl _ w).alloc _
  clear hW
  refine(uint_any _ n _ (hV.ext hE)).mono ?_
  rintro e w1 ⟨rfl,hU⟩
  replace hE:=hE.trans hU
  clear hU hV
  by_cases hbig:n<18446744073709551616
  · rw[if_pos hbig,decide_eq_true hbig]
    clear hbig
    by_cases h2:n<2
    · obtain rfl:t=false:=Ht.out.trans (smallB_false (.inl h2))
      have h2I:(n:Int)<2:=by omega
      go_wp2_with fail
      go_ret
      exact⟨rfl,hE⟩
    · by_cases h16:n<65536
      · have h2I:¬(n:Int)<2:=by omega
        have h16I:decide ((65536:Int)≤(n:Int))=false:=decide_eq_false (by omega)
        have H16:=hide h16
        clear h16 h2
        go_wp2_with fail
        go_loopw [5] (fun dv wr=>∃d:Nat,2≤d∧d≤256∧dv=.int .u64 (d:Int)∧(∀e,2≤e→e<d→n % e≠0)∧Ext w wr) (fun dv _=>257 - (intOf dv).toNat)
        case atStart=>exact⟨2,by omega,by omega,rfl,fun e h1 h2=>by omega,hE⟩
        case round=>
         clear hE
         obtain⟨d,hd2,hd,rfl,hno,hE⟩:=hrel
         obtain⟨s,hs⟩:∃s,s=d*d:=⟨_,rfl⟩
         have hsI:(d:Int)*(d:Int)=(s:Int):=by rw[hs];push_cast;rfl
         have hsb:s≤65536:=by rw[hs];exact Nat.mul_le_mul hd hd
         have Hno:=hide hno
         have Hs:=hide hs
         clear hno hs
         by_cases hle:s≤n
         · have hleI:(s:Int)≤(n:Int):=by omega
           have hd255:d≤255:=Nat.le_of_lt_succ (Nat.lt_of_le_of_ne hd fun e=>by have:=Hs.out;have:=H16.out;rw[e]at*;omega)
           obtain⟨r,hr⟩:∃r,r=n % d:=⟨_,rfl⟩
           have hr1:(n:Int).tmod (d:Int)=(r:Int):=by rw[Int.tmod_eq_emod_of_nonneg (by omega),hr];rfl
           have hr2:(n:Int) % (d:Int)=(r:Int):=by rw[hr];rfl
           have hrb:r≤65536:=by rw[hr];exact Nat.le_trans (Nat.mod_le _ _) (Nat.le_of_lt H16.out)
           have Hr:=hide hr
           have hd0:¬(d:Int)=0:=by omega
           clear hr
           by_cases hr0:r=0
           · have hr0I:(r:Int)=0:=by omega
             obtain rfl:t=false:=Ht.out.trans (smallB_div hd2 (by rw[←Hs.out];exact hle) (by rw[←Hr.out];exact hr0))
             go_wp2_with fail
             go_ret
             exact⟨rfl,hE⟩
           · have hr0I:¬(r:Int)=0:=by omega
             go_wp2_with fail
             go_roundw
             case rel=>exact⟨d+1,by omega,by omega,by go_num,fun e h1 h2=>by
                 by_cases h:e=d
                 · subst h;rw[←Hr.out];exact hr0
                 · exact Hno.out e h1 (by omega),hE⟩
             case measure=>simp[intOf];omega
         · have hleI:¬(s:Int)≤(n:Int):=by omega
           obtain rfl:t=true:=Ht.out.trans (smallB_iff.2 ⟨by omega,H16.out,fun e h1 h2=>Hno.out e h1 (Nat.lt_of_not_ge fun h=>by
             have h3:=Nat.mul_le_mul h h
             rw[←Hs.out]at h3
             omega)⟩)
           go_wp2_with fail
           go_ret
           exact⟨rfl,hE⟩
      · obtain rfl:t=false:=Ht.out.trans (smallB_false (.inr (by omega)))
        have h2I:¬(n:Int)<2:=by omega
        have h16I:(65536:Int)≤(n:Int):=by omega
        go_wp2_with fail
        go_ret
        exact⟨rfl,hE⟩
  · rw[if_neg hbig,decide_eq_false hbig]
    obtain rfl:t=false:=Ht.out.trans (smallB_false (.inr (by omega)))
    clear hbig
    go_wp2_with fail
    go_ret
    exact⟨rfl,hE⟩
theorem clong_any (v:Value) (n k:Nat) (w:World) (hV:NatV w v n) (hF:Fit k n) (hk:k≤1000000):Calls Try.prog 87 #[v] w fun e w'=>e=.returned (.bool (decide (1024<blen n)))∧Ext w w':=by
  obtain⟨A,la,ca,xs,rfl, -⟩:=hV.open_
  obtain⟨t,ht⟩:∃t,t=decide (1024<blen n):=⟨_,rfl⟩
  rw[←ht]
  have Ht:=hide ht
  clear ht
  go_enter Try.func87,Try.ntmps87
  go_wp2_with fail
  refine name_c (fun W hW=>?_)
  have hE:Ext w W:=by rw[hW];exact(Upd.refl _ w).alloc _
  clear hW
  refine(bits_any _ n k _ (hV.ext hE) hF hk).mono ?_
  rintro e w1 ⟨rfl,hU⟩
  replace hE:=hE.trans hU
  by_cases h:1024<blen n
  · obtain rfl:t=true:=Ht.out.trans (decide_eq_true h)
    have hI:(1024:Int)<(blen n:Int):=by omega
    go_wp2_with fail
    go_ret
    exact⟨rfl,hE⟩
  · obtain rfl:t=false:=Ht.out.trans (decide_eq_false h)
    have hI:decide ((1024:Int)<(blen n:Int))=false:=decide_eq_false (by omega)
    go_wp2_with fail
    go_ret
    exact⟨rfl,hE⟩
end
/- Lists of numbers; what is known, walked. -/
section
open Go.RowKit
open Nt
attribute [local go_sem] steady steadyUpon Cls same_cell
attribute [local irreducible] wpHead wpTree
abbrev Tri :=Option Addr × Nat × Nat
def svt (t:Tri):Value:=.slice t.1 t.2.1 t.2.2
def NatL (w:World) (A:Option Addr) (ns:List Nat):Prop:=∃ts:List Tri,ts.length=ns.length∧Sl svt w A ts∧∀i,i<ns.length→NatV w (.agg #[svt (gat ts i)]) (gat ns i)
theorem NatL.ext {w w':World} {A:Option Addr} {ns:List Nat} (h:NatL w A ns) (hu:Ext w w'):NatL w' A ns:=by
 obtain⟨ts,h1,h2,h3⟩:=h
 exact⟨ts,h1,h2.ext hu,fun i hi=>(h3 i hi).ext hu⟩
theorem NatL.at {w:World} {A:Option Addr} {ns:List Nat} (h:NatL w A ns) {i:Nat} (hi:i<ns.length):∃b o B l c,A=some ⟨b,o,none⟩∧w.cell? ⟨b,o+i,none⟩=some (.slice B l c)∧NatV w (.agg #[.slice B l c]) (gat ns i):=by
 obtain⟨ts,h1,h2,h3⟩:=h
 obtain⟨b,o,rfl, -,hc⟩:=h2.open_ (by omega)
 exact⟨b,o,_,_,_,rfl,hc i (by omega),h3 i hi⟩
def FitL (k:Nat) (ns:List Nat):Prop:=∀i,i<ns.length→Fit k (gat ns i)
def hasB (ns:List Nat) (n:Nat):Bool:=ns.any fun x=>x == n
def knownB (ns:List Nat) (n:Nat):Bool:=hasB ns n || smallB n
theorem hasB_take {ns:List Nat} {n k:Nat} (h:k<ns.length):hasB (ns.take (k+1)) n=(hasB (ns.take k) n || gat ns k == n):=by
 unfold hasB
 rw[List.take_succ_eq_append_getElem h,List.any_append,gat_lt h]
 simp
theorem hasB_yes {ns:List Nat} {n k:Nat} (h:k<ns.length) (e:gat ns k=n):hasB ns n=true:=by
 unfold hasB
 rw[List.any_eq_true]
 exact⟨ns[k],List.getElem_mem h,by rw[←e,gat_lt h];exact beq_self_eq_true _⟩
theorem cmpI_zero {a b:Nat}:cmpI a b=0↔a=b:=by
 unfold cmpI
 split
 · constructor
   · intro h;omega
   · intro h;omega
 · split<;>simp[*]
set_option maxRecDepth 100000 in
set_option maxHeartbeats 2000000 in
theorem cknown_any (v:Value) (n k:Nat) (A:Option Addr) (m c:Nat) (ns:List Nat) (w:World) (hV:NatV w v n) (hF:Fit k n) (hk:k≤1000000) (hL:NatL w A ns) (hFL:FitL k ns) (hm:ns.length=m) (hm2:m≤1000000):
 Calls Try.prog 101 #[v,.slice A m c] w fun e w'=>e=.returned (.bool (knownB ns n))∧Ext w w':=by
 obtain⟨A0,la,ca,xs,rfl, -⟩:=hV.open_
 obtain⟨t,ht⟩:∃t,t=knownB ns n:=⟨_,rfl⟩
 rw[←ht]
 have Ht:=hide ht
 have Hm:=hide hm
 have HL:=hide hL
 clear ht hm hL
 go_enter Try.func101,Try.ntmps101
 go_wp2_with fail
 go_loopw [9] (fun i wr=>∃j:Nat,j≤m∧i=.int .i64 (j:Int)∧hasB (ns.take j) n=false∧Box wr w.heap.size 33 (.slice A0 la ca)∧Ext w wr) (fun i _=>m - (intOf i).toNat)
 case atStart=>exact⟨0,Nat.zero_le _,rfl,rfl,Box.new _ _ _,(Upd.refl _ _).alloc _⟩
 case round=>
  obtain⟨j,hj,rfl,hno,b2,hE⟩:=hrel
  have Hno:=hide hno
  clear hno
  by_cases hlt:j<m
  · have hltI:(j:Int)<(m:Int):=by omega
    obtain⟨b,o,B,l,d,rfl,hc,hVj⟩:=(HL.out.ext hE).at (i:=j) (by rw[Hm.out];exact hlt)
    obtain⟨x,hx⟩:∃x,x=gat ns j:=⟨_,rfl⟩
    have hFx:Fit k x:=by rw[hx];exact hFL j (by rw[Hm.out];exact hlt)
    rw[←hx]at hVj
    have Hx:=hide hx
    have k2:=(b2.alloc (.cells #[.slice B l d] 33)).cell
    clear hx
    go_wp2_with fail
    refine name_c (fun W hW=>?_)
    have hEW:Ext wr W:=by rw[hW];exact(Upd.refl _ _).alloc _
    clear hW k2 hc
    refine(cmp_any _ _ x n k _ (hVj.ext hEW) (hV.ext (hE.trans hEW)) hFx hF hk).mono ?_
    rintro e w2 ⟨rfl,hU⟩
    have hE2:=(hE.trans hEW).trans hU
    have b22:=b2.ext (hEW.trans hU)
    clear hEW hU hE b2 hVj
    by_cases hxn:x=n
    · rw[cmpI_zero.2 hxn]
      obtain rfl:t=true:=Ht.out.trans (by unfold knownB;rw[hasB_yes (k:=j) (by rw[Hm.out];exact hlt) (by rw[←Hx.out];exact hxn)];rfl)
      clear hxn
      go_wp2_with fail
      go_ret
      exact⟨rfl,hE2⟩
    · have hz:¬cmpI x n=0:=fun h=>hxn (cmpI_zero.1 h)
      generalize cmpI x n=z at hz ⊢
      have hz2:(z == 0)=false:=beq_eq_false_iff_ne.2 hz
      go_wp2_with fail
      go_roundw
      case rel=>exact⟨j+1,by omega,by go_num,by rw[hasB_take (by rw[Hm.out];exact hlt),Hno.out,←Hx.out];simpa using hxn,b22,hE2⟩
      case measure=>simp[intOf];omega
  · obtain rfl:j=m:=by omega
    have hltI:¬(j:Int)<(j:Int):=by omega
    have k2:=b2.cell
    have hno:hasB ns n=false:=by have:=Hno.out;rwa [List.take_of_length_le (by rw[Hm.out];omega)]at this
    go_wp2_with fail
    refine(csmall_any _ n _ (hV.ext hE)).mono ?_
    rintro e w2 ⟨rfl,hU⟩
    obtain rfl:t=smallB n:=Ht.out.trans (by unfold knownB;rw[hno];rfl)
    go_wp2_with fail
    go_ret
    exact⟨rfl,hE.trans hU⟩
end
/- The power with which a prime stands in a number, walked. -/
section
open Go.RowKit
open Nt Pk
attribute [local go_sem] steady steadyUpon Cls same_cell
attribute [local irreducible] wpHead wpTree
def pwN (n p:Nat):Nat:=if n % p=0 then vpow n p else 0
theorem vpow_one {n p:Nat} (hp:2≤p) (hn:0<n):vpow n p=1↔n % p≠0:=by
 refine⟨fun h h0=>?_,vpow_no⟩
 rw[vpow_yes hp hn h0]at h
 have:=vpow_pos (n / p) p hp (Nat.div_pos (Nat.le_of_dvd hn (Nat.dvd_of_mod_eq_zero h0)) (by omega))
 have h2:=Nat.mul_le_mul hp this
 omega
theorem vpow_le {n p:Nat} (hp:2≤p) (hn:0<n):vpow n p≤n:=by
 obtain⟨e,k,h1,h2,h3⟩:=vpow_spec hp n hn
 have hk:0<k:=Nat.pos_of_ne_zero fun e=>by subst e;simp at h3
 rw[h1]
 conv=>rhs;rw[h2]
 exact Nat.le_mul_of_pos_right _ hk
set_option maxRecDepth 100000 in
set_option maxHeartbeats 4000000 in
theorem cpower_any (va vb:Value) (n p k:Nat) (w:World) (hVa:NatV w va n) (hVb:NatV w vb p) (hFa:Fit k n) (hFb:Fit k p) (hk:k≤500000) (hp:2≤p) (hn:0<n):
 Calls Try.prog 102 #[va,vb] w (RetN w (pwN n p)):=by
 obtain⟨A,la,ca,xs,rfl, -⟩:=hVa.open_
 obtain⟨B,lb,cb,ys,rfl, -⟩:=hVb.open_
 have hFn:∀x,x≤n→Fit k x:=fun x hx=>hFa.le hx
 go_enter Try.func102,Try.ntmps102
 go_wp2_with fail
 refine name_c (fun W hW=>?_)
 have b2:Box W w.heap.size 33 (.slice A la ca):=by rw[hW];exact((Box.new _ _ _).alloc _).alloc _
 have b3:Box W (w.heap.size+1) 33 (.slice B lb cb):=by rw[hW];exact(Box.new_at (by simp)).alloc _
 have b4:Box W (w.heap.size+1+1) 33 (.slice none 0 0):=by rw[hW];exact Box.new_at (by simp)
 have hE:Ext w W:=by rw[hW];exact(((Upd.refl _ w).alloc _).alloc _).alloc _
 clear hW
 refine(new_any 1 _ (by omega)).mono ?_
 rintro e w1 ⟨A1,l1,c1,rfl,hV1,hU⟩
 replace b2:=b2.ext hU
 replace b3:=b3.ext hU
 replace b4:=b4.ext hU
 replace hE:=hE.trans hU
 clear hU
 go_wp2_with fail
 refine name_w (fun Z hZ=>?_)
 have hEZ:Ext w1 Z:=by rw[hZ];exact(Upd.refl _ _).alloc _
 have b5:Box Z w1.heap.size 33 (.slice A1 l1 c1):=by rw[hZ];exact Box.new _ _ _
 clear hZ
 obtain⟨G,hG⟩:∃G,G=w1.heap.size:=⟨_,rfl⟩
 have hlt:w.heap.size+1+1<G:=by rw[hG];exact b4.lt
 rw[←hG]at b5 ⊢
 clear hG
 replace b2:=b2.ext hEZ
 replace b3:=b3.ext hEZ
 replace b4:=b4.ext hEZ
 replace hE:=hE.trans hEZ
 replace hV1:=hV1.ext hEZ
 have hVb0:=hVb.ext hE
 have hVa0:=hVa.ext hE
 clear hEZ hVa hVb
 go_loopw [] (fun wr=>∃(x y:Nat) (X:Option Addr) (lX cX:Nat) (Y:Option Addr) (lY cY:Nat),Box wr w.heap.size 33 (.slice X lX cX)∧Box wr (w.heap.size+1) 33 (.slice B lb cb)∧Box wr (w.heap.size+1+1) 33 (.slice none 0 0)∧Box wr G 33 (.slice Y lY cY)∧NatV wr (.agg #[.slice X lX cX]) x∧NatV wr (.agg #[.slice Y lY cY]) y∧NatV wr (.agg #[.slice B lb cb]) p∧0<x∧x≤n∧y*vpow x p=vpow n p∧0<y∧(y=1→x=n)∧Ext w wr) (fun wr=>natAt wr w.heap.size)
 case atStart=>exact⟨n,1,A,la,ca,A1,l1,c1,b2,b3,b4,b5,hVa0,hV1,hVb0,hn,Nat.le_refl _,Nat.one_mul _,by omega,fun _=>rfl,hE⟩
 case round=>
  clear b2 b3 b4 b5 hE hVb0 hVa0 hV1
  obtain⟨x,y,X,lX,cX,Y,lY,cY,b2,b3,b4,b5,hVx,hVy,hVb,hx0,hxn,hyx,hy0,hy1,hE⟩:=hrel
  have Hyx:=hide hyx
  have Hy1:=hide hy1
  have Hx0:=hide hx0
  have Hxn:=hide hxn
  have Hvy:=hide hVx
  have B2:=hide b2
  have c2:=b2.cell
  have c3:=b3.cell
  have hFx:Fit k x:=hFn x hxn
  have hyn:y≤n:=by
   have h1:=vpow_pos x p hp hx0
   have h2:=Nat.le_mul_of_pos_right y h1
   rw[hyx]at h2
   exact Nat.le_trans h2 (vpow_le hp hn)
  have hFy:Fit k y:=hFn y hyn
  clear hyx hy1 hx0 hxn hyn
  go_wp2_with fail
  refine(div_any _ _ x p k _ hVx hVb hFx hFb (by omega) (by omega)).mono ?_
  rintro e w5 ⟨A5,l5,c5,A6,l6,c6,rfl,hV5,hV6,hU5⟩
  have d2:=b2.ext hU5
  have d3:=b3.ext hU5
  have d4:=b4.ext hU5
  have d5:=b5.ext hU5
  clear c2 c3
  go_wp2_with fail
  refine name_c (fun W hW=>?_)
  have hEW:Ext wr W:=by rw[hW];exact(hU5.alloc _).alloc _
  have e6:Box W w5.heap.size 33 (.slice A5 l5 c5):=by rw[hW];exact(Box.new _ _ _).alloc _
  have e7:Box W (w5.heap.size+1) 33 (.slice A6 l6 c6):=by rw[hW];exact Box.new_at (by simp)
  have hV5':NatV W (.agg #[.slice A5 l5 c5]) (x / p):=by rw[hW];exact hV5.ext (((Upd.refl _ _).alloc _).alloc _)
  have hV6':NatV W (.agg #[.slice A6 l6 c6]) (x % p):=by rw[hW];exact hV6.ext (((Upd.refl _ _).alloc _).alloc _)
  have hw5:wr.heap.size≤w5.heap.size:=hU5.size
  clear hW d2 d3 d4 d5 hV5 hV6 hU5
  refine(zero_any _ (x % p) _ hV6').mono ?_
  rintro e w8 ⟨rfl,hU8⟩
  have hE8:=hEW.trans hU8
  have f2:=b2.ext hE8
  have f3:=b3.ext hE8
  have f4:=b4.ext hE8
  have f5:=b5.ext hE8
  have f6:=e6.ext hU8
  have hVy8:=hVy.ext hE8
  have hVb8:=hVb.ext hE8
  have hV58:=hV5'.ext hU8
  have hEw:=hE.trans hE8
  have b5lt:G<w5.heap.size:=Nat.lt_of_lt_of_le b5.lt hw5
  clear hEW hU8 e6 e7 hV5' hV6' b2 b3 b4 b5 hE hVx hVy hVb
  by_cases hr:x % p=0
  · rw[decide_eq_true hr]
    have Hr:=hide hr
    clear hr
    have k3:=fun z:Wd (Upd (only G) w8.drew)=>(z.ok.cell (p:=⟨w.heap.size+1,0,none⟩) f3.drew.lt (fun h=>by unfold only at h;dsimp only at h;omega)).trans f3.drew.cell
    have hG5:w5.heap.size≠G:=by have:=b5lt;omega
    have k6:=fun z:Wd (Upd (only G) w8.drew)=>(z.ok.cell (p:=⟨w5.heap.size,0,none⟩) f6.drew.lt (fun h=>hG5 h)).trans f6.drew.cell
    have k5:=f5.drew.cell
    go_wp2_with fail
    refine wp_region_plan (Upd (only G) _) 5 [(false,1),(false,3),(true,0),(true,2),(true,4)] (by kernel_rfl) (by kernel_rfl) (Upd.refl _ _) (fun hne=>?_)
    repeat (refine head_q rfl (fun K hK=>?_);have hK2:=hide hK;clear hK;go_simp;refine hK2.out _ ?_;clear hK2 K)
    refine head_l rfl ?_
    go_wp2_with fail
    refine⟨_,fun _ h=>h,⟨⟨_,Upd.refl _ _⟩,rfl⟩,?_⟩
    refine head_l rfl ?_
    go_wp2_with fail
    refine(mul_any _ _ y p k _ (hVy8.ext (Upd.refl _ _).drew) (hVb8.ext (Upd.refl _ _).drew) hFy hFb (by omega)).mono ?_
    rintro e w9 ⟨A9,l9,c9,rfl,hV9,hU9⟩
    go_wp2_with fail
    refine⟨_,fun _ h=>h,⟨⟨_,Upd.ofExt hU9⟩,rfl⟩,?_⟩
    have hE9:Ext w8 w9:=hU9.undrew
    have g2:=f2.ext hE9
    have g3:=f3.ext hE9
    have g4:=f4.ext hE9
    have g5:=f5.ext hE9
    have hVb9:=hVb8.ext hE9
    have hV59:=hV58.ext hE9
    have hEw9:=hEw.trans hE9
    have r5:=g5.cell
    have z5:=g5.frozen
    refine head_l rfl ?_
    go_wp2_with fail
    refine⟨_,fun _ h=>h,⟨⟨_,(Upd.ofExt hU9).setCell (T:=only G) (p:=⟨G,0,none⟩) (.inl rfl) _⟩,rfl⟩,?_⟩
    have g2':=g2.far (p:=⟨G,0,none⟩) (by simp;omega) (.slice A9 l9 c9)
    have r2:=g2'.cell
    have z2:=g2'.frozen
    have hN2:NatV ((w9.setCell ⟨G,0,none⟩ (.slice A9 l9 c9)).setCell ⟨w.heap.size,0,none⟩ (.slice A5 l5 c5)) (.agg #[.slice A5 l5 c5]) (x / p):=(hV59.far (v:=.slice A9 l9 c9) r5).far r2
    have hN9:NatV ((w9.setCell ⟨G,0,none⟩ (.slice A9 l9 c9)).setCell ⟨w.heap.size,0,none⟩ (.slice A5 l5 c5)) (.agg #[.slice A9 l9 c9]) (y*p):=(hV9.far (v:=.slice A9 l9 c9) r5).far r2
    have hNb:NatV ((w9.setCell ⟨G,0,none⟩ (.slice A9 l9 c9)).setCell ⟨w.heap.size,0,none⟩ (.slice A5 l5 c5)) (.agg #[.slice B lb cb]) p:=(hVb9.far (v:=.slice A9 l9 c9) r5).far r2
    have HN2:=hide hN2
    have HN9:=hide hN9
    have HNb:=hide hNb
    have q2:Box ((w9.setCell ⟨G,0,none⟩ (.slice A9 l9 c9)).setCell ⟨w.heap.size,0,none⟩ (.slice A5 l5 c5)) w.heap.size 33 (.slice A5 l5 c5):=g2'.set _
    have Q2:=hide q2
    have q5:Box ((w9.setCell ⟨G,0,none⟩ (.slice A9 l9 c9)).setCell ⟨w.heap.size,0,none⟩ (.slice A5 l5 c5)) G 33 (.slice A9 l9 c9):=(g5.set _).far (p:=⟨w.heap.size,0,none⟩) (by simp;omega) _
    have Q5:=hide q5
    have hlt5:x / p<x:=Nat.div_lt_self Hx0.out (by omega)
    have hpos5:0<x / p:=Nat.div_pos (Nat.le_of_dvd Hx0.out (Nat.dvd_of_mod_eq_zero Hr.out)) (by omega)
    clear k5 k3 k6 hU9 hE9 hEw hV58 hVb8 hVy8 f2 f3 f4 f5 f6 hN2 hN9 hNb q2 q5 g2' hV59 hVb9 hV9
    refine head_nil ?_
    try simp only[List.drop_succ_cons,List.drop_zero]
    go_wp2_with fail
    go_roundw
    case rel=>
     refine⟨x / p,y*p,_,_,_,_,_,_,Q2.out,((g3.far (p:=⟨G,0,none⟩) (by simp;omega) _).far (p:=⟨w.heap.size,0,none⟩) (by simp) _),((g4.far (p:=⟨G,0,none⟩) (by simp;omega) _).far (p:=⟨w.heap.size,0,none⟩) (by simp;omega) _),Q5.out,HN2.out,HN9.out,HNb.out,hpos5,Nat.le_trans (Nat.le_of_lt hlt5) Hxn.out,?_,Nat.mul_pos hy0 (by omega),fun h=>?_,(hEw9.setCell (p:=⟨G,0,none⟩) (.inr (by simp;omega)) _).setCell (p:=⟨w.heap.size,0,none⟩) (.inr (Nat.le_refl _)) _⟩
     · rw[Nat.mul_assoc,←vpow_yes hp Hx0.out Hr.out];exact Hyx.out
     · have:=Nat.mul_le_mul hy0 hp
       omega
    case measure=>
     rw[natAt_eq Q2.out.cell HN2.out,natAt_eq B2.out.cell Hvy.out]
     exact hlt5
  · rw[decide_eq_false hr]
    have Hr:=hide hr
    clear hr
    have k5:=fun z:Wd (Ext w8.drew)=>(z.ok.cell (p:=⟨G,0,none⟩) f5.drew.lt (fun h=>h)).trans f5.drew.cell
    go_wp2_with fail
    have Hyv:Hid (y=vpow n p):=hide (by have:=Hyx.out;rwa [vpow_no Hr.out,Nat.mul_one]at this)
    refine wp_region_plan (Ext _) 3 [(false,0),(true,1),(true,2)] (by kernel_rfl) (by kernel_rfl) (Upd.refl _ _) (fun hne=>?_)
    repeat (refine head_q rfl (fun K hK=>?_);have hK2:=hide hK;clear hK;go_simp;refine hK2.out _ ?_;clear hK2 K)
    refine head_l rfl ?_
    go_wp2_with (refine(new_any 1 _ (by omega)).mono ?_;rintro e w9 ⟨A9,l9,c9,rfl,hV9,hU9⟩)
    refine⟨Cls (Ext _),fun _ h=>h,⟨⟨_,hU9⟩,rfl⟩,?_⟩
    repeat (refine head_q rfl (fun K hK=>?_);have hK2:=hide hK;clear hK;go_simp;refine hK2.out _ ?_;clear hK2 K)
    refine head_l rfl ?_
    go_wp2_with (refine(cmp_any _ _ y 1 k _ ((hVy8.ext (Upd.refl _ _).drew).ext hU9) hV9 hFy (hFn 1 hn) (by omega)).mono ?_;rintro e w10 ⟨rfl,hU10⟩)
    refine⟨Cls (Ext _),fun _ h=>h,⟨⟨_,(hU9.trans hU10)⟩,rfl⟩,?_⟩
    repeat (refine head_q rfl (fun K hK=>?_);have hK2:=hide hK;clear hK;go_simp;refine hK2.out _ ?_;clear hK2 K)
    have hE10:=(hU9.trans hU10).undrew
    have g4:=f4.ext hE10
    have g5:=f5.ext hE10
    have hVy10:=hVy8.ext hE10
    have hEw10:=hEw.trans hE10
    have c4:=g4.cell
    have z4:=g4.frozen
    have c5:=g5.cell
    clear k5 hU9 hU10 hV9 hE10 hVy8 hVb8 hV58 hEw f2 f3 f4 f5 f6
    refine head_nil ?_
    try simp only[List.drop_succ_cons,List.drop_zero]
    by_cases hy1:y=1
    · rw[cmpI_zero.2 hy1]
      have hz:pwN n p=0:=by
       unfold pwN
       rw[if_neg ((vpow_one hp hn).1 (by rw[←Hyv.out];exact hy1))]
      go_wp2_with fail
      have q:=(g4.set (.slice none 0 0)).cell
      exact bodyPost_ret (v:=.agg #[.slice none 0 0]) (by simp[results,Try.results102,go_sem,q]) rfl ⟨_,_,_,rfl,(NatV.nil _).of_eq hz.symm,hEw10.setCell (p:=⟨w.heap.size+1+1,0,none⟩) (.inr (by simp;omega)) _⟩
    · have hz:¬cmpI y 1=0:=fun h=>hy1 (cmpI_zero.1 h)
      generalize cmpI y 1=z at hz ⊢
      have hz2:(z == 0)=false:=beq_eq_false_iff_ne.2 hz
      have hpw:pwN n p=y:=by
       unfold pwN
       rw[if_pos (Classical.byContradiction fun h=>hy1 (by rw[Hyv.out];exact vpow_no h)),Hyv.out]
      have Hpw:=hide hpw
      clear hpw
      go_wp2_with fail
      have q:=(g4.set (.slice Y lY cY)).cell
      exact bodyPost_ret (v:=.agg #[.slice Y lY cY]) (by simp[results,Try.results102,go_sem,q]) rfl ⟨_,_,_,rfl,(hVy10.far c4).of_eq Hpw.out.symm,hEw10.setCell (p:=⟨w.heap.size+1+1,0,none⟩) (.inr (by simp;omega)) _⟩
end
/- A step of a chain: does it hold? Walked. -/
section
open Go.RowKit
open Nt Pk
attribute [local go_sem] steady steadyUpon Cls same_cell
attribute [local irreducible] wpHead wpTree
def Three (w:World) (g:Nat) (t:TypeId) (a b c:Value):Prop:=w.heap[g]? =some (.cells #[a,b,c] t (0,0))
section three
variable {w w' : World} {g : Nat} {t : TypeId} {a b c u : Value} {T : Nat → Prop}
theorem Three.lt (h:Three w g t a b c):g<w.heap.size:=(Array.getElem?_eq_some_iff.1 h).1
theorem Three.cell0 (h:Three w g t a b c):w.cell? ⟨g,0,none⟩=some a:=by unfold Three at h;simp[World.cell?,h]
theorem Three.cell1 (h:Three w g t a b c):w.cell? ⟨g,1,none⟩=some b:=by unfold Three at h;simp[World.cell?,h]
theorem Three.cell2 (h:Three w g t a b c):w.cell? ⟨g,2,none⟩=some c:=by unfold Three at h;simp[World.cell?,h]
theorem Three.upd (h:Three w g t a b c) (hu:Upd T w w') (hT:¬T g):Three w' g t a b c:=(hu.block g h.lt hT).trans h
theorem Three.ext (h:Three w g t a b c) (hu:Ext w w'):Three w' g t a b c:=h.upd hu (fun h=>h)
theorem Three.alloc (h:Three w g t a b c) (o:Obj):Three (w.alloc o) g t a b c:=h.ext ((Upd.refl _ _).alloc o)
theorem Three.new (w:World) (t:TypeId) (a b c:Value):Three (w.alloc (.cells #[a,b,c] t)) w.heap.size t a b c:=heap_alloc_new w _
theorem Three.drew (h:Three w g t a b c):Three w.drew g t a b c:=h
theorem Three.far (h:Three w g t a b c) {p:Addr} (hp:g≠p.block) (u:Value):Three (w.setCell p u) g t a b c:=(Below.heap_setCell w p u g hp).trans h
end three
def StepV (w:World) (v:Value) (N b:Nat) (ps:List Nat):Prop:=
 ∃A l c B m d C n e,v=.agg #[.slice A l c,.slice B m d,.slice C n e]∧NatV w (.agg #[.slice A l c]) N∧NatV w (.agg #[.slice B m d]) b∧NatL w C ps∧ps.length=n∧n≤e∧e≤maxLen
def okP (N b:Nat) (ps bs:List Nat) (i:Nat):Bool:=
 !hasB (ps.take i) (gat ps i) && (knownB bs (gat ps i) && (decide (2≤gat ps i) && (decide ((N - 1) % gat ps i=0) && decide (Nat.gcd (subm (b^((N - 1) / gat ps i) % N) 1 N) N=1))))
def facF (N:Nat) (ps:List Nat):Nat:=prodL (ps.map (vpow (N - 1)))
def holdsB (N b:Nat) (ps bs:List Nat):Bool:=
 decide (2≤N) && (decide (1≤ps.length∧ps.length≤32) && (decide (b^(N - 1) % N=1) && ((List.range ps.length).all (okP N b ps bs) && decide (N<facF N ps*facF N ps))))
theorem facF_take {N:Nat} {ps:List Nat} {i:Nat} (h:i<ps.length):facF N (ps.take (i+1))=facF N (ps.take i)*vpow (N - 1) (gat ps i):=by
 unfold facF
 rw[List.take_succ_eq_append_getElem h,List.map_append,List.map_singleton,prodL_snoc,gat_lt h]
theorem holds_no1 {N b:Nat} {ps bs:List Nat} (h:N<2):holdsB N b ps bs=false:=by
 unfold holdsB
 rw[decide_eq_false (by omega)];rfl
theorem holds_no2 {N b:Nat} {ps bs:List Nat} (h:¬(1≤ps.length∧ps.length≤32)):holdsB N b ps bs=false:=by
 unfold holdsB
 rw[decide_eq_false h,Bool.false_and,Bool.and_false]
theorem holds_no3 {N b:Nat} {ps bs:List Nat} (h:¬b^(N - 1) % N=1):holdsB N b ps bs=false:=by
 unfold holdsB
 rw[decide_eq_false h,Bool.false_and,Bool.and_false,Bool.and_false]
theorem holds_no4 {N b i:Nat} {ps bs:List Nat} (hi:i<ps.length) (h:okP N b ps bs i=false):holdsB N b ps bs=false:=by
 have:(List.range ps.length).all (okP N b ps bs)=false:=by
  cases e:(List.range ps.length).all (okP N b ps bs)with
  | false=>rfl
  | true=>rw[List.all_eq_true]at e;rw[e i (List.mem_range.2 hi)]at h;cases h
 unfold holdsB
 rw[this,Bool.false_and,Bool.and_false,Bool.and_false,Bool.and_false]
theorem holds_yes {N b:Nat} {ps bs:List Nat} (h1:2≤N) (h2:1≤ps.length∧ps.length≤32) (h3:b^(N - 1) % N=1) (h4:∀i,i<ps.length→okP N b ps bs i=true):holdsB N b ps bs=decide (N<facF N ps*facF N ps):=by
 have:(List.range ps.length).all (okP N b ps bs)=true:=by rw[List.all_eq_true];exact fun i hi=>h4 i (List.mem_range.1 hi)
 unfold holdsB
 rw[this,decide_eq_true h1,decide_eq_true h2,decide_eq_true h3]
 simp
theorem fit_fac {N K:Nat} (hN:Fit K (N - 1)) (h0:0<N - 1):∀(ps:List Nat),(∀p,p∈ps→2≤p)→facF N ps<W32^(K*ps.length+1)
 | [],_=>by show 1<W32^1;decide
 | p :: ps,h=>by
   have h1:=fit_fac hN h0 ps (fun q hq=>h q (by simp[hq]))
   have h2:vpow (N - 1) p<W32^K:=Nat.lt_of_le_of_lt (vpow_le (h p (by simp)) h0) hN
   show vpow (N - 1) p*facF N ps<_
   rw[List.length_cons,show K*(ps.length+1)+1=K+(K*ps.length+1) by rw[Nat.mul_succ];omega,Nat.pow_add]
   exact Nat.mul_lt_mul_of_lt_of_le h2 (Nat.le_of_lt h1) (Nat.pow_pos (by decide))
def RetH (w:World) (b:Bool) (e:Ending) (w':World):Prop:=e=.returned (.bool b)∧Ext w w'
set_option maxRecDepth 100000 in
set_option maxHeartbeats 8000000 in
theorem choldsB_any (A B C D:Option Addr) (lA cA lB cB n cC m cD N b K:Nat) (ps bs:List Nat) (w:World) (hVN:NatV w (.agg #[.slice A lA cA]) N) (hVb:NatV w (.agg #[.slice B lB cB]) b) (hLp:NatL w C ps) (hn:ps.length=n) (hne:n≤cC) (hce:cC≤maxLen)
 (hLb:NatL w D bs) (hm:bs.length=m) (hm2:m≤1000000) (hFN:Fit K N) (hFb:Fit K b) (hFp:FitL K ps) (hFbs:FitL K bs) (hK1:1≤K) (hK:K≤1000):
 Calls Try.prog 88 #[.agg #[.slice A lA cA,.slice B lB cB,.slice C n cC],.slice D m cD] w (RetH w (holdsB N b ps bs)):=by
 obtain⟨t,ht⟩:∃t,t=holdsB N b ps bs:=⟨_,rfl⟩
 rw[←ht]
 have Ht:=hide ht
 have Hn:=hide hn
 have Hm:=hide hm
 have HLp:=hide hLp
 have HLb:=hide hLb
 have HVN:=hide hVN
 have HVb:=hide hVb
 have hF1:Fit K 1:=Nat.lt_of_lt_of_le (show 1<W32^1 by decide) (Nat.pow_le_pow_right (by decide) hK1)
 have hF2:Fit K 2:=Nat.lt_of_lt_of_le (show 2<W32^1 by decide) (Nat.pow_le_pow_right (by decide) hK1)
 unfold maxLen at hce
 clear ht hn hm hLp hLb hVN hVb
 go_enter Try.func88,Try.ntmps88
 go_wp2_with fail
 refine name_c (fun W hW=>?_)
 have s2:Three W w.heap.size 37 (.slice A lA cA) (.slice B lB cB) (.slice C n cC):=by rw[hW];exact Three.new _ _ _ _ _
 have hE:Ext w W:=by rw[hW];exact(Upd.refl _ w).alloc _
 clear hW
 refine(new_any 1 _ (by omega)).mono ?_
 rintro e w1 ⟨A1,l1,c1,rfl,hV1,hU⟩
 replace s2:=s2.ext hU
 replace hE:=hE.trans hU
 clear hU
 go_wp2_with fail
 refine name_w (fun Z hZ=>?_)
 have hEZ:Ext w1 Z:=by rw[hZ];exact(Upd.refl _ _).alloc _
 have b5:Box Z w1.heap.size 33 (.slice A1 l1 c1):=by rw[hZ];exact Box.new _ _ _
 obtain⟨G5,hG5⟩:∃G,G=w1.heap.size:=⟨_,rfl⟩
 have hlt5:w.heap.size<G5:=by rw[hG5];exact s2.lt
 rw[←hG5]at b5 ⊢
 clear hG5 hZ
 replace s2:=s2.ext hEZ
 replace hV1:=hV1.ext hEZ
 replace hE:=hE.trans hEZ
 clear hEZ
 have k0:=fun z:Wd (Ext Z.drew)=>(z.ok.cell (p:=⟨w.heap.size,0,none⟩) s2.drew.lt (fun h=>h)).trans s2.drew.cell0
 have k2:=fun z:Wd (Ext Z.drew)=>(z.ok.cell (p:=⟨w.heap.size,2,none⟩) s2.drew.lt (fun h=>h)).trans s2.drew.cell2
 refine wp_region_plan (Ext _) 16 [(false,0),(false,1),(true,2),(true,3),(false,4),(false,5),(false,6),(false,7),(false,8),(false,9),(false,10),(false,11),(false,12),(false,13),(false,14),(false,15)] (by kernel_rfl) (by kernel_rfl) (Upd.refl _ _) (fun hne=>?_)
 repeat (refine head_q rfl (fun K hK=>?_);have hK2:=hide hK;clear hK;go_simp;refine hK2.out _ ?_;clear hK2 K)
 refine head_l rfl ?_
 go_wp2_with (refine(new_any 2 _ (by omega)).mono ?_;rintro e w3 ⟨A3,l3,c3,rfl,hV3,hU3⟩)
 refine⟨Cls (Ext _),fun _ h=>h,⟨⟨_,hU3⟩,rfl⟩,?_⟩
 repeat (refine head_q rfl (fun K hK=>?_);have hK2:=hide hK;clear hK;go_simp;refine hK2.out _ ?_;clear hK2 K)
 refine head_l rfl ?_
 go_wp2_with (refine(cmp_any _ _ N 2 K _ (((HVN.out.ext hE).ext (Upd.refl _ _).drew).ext hU3) hV3 hFN hF2 (by omega)).mono ?_;rintro e w4 ⟨rfl,hU4⟩)
 refine⟨Cls (Ext _),fun _ h=>h,⟨⟨_,(hU3.trans hU4)⟩,rfl⟩,?_⟩
 repeat (refine head_q rfl (fun K hK=>?_);have hK2:=hide hK;clear hK;go_simp;refine hK2.out _ ?_;clear hK2 K)
 have hE4:Ext Z w4:=(hU3.trans hU4).undrew
 have hEw:=hE.trans hE4
 replace s2:=s2.ext hE4
 replace b5:=b5.ext hE4
 replace hV1:=hV1.ext hE4
 clear hU3 hU4 hV3 hE
 by_cases h2:N<2
 · obtain rfl:t=false:=Ht.out.trans (holds_no1 h2)
   have hz:cmpI N 2<0:=by rw[cmpI_neg];exact h2
   generalize cmpI N 2=z at hz ⊢
   have hzd:decide (z<0)=true:=decide_eq_true hz
   repeat (refine head_q rfl (fun K hK=>?_);have hK2:=hide hK;clear hK;go_simp;refine hK2.out _ ?_;clear hK2 K)
   clear k0 k2
   refine head_nil ?_
   try simp only[List.drop_succ_cons,List.drop_zero]
   go_wp2_with fail
   go_ret
   exact⟨rfl,hEw⟩
 have hz:¬cmpI N 2<0:=by rw[cmpI_neg];exact h2
 generalize cmpI N 2=z at hz ⊢
 have hzd:decide (z<0)=false:=decide_eq_false hz
 by_cases hn1:n<1
 · obtain rfl:t=false:=Ht.out.trans (holds_no2 (by rw[Hn.out];omega))
   have hn1d:decide ((n:Int)<1)=true:=decide_eq_true (by omega)
   repeat (refine head_q rfl (fun K hK=>?_);have hK2:=hide hK;clear hK;go_simp;refine hK2.out _ ?_;clear hK2 K)
   clear k0 k2
   refine head_nil ?_
   try simp only[List.drop_succ_cons,List.drop_zero]
   go_wp2_with fail
   go_ret
   exact⟨rfl,hEw⟩
 have hn1d:decide ((n:Int)<1)=false:=decide_eq_false (by omega)
 by_cases hn32:32<n
 · obtain rfl:t=false:=Ht.out.trans (holds_no2 (by rw[Hn.out];omega))
   have hn32d:decide ((32:Int)<(n:Int))=true:=decide_eq_true (by omega)
   repeat (refine head_q rfl (fun K hK=>?_);have hK2:=hide hK;clear hK;go_simp;refine hK2.out _ ?_;clear hK2 K)
   clear k0 k2
   refine head_nil ?_
   try simp only[List.drop_succ_cons,List.drop_zero]
   go_wp2_with fail
   go_ret
   exact⟨rfl,hEw⟩
 have hn32d:decide ((32:Int)<(n:Int))=false:=decide_eq_false (by omega)
 repeat (refine head_q rfl (fun K hK=>?_);have hK2:=hide hK;clear hK;go_simp;refine hK2.out _ ?_;clear hK2 K)
 have k0':=s2.cell0
 have k5:=b5.cell
 clear k0 k2 hz hzd hn1d hE4
 refine head_nil ?_
 try simp only[List.drop_succ_cons,List.drop_zero]
 go_wp2_with fail
 refine(sub_any _ _ N 1 K _ (HVN.out.ext hEw) hV1 hFN hF1 (by omega)).mono ?_
 rw[if_neg (by omega)]
 rintro e w5 ⟨A6,l6,c6,rfl,hV6,hU5⟩
 have hFL1:Fit K (N - 1):=hFN.le (Nat.sub_le _ _)
 replace hEw:=hEw.trans hU5
 replace s2:=s2.ext hU5
 replace b5:=b5.ext hU5
 replace hV1:=hV1.ext hU5
 have k0:=(s2.alloc (.cells #[.slice A6 l6 c6] 33)).cell0
 clear hU5 k0' k5
 go_wp2_with fail
 refine name_c (fun W hW=>?_)
 have hEW:Ext w5 W:=by rw[hW];exact(Upd.refl _ _).alloc _
 have b6:Box W w5.heap.size 33 (.slice A6 l6 c6):=by rw[hW];exact Box.new _ _ _
 obtain⟨G6,hG6⟩:∃G,G=w5.heap.size:=⟨_,rfl⟩
 have hlt6:G5<G6:=by rw[hG6];exact b5.lt
 rw[←hG6]at b6 ⊢
 clear hG6 hW k0
 replace hEw:=hEw.trans hEW
 replace s2:=s2.ext hEW
 replace b5:=b5.ext hEW
 replace hV1:=hV1.ext hEW
 replace hV6:=hV6.ext hEW
 clear hEW
 refine(mnew_yes _ N K _ (HVN.out.ext hEw) hFN (by omega) (by omega)).mono ?_
 rintro e w6 ⟨g8,rfl,hR8,hg8,hU6⟩
 replace hEw:=hEw.trans hU6
 replace s2:=s2.ext hU6
 replace b5:=b5.ext hU6
 replace b6:=b6.ext hU6
 replace hV1:=hV1.ext hU6
 replace hV6:=hV6.ext hU6
 have hg8lt:g8<w6.heap.size:=by
  obtain⟨D',ld',cd',g2, -⟩:=hR8
  exact g2.lt
 clear hU6
 have k1:=fun z:Wd (Ext w6.drew)=>(z.ok.cell (p:=⟨w.heap.size,1,none⟩) s2.drew.lt (fun h=>h)).trans s2.drew.cell1
 have k5:=fun z:Wd (Ext w6.drew)=>(z.ok.cell (p:=⟨G5,0,none⟩) b5.drew.lt (fun h=>h)).trans b5.drew.cell
 have k6:=fun z:Wd (Ext w6.drew)=>(z.ok.cell (p:=⟨G6,0,none⟩) b6.drew.lt (fun h=>h)).trans b6.drew.cell
 go_wp2_with fail
 refine wp_region_plan (Ext _) 11 [(false,0),(false,1),(false,2),(false,3),(false,4),(false,5),(false,6),(false,8),(true,7),(true,9),(false,10)] (by kernel_rfl) (by kernel_rfl) (Upd.refl _ _) (fun hne=>?_)
 repeat (refine head_q rfl (fun K hK=>?_);have hK2:=hide hK;clear hK;go_simp;refine hK2.out _ ?_;clear hK2 K)
 refine head_l rfl ?_
 go_wp2_with (refine(mexp_any _ _ g8 b (N - 1) N K K _ (hR8.ext (Upd.refl _ _).drew) (HVb.out.ext hEw.drew) (hV6.ext (Upd.refl _ _).drew) hFb hFN hFL1 (by omega) (by omega)).mono ?_;rintro e w7 ⟨A7,l7,c7,rfl,hV7,hU7⟩)
 refine⟨Cls (Ext _),fun _ h=>h,⟨⟨_,hU7⟩,rfl⟩,?_⟩
 repeat (refine head_q rfl (fun K hK=>?_);have hK2:=hide hK;clear hK;go_simp;refine hK2.out _ ?_;clear hK2 K)
 refine head_l rfl ?_
 go_wp2_with (refine(cmp_any _ _ _ 1 K _ hV7 (hV1.ext ((Upd.refl _ _).drew.trans hU7)) (hFN.le (Nat.le_of_lt (Nat.mod_lt _ (by omega)))) hF1 (by omega)).mono ?_;rintro e w8 ⟨rfl,hU8⟩)
 refine⟨Cls (Ext _),fun _ h=>h,⟨⟨_,(hU7.trans hU8)⟩,rfl⟩,?_⟩
 repeat (refine head_q rfl (fun K hK=>?_);have hK2:=hide hK;clear hK;go_simp;refine hK2.out _ ?_;clear hK2 K)
 have hE8:Ext w6 w8:=(hU7.trans hU8).undrew
 replace hEw:=hEw.trans hE8
 replace s2:=s2.ext hE8
 replace b5:=b5.ext hE8
 replace b6:=b6.ext hE8
 replace hV1:=hV1.ext hE8
 replace hV6:=hV6.ext hE8
 replace hR8:=hR8.ext hE8
 replace hg8lt:g8<w8.heap.size:=Nat.lt_of_lt_of_le hg8lt hE8.size
 clear hU7 hU8 hE8 k1 k5 k6 hV7
 refine head_nil ?_
 try simp only[List.drop_succ_cons,List.drop_zero]
 by_cases h3:b^(N - 1) % N=1
 case neg=>
  obtain rfl:t=false:=Ht.out.trans (holds_no3 h3)
  have hz:¬cmpI (b^(N - 1) % N) 1=0:=fun h=>h3 (cmpI_zero.1 h)
  generalize cmpI (b^(N - 1) % N) 1=z at hz ⊢
  have hz2:(z != 0)=true:=by simp[hz]
  go_wp2_with fail
  go_ret
  exact⟨rfl,hEw⟩
 rw[cmpI_zero.2 h3]
 rw[show((0:Int) != 0)=false from rfl]
 have H3:=hide h3
 clear h3
 have k5:=b5.cell
 have k2:=(s2.alloc (.cells #[.slice A1 l1 c1] 33)).cell2
 go_wp2_with fail
 refine name_w (fun Z2 hZ2=>?_)
 have hE2:Ext w8 Z2:=by rw[hZ2];exact(Upd.refl _ _).alloc _
 have b10:Box Z2 w8.heap.size 33 (.slice A1 l1 c1):=by rw[hZ2];exact Box.new _ _ _
 obtain⟨G10,hG10⟩:∃G,G=w8.heap.size:=⟨_,rfl⟩
 have hlt10:G6<G10:=by rw[hG10];exact b6.lt
 rw[←hG10]at b10 hg8lt ⊢
 clear hG10 hZ2 k5 k2
 replace hEw:=hEw.trans hE2
 replace s2:=s2.ext hE2
 replace b5:=b5.ext hE2
 replace b6:=b6.ext hE2
 replace hV1:=hV1.ext hE2
 replace hV6:=hV6.ext hE2
 replace hR8:=hR8.ext hE2
 clear hE2
 have hw10:w.heap.size<G10:=by omega
 have h0N:0<N - 1:=by omega
 go_loopw [66] (fun i wr=>∃(j:Nat) (X:Option Addr) (lX cX:Nat),j≤n∧i=.int .i64 (j:Int)∧(∀q,q<j→okP N b ps bs q=true)∧Box wr G10 33 (.slice X lX cX)∧NatV wr (.agg #[.slice X lX cX]) (facF N (ps.take j))∧Upd (only G10) Z2 wr) (fun i _=>n - (intOf i).toNat)
 case atStart=>exact⟨0,_,_,_,Nat.zero_le _,rfl,fun q hq=>by omega,b10,hV1,Upd.refl _ _⟩
 case round=>
  obtain⟨j,X,lX,cX,hj,rfl,hok,x10,hVX,hUV⟩:=hrel
  have Hok:=hide hok
  clear hok
  have s2r:=s2.upd hUV (fun h=>by unfold only at h;omega)
  have b5r:=b5.upd hUV (fun h=>by unfold only at h;omega)
  have b6r:=b6.upd hUV (fun h=>by unfold only at h;omega)
  have hV1r:=hV1.only b10 hUV
  have hV6r:=hV6.only b10 hUV
  have hRr:RingV wr g8 N:=by
   obtain⟨D',ld',cd',g2,hVn,hn2⟩:=hR8
   exact⟨D',ld',cd',g2.upd hUV (fun h=>by unfold only at h;omega),hVn.only b10 hUV,hn2⟩
  have hEr:Ext w wr:=Upd.fresh hUV hEw (fun i hi=>by unfold only at hi;omega)
  have hge:∀q,q<j→2≤gat ps q:=fun q hq=>by
    have h:=Hok.out q hq
    unfold okP at h
    simp only[Bool.and_eq_true,decide_eq_true_iff]at h
    exact h.2.2.1
  have hFf:Fit (K*32+1) (facF N (ps.take j)):=by
   refine Nat.lt_of_lt_of_le (fit_fac hFL1 h0N (ps.take j) (fun p hp=>?_)) (Nat.pow_le_pow_right (by decide) ?_)
   · obtain⟨q,hq,rfl⟩:=List.getElem_of_mem hp
     have hq2:q<j∧q<ps.length:=by rw[List.length_take]at hq;omega
     rw[List.getElem_take,←gat_lt hq2.2]
     exact hge q hq2.1
   · have h1:(ps.take j).length≤32:=by rw[List.length_take];omega
     have:=Nat.mul_le_mul_left K h1
     omega
  have HFf:=hide hFf
  clear hFf hge
  by_cases hlt:j<n
  · have hltI:(j:Int)<(n:Int):=by omega
    obtain⟨b1,o1,P,lP,cP,rfl,hcj,hVp⟩:=(HLp.out.ext hEr).at (i:=j) (by rw[Hn.out];exact hlt)
    obtain⟨p,hp⟩:∃p,p=gat ps j:=⟨_,rfl⟩
    have hFp':Fit K p:=by rw[hp];exact hFp j (by rw[Hn.out];exact hlt)
    rw[←hp]at hVp
    have Hp:=hide hp
    have k2:=(s2r.alloc (.cells #[.slice P lP cP] 33)).cell2
    have hs1:∀w,(Instr.sliceAt 35 (.slice (some ⟨b1,o1,none⟩) n cC) none (some (.int .i64 (j:Int))) none).run Try.prog w=.ok (.slice (some ⟨b1,o1,none⟩) j cC) w:=fun w=>run_cut_h (e:=33) (by kernel_rfl) (by kernel_rfl) (some ⟨b1,o1,none⟩) n cC j .i64 (by omega) w
    have hjc:(j:Int)≤(cC:Int):=by omega
    clear hp
    go_wp2_with fail
    refine name_w (fun Y hY=>?_)
    have hEY:Ext wr Y:=by rw[hY];exact(Upd.refl _ _).alloc _
    have b12:Box Y wr.heap.size 33 (.slice P lP cP):=by rw[hY];exact Box.new _ _ _
    obtain⟨G12,hG12⟩:∃G,G=wr.heap.size:=⟨_,rfl⟩
    have hlt12:G10<G12:=by rw[hG12];exact x10.lt
    rw[←hG12]at b12 ⊢
    clear hG12 hY k2 hcj hs1
    replace hEr:=hEr.trans hEY
    replace hUV:=hUV.ext hEY
    replace s2r:=s2r.ext hEY
    replace b5r:=b5r.ext hEY
    replace b6r:=b6r.ext hEY
    replace hV1r:=hV1r.ext hEY
    replace hV6r:=hV6r.ext hEY
    replace hRr:=hRr.ext hEY
    replace x10:=x10.ext hEY
    replace hVX:=hVX.ext hEY
    replace hVp:=hVp.ext hEY
    clear hEY
    go_loopw [76] (fun i wr=>∃q:Nat,q≤j∧i=.int .i64 (q:Int)∧hasB (ps.take q) p=false∧Ext Y wr) (fun i _=>j - (intOf i).toNat)
    case atStart=>exact⟨0,Nat.zero_le _,rfl,rfl,Upd.refl _ _⟩
    case round=>
     obtain⟨q,hq,rfl,hno,hEq⟩:=hrel
     have Hno:=hide hno
     clear hno
     by_cases hqj:q<j
     · have hqI:(q:Int)<(j:Int):=by omega
       obtain⟨b2,o2,Q,lQ,cQ,e2,hcq,hVq⟩:=(HLp.out.ext (hEr.trans hEq)).at (i:=q) (by rw[Hn.out];omega)
       obtain⟨rfl,rfl⟩:b1=b2∧o1=o2:=by injection e2 with e2;injection e2 with e3 e4;exact⟨e3,e4⟩
       obtain⟨x,hx⟩:∃x,x=gat ps q:=⟨_,rfl⟩
       have hFx:Fit K x:=by rw[hx];exact hFp q (by rw[Hn.out];omega)
       rw[←hx]at hVq
       have Hx:=hide hx
       have k12:=((b12.ext hEq).alloc (.cells #[.slice Q lQ cQ] 33)).cell
       clear hx e2
       go_wp2_with fail
       refine name_c (fun W hW=>?_)
       have hEW:Ext wr W:=by rw[hW];exact(Upd.refl _ _).alloc _
       clear hW k12 hcq
       refine(cmp_any _ _ x p K _ (hVq.ext hEW) (hVp.ext (hEq.trans hEW)) hFx hFp' (by omega)).mono ?_
       rintro e w9 ⟨rfl,hU9⟩
       have hE9:=(hEq.trans hEW).trans hU9
       clear hEW hU9 hEq hVq
       by_cases hxp:x=p
       · rw[cmpI_zero.2 hxp]
         obtain rfl:t=false:=Ht.out.trans (holds_no4 (i:=j) (by rw[Hn.out];exact hlt) (by
           unfold okP
           rw[←Hp.out,hasB_yes (k:=q) (by rw[List.length_take,Hn.out];omega) (by rw[gat_take hqj,←Hx.out];exact hxp)]
           rfl))
         clear hxp
         go_wp2_with fail
         go_ret
         exact⟨rfl,hEr.trans hE9⟩
       · have hz:¬cmpI x p=0:=fun h=>hxp (cmpI_zero.1 h)
         generalize cmpI x p=z at hz ⊢
         have hz2:(z == 0)=false:=beq_eq_false_iff_ne.2 hz
         go_wp2_with fail
         go_roundw
         case rel=>exact⟨q+1,by omega,by go_num,by rw[hasB_take (by rw[Hn.out];omega),Hno.out,←Hx.out];simpa using hxp,hE9⟩
         case measure=>simp[intOf];omega
     · obtain rfl:q=j:=by omega
       have hqI:¬(q:Int)<(q:Int):=by omega
       replace hEr:=hEr.trans hEq
       replace hUV:=hUV.ext hEq
       replace s2r:=s2r.ext hEq
       replace b5r:=b5r.ext hEq
       replace b6r:=b6r.ext hEq
       replace hV1r:=hV1r.ext hEq
       replace hV6r:=hV6r.ext hEq
       replace hRr:=hRr.ext hEq
       replace x10:=x10.ext hEq
       replace hVX:=hVX.ext hEq
       replace hVp:=hVp.ext hEq
       replace b12:=b12.ext hEq
       clear hEq
       have k12:=fun z:Wd (Ext wr.drew)=>(z.ok.cell (p:=⟨G12,0,none⟩) b12.drew.lt (fun h=>h)).trans b12.drew.cell
       obtain⟨kb,hkb⟩:∃kb,kb=knownB bs p:=⟨_,rfl⟩
       have Hkb:=hide hkb
       clear hkb
       go_wp2_with fail
       refine wp_region_plan (Ext _) 9 [(false,0),(false,1),(true,2),(false,3),(false,4),(false,5),(true,6),(true,7),(false,8)] (by kernel_rfl) (by kernel_rfl) (Upd.refl _ _) (fun hne=>?_)
       repeat (refine head_q rfl (fun K hK=>?_);have hK2:=hide hK;clear hK;go_simp;refine hK2.out _ ?_;clear hK2 K)
       refine head_l rfl ?_
       go_wp2_with (refine(cknown_any _ p K D m cD bs _ (hVp.ext (Upd.refl _ _).drew) hFp' (by omega) (HLb.out.ext hEr.drew) hFbs Hm.out hm2).mono ?_;rw[←Hkb.out];rintro e w9 ⟨rfl,hU9⟩)
       refine⟨Cls (Ext _),fun _ h=>h,⟨⟨_,hU9⟩,rfl⟩,?_⟩
       repeat (refine head_q rfl (fun K hK=>?_);have hK2:=hide hK;clear hK;go_simp;refine hK2.out _ ?_;clear hK2 K)
       have hEk:Ext wr w9:=hU9.undrew
       cases kb with
       | false=>
         obtain rfl:t=false:=Ht.out.trans (holds_no4 (i:=q) (by rw[Hn.out];exact hlt) (by
           unfold okP
           rw[←Hp.out,←Hkb.out,Bool.false_and,Bool.and_false]))
         repeat (refine head_q rfl (fun K hK=>?_);have hK2:=hide hK;clear hK;go_simp;refine hK2.out _ ?_;clear hK2 K)
         refine head_l rfl ?_
         go_wp2_with fail
         refine⟨Cls (Ext _),fun _ h=>h,⟨⟨_,hU9⟩,rfl⟩,?_⟩
         repeat (refine head_q rfl (fun K hK=>?_);have hK2:=hide hK;clear hK;go_simp;refine hK2.out _ ?_;clear hK2 K)
         refine head_l rfl ?_
         go_wp2_with fail
         refine⟨Cls (Ext _),fun _ h=>h,⟨⟨_,hU9⟩,rfl⟩,?_⟩
         repeat (refine head_q rfl (fun K hK=>?_);have hK2:=hide hK;clear hK;go_simp;refine hK2.out _ ?_;clear hK2 K)
         clear k12
         refine head_nil ?_
         try simp only[List.drop_succ_cons,List.drop_zero]
         go_wp2_with fail
         go_ret
         exact⟨rfl,hEr.trans hEk⟩
       | true=>
         repeat (refine head_q rfl (fun K hK=>?_);have hK2:=hide hK;clear hK;go_simp;refine hK2.out _ ?_;clear hK2 K)
         refine head_l rfl ?_
         go_wp2_with (refine(new_any 2 _ (by omega)).mono ?_;rintro e w10 ⟨A10,l10,c10,rfl,hV10,hU10⟩)
         refine⟨Cls (Ext _),fun _ h=>h,⟨⟨_,(hU9.trans hU10)⟩,rfl⟩,?_⟩
         repeat (refine head_q rfl (fun K hK=>?_);have hK2:=hide hK;clear hK;go_simp;refine hK2.out _ ?_;clear hK2 K)
         refine head_l rfl ?_
         go_wp2_with (refine(cmp_any _ _ p 2 K _ ((hVp.ext hEk).ext hU10) hV10 hFp' hF2 (by omega)).mono ?_;rintro e w11 ⟨rfl,hU11⟩)
         refine⟨Cls (Ext _),fun _ h=>h,⟨⟨_,((hU9.trans hU10).trans hU11)⟩,rfl⟩,?_⟩
         repeat (refine head_q rfl (fun K hK=>?_);have hK2:=hide hK;clear hK;go_simp;refine hK2.out _ ?_;clear hK2 K)
         have hE11:Ext wr w11:=((hU9.trans hU10).trans hU11).undrew
         clear k12 hU9 hU10 hU11 hV10 hEk
         refine head_nil ?_
         try simp only[List.drop_succ_cons,List.drop_zero]
         replace hEr:=hEr.trans hE11
         by_cases hp2:p<2
         · obtain rfl:t=false:=Ht.out.trans (holds_no4 (i:=q) (by rw[Hn.out];exact hlt) (by
             unfold okP
             rw[←Hp.out,decide_eq_false (show ¬2≤p by omega),Bool.false_and,Bool.and_false,Bool.and_false]))
           have hz:cmpI p 2<0:=by rw[cmpI_neg];exact hp2
           generalize cmpI p 2=z at hz ⊢
           have hzd:decide (z<0)=true:=decide_eq_true hz
           go_wp2_with fail
           go_ret
           exact⟨rfl,hEr⟩
         · have hz:¬cmpI p 2<0:=by rw[cmpI_neg];exact hp2
           generalize cmpI p 2=z at hz ⊢
           have hzd:decide (z<0)=false:=decide_eq_false hz
           replace hUV:=hUV.ext hE11
           replace s2r:=s2r.ext hE11
           replace b5r:=b5r.ext hE11
           replace b6r:=b6r.ext hE11
           replace hV1r:=hV1r.ext hE11
           replace hV6r:=hV6r.ext hE11
           replace hRr:=hRr.ext hE11
           replace x10:=x10.ext hE11
           replace hVX:=hVX.ext hE11
           replace hVp:=hVp.ext hE11
           replace b12:=b12.ext hE11
           clear hE11
           have k6:=b6r.cell
           have k12:=b12.cell
           go_wp2_with fail
           clear k6 k12 hz hzd
           refine(cpower_any _ _ (N - 1) p K _ hV6r hVp hFL1 hFp' (by omega) (by omega) h0N).mono ?_
           rintro e w12 ⟨A12,l12,c12,rfl,hV12,hU12⟩
           have hE12:=hU12
           replace hEr:=hEr.trans hE12
           replace hUV:=hUV.ext hE12
           replace s2r:=s2r.ext hE12
           replace b5r:=b5r.ext hE12
           replace b6r:=b6r.ext hE12
           replace hV1r:=hV1r.ext hE12
           replace hV6r:=hV6r.ext hE12
           replace hRr:=hRr.ext hE12
           replace x10:=x10.ext hE12
           replace hVX:=hVX.ext hE12
           replace hVp:=hVp.ext hE12
           replace b12:=b12.ext hE12
           clear hE12 hU12
           go_wp2_with fail
           refine name_c (fun W hW=>?_)
           have hEW:Ext w12 W:=by rw[hW];exact(Upd.refl _ _).alloc _
           have b15:Box W w12.heap.size 33 (.slice A12 l12 c12):=by rw[hW];exact Box.new _ _ _
           obtain⟨G15,hG15⟩:∃G,G=w12.heap.size:=⟨_,rfl⟩
           have hlt15:G12<G15:=by rw[hG15];exact b12.lt
           rw[←hG15]at b15 ⊢
           clear hG15 hW
           refine(zero_any _ (pwN (N - 1) p) _ (hV12.ext hEW)).mono ?_
           rintro e w13 ⟨rfl,hU13⟩
           have hE13:=hEW.trans hU13
           replace b15:=b15.ext hU13
           replace hV12:=hV12.ext hE13
           replace hEr:=hEr.trans hE13
           replace hUV:=hUV.ext hE13
           replace s2r:=s2r.ext hE13
           replace b5r:=b5r.ext hE13
           replace b6r:=b6r.ext hE13
           replace hV1r:=hV1r.ext hE13
           replace hV6r:=hV6r.ext hE13
           replace hRr:=hRr.ext hE13
           replace x10:=x10.ext hE13
           replace hVX:=hVX.ext hE13
           replace hVp:=hVp.ext hE13
           replace b12:=b12.ext hE13
           clear hE13 hU13 hEW
           by_cases hdv:(N - 1) % p=0
           · have hpw:pwN (N - 1) p=vpow (N - 1) p:=by unfold pwN;rw[if_pos hdv]
             have hv0:0<vpow (N - 1) p:=vpow_pos _ _ (by omega) h0N
             rw[hpw]at hV12 ⊢
             rw[decide_eq_false (show ¬vpow (N - 1) p=0 by omega)]
             have Hdv:=hide hdv
             have hFv:Fit (K*32+1) (vpow (N - 1) p):=Nat.lt_of_le_of_lt (vpow_le (by omega) h0N) (hFL1.mono (by omega))
             have k10:=x10.cell
             have k15:=b15.cell
             clear hdv hpw hv0
             go_wp2_with fail
             clear k10 k15
             refine(mul_any _ _ (facF N (ps.take q)) (vpow (N - 1) p) (K*32+1) _ hVX hV12 HFf.out hFv (by omega)).mono ?_
             rintro e w14 ⟨A14,l14,c14,rfl,hV14,hU14⟩
             have c10:=(x10.ext hU14).cell
             have f10:=(x10.ext hU14).frozen
             have k6:=((b6r.ext hU14).far (p:=⟨G10,0,none⟩) (by simp;omega) (.slice A14 l14 c14)).cell
             have k12:=((b12.ext hU14).far (p:=⟨G10,0,none⟩) (by simp;omega) (.slice A14 l14 c14)).cell
             go_wp2_with fail
             clear k6 k12
             refine name_c (fun S hS=>?_)
             have y2:Three S w.heap.size 37 (.slice A lA cA) (.slice B lB cB) (.slice (some ⟨b1,o1,none⟩) n cC):=by rw[hS];exact(s2r.ext hU14).far (p:=⟨G10,0,none⟩) (by simp;omega) _
             have y5:Box S G5 33 (.slice A1 l1 c1):=by rw[hS];exact(b5r.ext hU14).far (p:=⟨G10,0,none⟩) (by simp;omega) _
             have y6:Box S G6 33 (.slice A6 l6 c6):=by rw[hS];exact(b6r.ext hU14).far (p:=⟨G10,0,none⟩) (by simp;omega) _
             have y10:Box S G10 33 (.slice A14 l14 c14):=by rw[hS];exact(x10.ext hU14).set _
             have y12:Box S G12 33 (.slice P lP cP):=by rw[hS];exact(b12.ext hU14).far (p:=⟨G10,0,none⟩) (by simp;omega) _
             have hV1s:NatV S (.agg #[.slice A1 l1 c1]) 1:=by rw[hS];exact(hV1r.ext hU14).far c10
             have hV6s:NatV S (.agg #[.slice A6 l6 c6]) (N - 1):=by rw[hS];exact(hV6r.ext hU14).far c10
             have hVps:NatV S (.agg #[.slice P lP cP]) p:=by rw[hS];exact(hVp.ext hU14).far c10
             have hV14s:NatV S (.agg #[.slice A14 l14 c14]) (facF N (ps.take q)*vpow (N - 1) p):=by rw[hS];exact hV14.far c10
             have hRs:RingV S g8 N:=by
              obtain⟨D',ld',cd',g2,hVn,hn2⟩:=hRr.ext hU14
              exact⟨D',ld',cd',by rw[hS];exact g2.far (p:=⟨G10,0,none⟩) (by simp;omega) _,by rw[hS];exact hVn.far c10,hn2⟩
             have hUs:Upd (only G10) Z2 S:=by rw[hS];exact(hUV.ext hU14).setCell (p:=⟨G10,0,none⟩) (.inl rfl) _
             have hEs:Ext w S:=by rw[hS];exact(hEr.trans hU14).setCell (p:=⟨G10,0,none⟩) (.inr (by simp;omega)) _
             clear hS c10 f10 s2r b5r b6r x10 b12 b15 hV1r hV6r hVp hV14 hRr hUV hEr hVX hV12 hU14
             refine(div_any _ _ (N - 1) p K _ hV6s hVps hFL1 hFp' (by omega) (by omega)).mono ?_
             rintro e w15 ⟨A16,l16,c16,A17,l17,c17,rfl,hV16, -,hU15⟩
             go_wp2_with fail
             refine name_w (fun V hV=>?_)
             have hEV:Ext S V:=by rw[hV];exact(hU15.alloc _).alloc _
             have v16:Box V w15.heap.size 33 (.slice A16 l16 c16):=by rw[hV];exact(Box.new _ _ _).alloc _
             have hV16':NatV V (.agg #[.slice A16 l16 c16]) ((N - 1) / p):=by rw[hV];exact hV16.ext (((Upd.refl _ _).alloc _).alloc _)
             have z2:=y2.ext hEV
             have z5:=y5.ext hEV
             have k1:=fun z:Wd (Ext V.drew)=>(z.ok.cell (p:=⟨w.heap.size,1,none⟩) z2.drew.lt (fun h=>h)).trans z2.drew.cell1
             have k0:=fun z:Wd (Ext V.drew)=>(z.ok.cell (p:=⟨w.heap.size,0,none⟩) z2.drew.lt (fun h=>h)).trans z2.drew.cell0
             have k5:=fun z:Wd (Ext V.drew)=>(z.ok.cell (p:=⟨G5,0,none⟩) z5.drew.lt (fun h=>h)).trans z5.drew.cell
             have k16:=fun z:Wd (Ext V.drew)=>(z.ok.cell (p:=⟨w15.heap.size,0,none⟩) v16.drew.lt (fun h=>h)).trans v16.drew.cell
             have hEs2:Ext w V:=hEs.trans hEV
             have hFm:∀x,Fit K (x % N):=fun x=>hFN.le (Nat.le_of_lt (Nat.mod_lt _ (by omega)))
             have hFt:Fit K ((N - 1) / p):=hFL1.le (Nat.div_le_self _ _)
             clear hV hV16
             go_wp2_with fail
             refine wp_region_plan (Ext _) 13 [(false,0),(false,1),(false,2),(false,3),(false,4),(false,6),(false,8),(false,9),(false,11),(true,5),(true,7),(true,10),(true,12)] (by kernel_rfl) (by kernel_rfl) (Upd.refl _ _) (fun hne=>?_)
             repeat (refine head_q rfl (fun K hK=>?_);have hK2:=hide hK;clear hK;go_simp;refine hK2.out _ ?_;clear hK2 K)
             refine head_l rfl ?_
             go_wp2_with (refine(mexp_any _ _ g8 b ((N - 1) / p) N K K _ ((hRs.ext hEV).ext (Upd.refl _ _).drew) (HVb.out.ext hEs2.drew) (hV16'.ext (Upd.refl _ _).drew) hFb hFN hFt (by omega) (by omega)).mono ?_;rintro e w16 ⟨A18,l18,c18,rfl,hV18,hU16⟩)
             refine⟨Cls (Ext _),fun _ h=>h,⟨⟨_,hU16⟩,rfl⟩,?_⟩
             repeat (refine head_q rfl (fun K hK=>?_);have hK2:=hide hK;clear hK;go_simp;refine hK2.out _ ?_;clear hK2 K)
             have hE16:Ext V w16:=hU16.undrew
             refine head_l rfl ?_
             go_wp2_with (refine(msub_any _ _ g8 (b^((N - 1) / p) % N) 1 N K _ ((hRs.ext hEV).ext hE16) hV18 ((hV1s.ext hEV).ext hE16) (hFm _) hF1 hFN (by omega)).mono ?_;rintro e w17 ⟨A19,l19,c19,rfl,hV19,hU17⟩)
             refine⟨Cls (Ext _),fun _ h=>h,⟨⟨_,(hU16.trans hU17)⟩,rfl⟩,?_⟩
             repeat (refine head_q rfl (fun K hK=>?_);have hK2:=hide hK;clear hK;go_simp;refine hK2.out _ ?_;clear hK2 K)
             have hE17:Ext V w17:=(hU16.trans hU17).undrew
             refine head_l rfl ?_
             go_wp2_with (refine(gcd_any _ _ (subm (b^((N - 1) / p) % N) 1 N) N K _ hV19 (HVN.out.ext (hEs2.trans hE17)) (hFm _) hFN (by omega)).mono ?_;rintro e w18 ⟨A20,l20,c20,rfl,hV20,hU18⟩)
             refine⟨Cls (Ext _),fun _ h=>h,⟨⟨_,((hU16.trans hU17).trans hU18)⟩,rfl⟩,?_⟩
             repeat (refine head_q rfl (fun K hK=>?_);have hK2:=hide hK;clear hK;go_simp;refine hK2.out _ ?_;clear hK2 K)
             have hE18:Ext V w18:=((hU16.trans hU17).trans hU18).undrew
             have hFg:Fit K (Nat.gcd (subm (b^((N - 1) / p) % N) 1 N) N):=hFN.le (Nat.le_of_dvd (by omega) (Nat.gcd_dvd_right _ _))
             refine head_l rfl ?_
             go_wp2_with (refine(cmp_any _ _ (Nat.gcd (subm (b^((N - 1) / p) % N) 1 N) N) 1 K _ hV20 ((hV1s.ext hEV).ext hE18) hFg hF1 (by omega)).mono ?_;rintro e w19 ⟨rfl,hU19⟩)
             refine⟨Cls (Ext _),fun _ h=>h,⟨⟨_,(((hU16.trans hU17).trans hU18).trans hU19)⟩,rfl⟩,?_⟩
             repeat (refine head_q rfl (fun K hK=>?_);have hK2:=hide hK;clear hK;go_simp;refine hK2.out _ ?_;clear hK2 K)
             have hE19:Ext S w19:=hEV.trans ((((hU16.trans hU17).trans hU18).trans hU19).undrew)
             clear k0 k1 k5 k16 hE16 hE17 hE18 hU16 hU17 hU18 hU19 hV18 hV19 hV20 hEV hV16' hEs2 z2 z5 v16 hU15
             refine head_nil ?_
             try simp only[List.drop_succ_cons,List.drop_zero]
             obtain⟨gd,hgd⟩:∃gd,gd=Nat.gcd (subm (b^((N - 1) / p) % N) 1 N) N:=⟨_,rfl⟩
             rw[←hgd]
             have Hgd:=hide hgd
             clear hgd hFg
             by_cases hg1:gd=1
             · rw[cmpI_zero.2 hg1]
               have hokq:okP N b ps bs q=true:=by
                unfold okP
                rw[←Hp.out,Hno.out,←Hkb.out,decide_eq_true (show 2≤p by omega),decide_eq_true Hdv.out,decide_eq_true (show Nat.gcd (subm (b^((N - 1) / p) % N) 1 N) N=1 by rw[←Hgd.out];exact hg1)]
                rfl
               have hVn:NatV w19 (.agg #[.slice A14 l14 c14]) (facF N (ps.take (q+1))):=(hV14s.ext hE19).of_eq (by rw[facF_take (by rw[Hn.out];exact hlt),←Hp.out])
               have HVn:=hide hVn
               have Hokq:=hide hokq
               have y10':=y10.ext hE19
               have hUs':=hUs.ext hE19
               clear hokq hVn hg1 hV14s y10 hUs hEs
               go_wp2_with fail
               go_roundw
               case rel=>
                refine⟨q+1,_,_,_,by omega,by go_num,fun r hr=>?_,y10',HVn.out,hUs'⟩
                rcases Nat.lt_or_ge r q with h | h
                · exact Hok.out r h
                · obtain rfl:r=q:=by omega
                  exact Hokq.out
               case measure=>simp[intOf];omega
             · have hz:¬cmpI gd 1=0:=fun h=>hg1 (cmpI_zero.1 h)
               generalize cmpI gd 1=z at hz ⊢
               have hz2:(z != 0)=true:=by simp[hz]
               obtain rfl:t=false:=Ht.out.trans (holds_no4 (i:=q) (by rw[Hn.out];exact hlt) (by
                 unfold okP
                 rw[←Hp.out,decide_eq_false (show ¬Nat.gcd (subm (b^((N - 1) / p) % N) 1 N) N=1 by rw[←Hgd.out];exact hg1),Bool.and_false,Bool.and_false,Bool.and_false,Bool.and_false]))
               clear hg1
               go_wp2_with fail
               go_ret
               exact⟨rfl,hEs.trans hE19⟩
           · have hpw:pwN (N - 1) p=0:=by unfold pwN;rw[if_neg hdv]
             rw[hpw]
             obtain rfl:t=false:=Ht.out.trans (holds_no4 (i:=q) (by rw[Hn.out];exact hlt) (by
               unfold okP
               rw[←Hp.out,decide_eq_false hdv,Bool.false_and,Bool.and_false,Bool.and_false,Bool.and_false]))
             clear hpw hdv
             go_wp2_with fail
             go_ret
             exact⟨rfl,hEr⟩
  · obtain rfl:j=n:=by omega
    have hltI:¬(j:Int)<(j:Int):=by omega
    have htk:ps.take j=ps:=List.take_of_length_le (by rw[Hn.out];omega)
    rw[htk]at hVX HFf
    obtain⟨F,hF⟩:∃F,F=facF N ps:=⟨_,rfl⟩
    rw[←hF]at hVX HFf
    have HF:=hide hF
    have hFFF:Fit ((K*32+1)+(K*32+1)) (F*F):=by
     have h:=HFf.out
     unfold Fit at h ⊢
     rw[Nat.pow_add]
     exact Nat.mul_lt_mul'' h h
    have k10:=fun z:Wd (Ext wr.drew)=>(z.ok.cell (p:=⟨G10,0,none⟩) x10.drew.lt (fun h=>h)).trans x10.drew.cell
    have k0:=fun z:Wd (Ext wr.drew)=>(z.ok.cell (p:=⟨w.heap.size,0,none⟩) s2r.drew.lt (fun h=>h)).trans s2r.drew.cell0
    clear htk hF
    go_wp2_with fail
    refine wp_region_plan (Ext _) 7 [(false,0),(false,1),(false,3),(false,4),(true,2),(true,5),(false,6)] (by kernel_rfl) (by kernel_rfl) (Upd.refl _ _) (fun hne=>?_)
    repeat (refine head_q rfl (fun K hK=>?_);have hK2:=hide hK;clear hK;go_simp;refine hK2.out _ ?_;clear hK2 K)
    refine head_l rfl ?_
    go_wp2_with (refine(mul_any _ _ F F (K*32+1) _ (hVX.ext (Upd.refl _ _).drew) (hVX.ext (Upd.refl _ _).drew) HFf.out HFf.out (by omega)).mono ?_;rintro e w20 ⟨A21,l21,c21,rfl,hV21,hU20⟩)
    refine⟨Cls (Ext _),fun _ h=>h,⟨⟨_,hU20⟩,rfl⟩,?_⟩
    repeat (refine head_q rfl (fun K hK=>?_);have hK2:=hide hK;clear hK;go_simp;refine hK2.out _ ?_;clear hK2 K)
    refine head_l rfl ?_
    go_wp2_with (refine(cmp_any _ _ (F*F) N ((K*32+1)+(K*32+1)) _ hV21 (HVN.out.ext (hEr.trans hU20.undrew)) hFFF (hFN.mono (by omega)) (by omega)).mono ?_;rintro e w21 ⟨rfl,hU21⟩)
    refine⟨Cls (Ext _),fun _ h=>h,⟨⟨_,(hU20.trans hU21)⟩,rfl⟩,?_⟩
    repeat (refine head_q rfl (fun K hK=>?_);have hK2:=hide hK;clear hK;go_simp;refine hK2.out _ ?_;clear hK2 K)
    have hE21:Ext wr w21:=(hU20.trans hU21).undrew
    clear k10 k0 hU20 hU21 hV21
    refine head_nil ?_
    try simp only[List.drop_succ_cons,List.drop_zero]
    have hres:t=decide (N<F*F):=Ht.out.trans (by rw[holds_yes (by omega) (by rw[Hn.out];omega) H3.out (fun i hi=>Hok.out i (by rw[←Hn.out];exact hi)),HF.out])
    by_cases hlt2:N<F*F
    · obtain rfl:t=true:=hres.trans (decide_eq_true hlt2)
      have hz:(0:Int)<cmpI (F*F) N:=by
       unfold cmpI
       rw[if_neg (by omega),if_neg (by omega)]
       omega
      generalize cmpI (F*F) N=z at hz ⊢
      have hzd:decide ((0:Int)<z)=true:=decide_eq_true hz
      clear hres hlt2
      try rw[hzd]
      go_wp2_with fail
      go_ret
      exact⟨rfl,hEr.trans hE21⟩
    · obtain rfl:t=false:=hres.trans (decide_eq_false hlt2)
      have hz:¬(0:Int)<cmpI (F*F) N:=by
       unfold cmpI
       by_cases h1:F*F<N
       · rw[if_pos h1];omega
       · rw[if_neg h1,if_pos (by omega)];omega
      generalize cmpI (F*F) N=z at hz ⊢
      have hzd:decide ((0:Int)<z)=false:=decide_eq_false hz
      clear hres hlt2
      try rw[hzd]
      go_wp2_with fail
      go_ret
      exact⟨rfl,hEr.trans hE21⟩
end
/- The laws of certificates: the chapter's example lives; CertSmalls, walked. -/
section
open Go.RowKit
open Nt Pk
attribute [local go_sem] steady steadyUpon Cls same_cell
attribute [local irreducible] wpHead wpTree
theorem cu64_in {x:Int} (h:(Lit.int .u64 x).wf=true):∃N:Nat,x=(N:Int)∧N<18446744073709551616:=by
 have hb:0≤x∧x≤18446744073709551615:=by
  simpa[Lit.wf,IntKind.min,IntKind.max,IntKind.signed,IntKind.bits] using h
 obtain⟨k,rfl⟩:=Int.eq_ofNat_of_zero_le hb.1
 exact⟨k,rfl,by omega⟩
theorem fit2 {n:Nat} (h:n<18446744073709551616):Fit 2 n:=h
end
/- A chain of steps: Check, Prime, walked. -/
section
open Go.RowKit
open Nt Pk
attribute [local go_sem] steady steadyUpon Cls same_cell
attribute [local irreducible] wpHead wpTree
structure St where
 N:Nat
 b:Nat
 ps:List Nat
instance : Inhabited St := ⟨⟨0, 0, []⟩⟩
def StepL (w:World) (A:Option Addr) (ss:List St):Prop:=∀i,i<ss.length→∃b o A1 l1 c1 A2 l2 c2 A3 n3 c3,A=some ⟨b,o,none⟩∧
 w.cell? ⟨b,o+i*3,none⟩=some (.slice A1 l1 c1)∧w.cell? ⟨b,o+i*3+1,none⟩=some (.slice A2 l2 c2)∧w.cell? ⟨b,o+i*3+2,none⟩=some (.slice A3 n3 c3)∧
 NatV w (.agg #[.slice A1 l1 c1]) (gat ss i).N∧NatV w (.agg #[.slice A2 l2 c2]) (gat ss i).b∧NatL w A3 (gat ss i).ps∧(gat ss i).ps.length=n3∧n3≤c3∧c3≤maxLen
theorem StepL.ext {w w':World} {A:Option Addr} {ss:List St} (h:StepL w A ss) (hu:Ext w w'):StepL w' A ss:=fun i hi=>by
  obtain⟨b,o,A1,l1,c1,A2,l2,c2,A3,n3,c3,h0,h1,h2,h3,h4,h5,h6,h7⟩:=h i hi
  exact⟨b,o,A1,l1,c1,A2,l2,c2,A3,n3,c3,h0,hu.cellv h1,hu.cellv h2,hu.cellv h3,h4.ext hu,h5.ext hu,h6.ext hu,h7⟩
def FitS (K:Nat) (s:St):Prop:=Fit K s.N∧Fit K s.b∧FitL K s.ps∧s.ps.length≤100
def longB (s:St):Bool:=decide (1024<blen s.N) || (decide (1024<blen s.b) || s.ps.any fun p=>decide (1024<blen p))
def holdAll :List Nat→List St→Bool
 | _,[]=>true
 | bs,s :: r=>holdsB s.N s.b s.ps bs && holdAll (bs++[s.N]) r
def checkE (ss:List St):Int:=if 64<ss.length∨ss.any longB=true then 4 else if holdAll [] ss=true then 0 else 8
theorem any_take {α:Type} [Inhabited α] (f:α→Bool) {xs:List α} {k:Nat} (h:k<xs.length):(xs.take (k+1)).any f=((xs.take k).any f || f (gat xs k)):=by
 rw[List.take_succ_eq_append_getElem h,List.any_append,gat_lt h]
 simp
theorem any_at {α:Type} [Inhabited α] (f:α→Bool) {xs:List α} {k:Nat} (h:k<xs.length) (e:f (gat xs k)=true):xs.any f=true:=by
 rw[List.any_eq_true]
 exact⟨xs[k],List.getElem_mem h,by rw[←gat_lt h];exact e⟩
theorem longB_list (s:St):longB s=(s.N :: s.b :: s.ps).any fun p=>decide (1024<blen p):=by
  unfold longB
  simp
theorem Try.n_elN :ElemI Try.prog 35 33 (.agg #[.slice none 0 0]) 24:=⟨by kernel_rfl,by kernel_rfl,rfl⟩
theorem svt_one (t:Tri):(svt t).oneCell'=true:=rfl
theorem Own.lit_at {α:Type} (f:α→Value) {w:World} {B g:Nat} (e:TypeId) (xs:List α) (hB:B≤w.heap.size) (hm:xs.length≤maxLen) (hg:w.heap.size=g):Own (w.alloc (.cells (xs.map f).toArray e)) B e (some ⟨g,0,none⟩) xs.length (xs.map f):=by
 subst hg
 exact Own.lit f w e xs hB hm
theorem name_l2 {P:Program} {ops:Array Oper} {l:List Oper} {Q:Exit→Act→World→Prop} {a:Act} {W:World} (h:∀W',W'=W→wpList P ops Q l a W'):wpList P ops Q l a W:=h W rfl
set_option maxRecDepth 100000 in
set_option maxHeartbeats 8000000 in
theorem ccheck_any (A:Option Addr) (n c K:Nat) (ss:List St) (w:World) (hL:StepL w A ss) (hn:ss.length=n) (hn2:n≤1000) (hF:∀i,i<ss.length→FitS K (gat ss i)) (hK1:1≤K) (hK:K≤1000):
 Calls Try.prog 60 #[.slice A n c] w fun e w'=>e=.returned (.int .i64 (checkE ss))∧Ext w w':=by
 obtain⟨t,ht⟩:∃t,t=checkE ss:=⟨_,rfl⟩
 rw[←ht]
 have Ht:=hide ht
 have Hn:=hide hn
 have HL:=hide hL
 clear ht hn hL
 go_enter Try.func60,Try.ntmps60
 by_cases h64:64<n
 · have h64I:(64:Int)<(n:Int):=by omega
   obtain rfl:t=4:=Ht.out.trans (by unfold checkE;rw[if_pos (.inl (by rw[Hn.out];exact h64))])
   go_wp2_with fail
   go_ret
   exact⟨rfl,Upd.refl _ _⟩
 have h64I:¬(64:Int)<(n:Int):=by omega
 go_wp2_with fail
 go_loopw [15] (fun i wr=>∃j:Nat,j≤n∧i=.int .i64 (j:Int)∧(ss.take j).any longB=false∧Ext w wr) (fun i _=>n - (intOf i).toNat)
 case atStart=>exact⟨0,Nat.zero_le _,rfl,rfl,Upd.refl _ _⟩
 case round=>
  obtain⟨j,hj,rfl,hno,hE⟩:=hrel
  have Hno:=hide hno
  clear hno
  by_cases hlt:j<n
  · have hltI:(j:Int)<(n:Int):=by omega
    obtain⟨b,o,A1,l1,c1,A2,l2,c2,A3,n3,c3,rfl,q0,q1,q2,hV1,hV2,hV3,hn3,hn3c,hc3⟩:=(HL.out.ext hE) j (by rw[Hn.out];exact hlt)
    obtain⟨s,hs⟩:∃s,s=gat ss j:=⟨_,rfl⟩
    obtain⟨hFN,hFb,hFp,hpl⟩:=hF j (by rw[Hn.out];exact hlt)
    rw[←hs]at hV1 hV2 hV3 hn3 hFN hFb hFp hpl
    have Hs:=hide hs
    clear hs
    obtain⟨ts,hts,hSts,hNts⟩:=hV3
    have htl:ts.length=n3:=hts.trans hn3
    have hn3b:n3≤100:=by omega
    have Htl:=hide htl
    clear hts htl
    go_wp2_with (at_builtin;go_must (refine name_l2 (fun W hW=>?_));go_must (have hEW:Ext wr W:=(by rw[hW];exact((Upd.refl _ _).alloc _).alloc _));go_must (have hOW:Own W wr.heap.size 33 (some ⟨wr.heap.size+1,0,none⟩) 2 ([((A1,l1,c1):Tri),(A2,l2,c2)].map svt):=(by rw[hW];exact Own.lit_at svt _ _ (by simp) (show 2≤maxLen by unfold maxLen;decide) (by simp)));have HW:=hide hW;clear hW;go_must (refine wpList_apd svt svt_one Try.n_elN [((A1,l1,c1):Tri),(A2,l2,c2)] ts ([((A1,l1,c1):Tri),(A2,l2,c2)]++ts) (2+n3) rfl (by rw[List.length_append,Htl.out];rfl) (by omega) (by unfold maxLen;omega) rfl rfl rfl rfl hOW rfl Htl.out (hSts.ext hEW) hEW.size ?_);intro A4 c4 w2 hO4 hU4 hin4)
    have hE2:Ext wr w2:=Upd.fresh hU4 hEW (fun k hk=>(hOW.in_ hk).1)
    obtain⟨ns,hns⟩:∃ns,ns=s.N :: s.b :: s.ps:=⟨_,rfl⟩
    have hnl:ns.length=2+n3:=by rw[hns,List.length_cons,List.length_cons,hn3];omega
    have hLn:NatL w2 A4 ns:=by
     refine⟨_,by rw[List.length_append,Htl.out,hnl];rfl,hO4.sl,fun i hi=>?_⟩
     rw[hns]at hi ⊢
     match i,hi with
     | 0,_=>exact hV1.ext hE2
     | 1,_=>exact hV2.ext hE2
     | k+2,h=>
       have hk:k<s.ps.length:=by simpa using h
       have e1:gat ([((A1,l1,c1):Tri),(A2,l2,c2)]++ts) (k+2)=gat ts k:=gat_append_right (by simp)
       rw[e1]
       exact(hNts k hk).ext hE2
    have hFn:∀i,i<ns.length→Fit K (gat ns i):=fun i hi=>by
      rw[hns]at hi ⊢
      match i,hi with
      | 0,_=>exact hFN
      | 1,_=>exact hFb
      | k+2,h=>exact hFp k (by simpa using h)
    have hlg:longB s=ns.any fun p=>decide (1024<blen p):=by rw[hns];exact longB_list s
    have Hlg:=hide hlg
    have Hnl:=hide hnl
    have HLn:=hide hLn
    have hE3:=hE.trans hE2
    clear hns hlg hnl hLn hO4 hU4 hin4 hEW hOW HW hV1 hV2 hSts hNts q0 q1 q2 hE2 hE
    go_loopw [28] (fun i wr=>∃q:Nat,q≤2+n3∧i=.int .i64 (q:Int)∧((ns.take q).any fun p=>decide (1024<blen p))=false∧Ext w2 wr) (fun i _=>2+n3 - (intOf i).toNat)
    case atStart=>exact⟨0,Nat.zero_le _,rfl,rfl,Upd.refl _ _⟩
    case round=>
     obtain⟨q,hq,rfl,hnq,hEq⟩:=hrel
     have Hnq:=hide hnq
     clear hnq
     by_cases hqn:q<2+n3
     · have hqI:(q:Int)<2+(n3:Int):=by omega
       have hqI2:(q:Int)<((2+n3:Nat):Int):=by omega
       obtain⟨b4,o4,Q,lQ,cQ,rfl,hcq,hVq⟩:=(HLn.out.ext hEq).at (i:=q) (by rw[Hnl.out];exact hqn)
       obtain⟨x,hx⟩:∃x,x=gat ns q:=⟨_,rfl⟩
       have hFx:Fit K x:=by rw[hx];exact hFn q (by rw[Hnl.out];exact hqn)
       rw[←hx]at hVq
       have Hx:=hide hx
       clear hx
       go_wp2_with fail
       refine name_c (fun W hW=>?_)
       have hEW:Ext wr W:=by rw[hW];exact(Upd.refl _ _).alloc _
       clear hW hcq
       refine(clong_any _ x K _ (hVq.ext hEW) hFx (by omega)).mono ?_
       rintro e w5 ⟨rfl,hU5⟩
       have hE5:=(hEq.trans hEW).trans hU5
       clear hEW hU5 hVq hEq
       by_cases hxl:1024<blen x
       · rw[decide_eq_true hxl]
         obtain rfl:t=4:=Ht.out.trans (by
          unfold checkE
          rw[if_pos (.inr (any_at longB (k:=j) (by rw[Hn.out];exact hlt) (by rw[←Hs.out,Hlg.out];exact any_at _ (k:=q) (by rw[Hnl.out];exact hqn) (by rw[←Hx.out];exact decide_eq_true hxl))))])
         clear hxl
         go_wp2_with fail
         go_ret
         exact⟨rfl,hE3.trans hE5⟩
       · rw[decide_eq_false hxl]
         have Hxl:=hide hxl
         clear hxl
         go_wp2_with fail
         go_roundw
         case rel=>exact⟨q+1,by omega,by go_num,by rw[any_take _ (by rw[Hnl.out];exact hqn),Hnq.out,←Hx.out,decide_eq_false Hxl.out];rfl,hE5⟩
         case measure=>simp[intOf];omega
     · obtain rfl:q=2+n3:=by omega
       have hall:longB s=false:=by
        have:=Hnq.out
        rw[List.take_of_length_le (by rw[Hnl.out];omega)]at this
        rw[Hlg.out,this]
       have Hall:=hide hall
       clear hall
       go_wp2_with fail
       go_roundw
       case rel=>exact⟨j+1,by omega,by go_num,by rw[any_take _ (by rw[Hn.out];exact hlt),Hno.out,←Hs.out,Hall.out];rfl,hE3.trans hEq⟩
       case measure=>simp[intOf];omega
  · obtain rfl:j=n:=by omega
    have hltI:¬(j:Int)<(j:Int):=by omega
    have hnolong:ss.any longB=false:=by have:=Hno.out;rwa [List.take_of_length_le (by rw[Hn.out];omega)]at this
    have hte:checkE ss=if holdAll [] ss=true then 0 else 8:=by
      unfold checkE
      rw[if_neg (fun h=>h.elim (fun h=>by rw[Hn.out]at h;omega) (fun h=>by rw[hnolong]at h;cases h))]
    have Hte:=hide (Ht.out.trans hte)
    clear hte hnolong
    go_wp2_with fail
    go_loopw [7,38] (fun bv i wr=>∃(q lq:Nat) (D:Option Addr) (cD:Nat) (tb:List Tri),q≤j∧lq=q∧i=.int .i64 (q:Int)∧bv=.slice D lq cD∧tb.length=lq∧Own wr w.heap.size 33 D cD (tb.map svt)∧(∀i,i<lq→NatV w (.agg #[svt (gat tb i)]) (gat ss i).N)∧holdAll [] ss=holdAll ((ss.take q).map St.N) (ss.drop q)∧Ext w wr) (fun _ i _=>j - (intOf i).toNat)
    case atStart=>exact⟨0,0,none,0,[],Nat.zero_le _,rfl,rfl,rfl,rfl,Own.nil,fun i hi=>absurd hi (by omega),rfl,hE⟩
    case round=>
     clear hE
     obtain⟨q,lq,D,cD,tb,hq,hlq,rfl,rfl,htb,hOb,hNb,hho,hE⟩:=hrel
     subst hlq
     have Hho:=hide hho
     have Htb:=hide htb
     clear hho htb
     by_cases hqj:lq<j
     · have hqI:(lq:Int)<(j:Int):=by omega
       obtain⟨b,o,A1,l1,c1,A2,l2,c2,A3,n3,c3,rfl,q0,q1,q2,hV1,hV2,hV3,hn3,hn3c,hc3⟩:=HL.out lq (by rw[Hn.out];exact hqj)
       replace q0:=hE.cellv q0
       replace q1:=hE.cellv q1
       replace q2:=hE.cellv q2
       replace hV2:=hV2.ext hE
       replace hV3:=hV3.ext hE
       obtain⟨s,hs⟩:∃s,s=gat ss lq:=⟨_,rfl⟩
       obtain⟨hFN,hFb,hFp,hpl⟩:=hF lq (by rw[Hn.out];exact hqj)
       obtain⟨bs,hbs⟩:∃bs,bs=(ss.take lq).map St.N:=⟨_,rfl⟩
       have hbl:bs.length=lq:=by rw[hbs,List.length_map,List.length_take,Hn.out];omega
       have hbg:∀i,i<lq→gat bs i=(gat ss i).N:=fun i hi=>by
         have h1:i<ss.length:=by rw[Hn.out];omega
         rw[hbs,gat_lt (by rw[List.length_map,List.length_take];omega),List.getElem_map,List.getElem_take,gat_lt h1]
       have hLb:NatL wr D bs:=⟨tb,by rw[hbl];exact Htb.out,hOb.sl,fun i hi=>by rw[hbg i (by omega)];exact(hNb i (by omega)).ext hE⟩
       have hFbs:FitL K bs:=fun i hi=>by rw[hbg i (by omega)];exact(hF i (by rw[Hn.out];omega)).1
       rw[←hs]at hV1 hV2 hV3 hn3 hFN hFb hFp hpl
       have hdrop:ss.drop lq=s :: ss.drop (lq+1):=by
        rw[hs,gat_lt (by rw[Hn.out];exact hqj)]
        exact List.drop_eq_getElem_cons (by rw[Hn.out];exact hqj)
       have htake:(ss.take (lq+1)).map St.N=bs++[s.N]:=by rw[List.take_succ_eq_append_getElem (by rw[Hn.out];exact hqj),List.map_append,hbs,hs,gat_lt (by rw[Hn.out];exact hqj)];rfl
       have hho:=Hho.out
       rw[←hbs,hdrop]at hho
       have Hho2:=hide hho
       have Htake:=hide htake
       have Hs:=hide hs
       clear hs hbs hdrop htake hho hbg
       go_wp2_with fail
       refine name_c (fun W hW=>?_)
       have hEW:Ext wr W:=by rw[hW];exact(Upd.refl _ _).alloc _
       have s9:Three W wr.heap.size 37 (.slice A1 l1 c1) (.slice A2 l2 c2) (.slice A3 n3 c3):=by rw[hW];exact Three.new _ _ _ _ _
       clear hW q0 q1 q2
       refine(choldsB_any A1 A2 A3 D l1 c1 l2 c2 n3 c3 lq cD s.N s.b K s.ps bs _ ((hV1.ext hE).ext hEW) (hV2.ext hEW) (hV3.ext hEW) hn3 hn3c hc3 (hLb.ext hEW) hbl (by omega) hFN hFb hFp hFbs hK1 hK).mono ?_
       rintro e w5 ⟨rfl,hU5⟩
       have hE5:=hEW.trans hU5
       replace s9:=s9.ext hU5
       have hOb5:=hOb.ext hE5
       have HV1:=hide hV1
       have hEw:=hE.trans hE5
       clear hLb hEW hU5 hV1 hV2 hV3 hOb
       cases hh:holdsB s.N s.b s.ps bs with
       | false=>
         obtain rfl:t=8:=Hte.out.trans (by
          have:=Hho2.out
          rw[holdAll,hh,Bool.false_and]at this
          rw[if_neg (by rw[this];decide)])
         clear hh
         go_wp2_with fail
         go_ret
         exact⟨rfl,hEw⟩
       | true=>
         have Hhh:=hide hh
         have k0:=s9.cell0
         clear hh
         go_wp2_with (at_builtin;refine name_l2 (fun W hW=>?_);have hEW:Ext w5 W:=(by rw[hW];exact(Upd.refl _ _).alloc _);have hSW:Sl svt W (some ⟨w5.heap.size,0,none⟩) [((A1,l1,c1):Tri)]:=(by rw[hW];exact Sl.new svt w5 33 [((A1,l1,c1):Tri)]);have HW:=hide hW;clear hW;go_must (refine wpList_apd svt svt_one Try.n_elN tb [((A1,l1,c1):Tri)] (tb++[((A1,l1,c1):Tri)]) (lq+1) rfl (by rw[List.length_append,Htb.out];rfl) (by omega) (by unfold maxLen;omega) rfl rfl rfl Htb.out (hOb5.ext hEW) rfl rfl hSW (hEw.trans hEW).size ?_);intro A6 c6 w6 hO6 hU6 hin6)
         have hE6:Ext w w6:=Upd.fresh hU6 (hEw.trans hEW) (fun k hk=>(hOb5.in_ hk).1)
         have hN6:∀i,i<lq+1→NatV w (.agg #[svt (gat (tb++[((A1,l1,c1):Tri)]) i)]) (gat ss i).N:=fun i hi=>by
           by_cases h:i<lq
           · rw[gat_append_left (by rw[Htb.out];exact h)]
             exact hNb i h
           · obtain rfl:i=lq:=by omega
             rw[gat_append_right (by rw[Htb.out];exact Nat.le_refl _),Htb.out,Nat.sub_self,←Hs.out]
             exact HV1.out
         have HN6:=hide hN6
         have HE6:=hide hE6
         have HO6:=hide hO6
         clear hN6 hE6 hO6 hU6 hin6 hOb5 hSW hEW HW k0 hNb
         go_roundw
         case rel=>exact⟨lq+1,lq+1,A6,c6,tb++[((A1,l1,c1):Tri)],hqj,rfl,by go_num,rfl,by rw[List.length_append,Htb.out];rfl,HO6.out,HN6.out,by rw[Htake.out,Hho2.out,holdAll,Hhh.out,Bool.true_and],HE6.out⟩
         case measure=>simp[intOf];omega
     · obtain rfl:lq=j:=by omega
       have hqI:¬(lq:Int)<(lq:Int):=by omega
       obtain rfl:t=0:=Hte.out.trans (by
        have:=Hho.out
        rw[List.drop_of_length_le (by rw[Hn.out];omega),holdAll]at this
        rw[if_pos this])
       go_wp2_with fail
       go_ret
       exact⟨rfl,hE⟩
end
end Go.Proofs.Ytbhhjfhepkbfgaa
