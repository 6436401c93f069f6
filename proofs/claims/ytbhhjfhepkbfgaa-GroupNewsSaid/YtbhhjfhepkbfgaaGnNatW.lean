/- Merged: NatU NatJ NatK NatL NatP NatQ. -/
import Derived.Test.YtbhhjfhepkbfgaaGnNatY
import Derived.Deep.QuietTactic
import Derived.BigQuiet
namespace Go.Proofs.Ytbhhjfhepkbfgaa
set_option linter.unusedSimpArgs false
set_option linter.unusedVariables false
/- A digit of a quotient, walked: digit. -/
section
open Go.RowKit
open Nt
attribute [local go_sem] steady steadyUpon Cls same_cell by32 wrap_w32
theorem top_two {β m:Nat} {f:Nat→Nat} (hm:1≤m):(f m*β+f (m - 1))*β^(m - 1)≤vf β f (m+1):=by
 obtain⟨k,rfl⟩:∃k,m=k+1:=⟨m - 1,by omega⟩
 rw[Nat.add_sub_cancel,vf_succ,vf_succ,Nat.pow_succ,Nat.add_mul,Nat.mul_assoc,Nat.mul_comm β]
 omega
theorem top_one {β m:Nat} {f:Nat→Nat} (hf:∀i,i<m→f i<β) (hm:1≤m):vf β f m<(f (m - 1)+1)*β^(m - 1):=by
 obtain⟨k,rfl⟩:∃k,m=k+1:=⟨m - 1,by omega⟩
 rw[Nat.add_sub_cancel,vf_succ,Nat.add_mul,Nat.one_mul]
 have:=vf_lt (β:=β) (f:=f) (n:=k) (fun i hi=>hf i (by omega))
 omega
theorem top_bound {β m T p U V:Nat} (hβ:0<β) (hp0:0<p) (hT:T*β^(m - 1)≤U) (hp:V<(p+1)*β^(m - 1)) (hUV:U<β*V) (h2:β≤2*p):T / p≤β+1:=by
 have hP:0<β^(m - 1):=Nat.pow_pos hβ
 have h1:T*β^(m - 1)<β*(p+1)*β^(m - 1):=by
  refine Nat.lt_of_le_of_lt hT (Nat.lt_of_lt_of_le hUV ?_)
  rw[Nat.mul_assoc]
  exact Nat.mul_le_mul_left _ (Nat.le_of_lt hp)
 have h3:T<β*(p+1):=Nat.lt_of_mul_lt_mul_right h1
 have h4:T / p<β+2:=by
  rw[Nat.div_lt_iff_lt_mul hp0,Nat.add_mul]
  rw[Nat.mul_add]at h3
  omega
 omega
theorem back_cast {c:Nat} {x y:BitVec 32}:(c:Int)+(n32 x+n32 y)=((c+d32 x+d32 y:Nat):Int):=by rw[n32_d,n32_d];omega
theorem back_next {zs1 zs ys:List (BitVec 32)} {N j k c:Nat} (hz:zs.length=N) (hjk:j+k<N) (hun:∀i,i<j∨j+k≤i→dig d32 zs i=dig d32 zs1 i)
 (hv:vf W32 (fun i=>dig d32 zs (j+i)) k+c*W32^k=vf W32 (fun i=>dig d32 zs1 (j+i)) k+vf W32 (dig d32 ys) k):
 (∀i,i<j∨j+(k+1)≤i→dig d32 (zs.set (j+k) (w32 ((c:Int)+(n32 (gat zs (j+k))+n32 (gat ys k))))) i=dig d32 zs1 i)∧
 vf W32 (fun i=>dig d32 (zs.set (j+k) (w32 ((c:Int)+(n32 (gat zs (j+k))+n32 (gat ys k))))) (j+i)) (k+1)+(c+d32 (gat zs (j+k))+d32 (gat ys k)) / W32*W32^(k+1)=vf W32 (fun i=>dig d32 zs1 (j+i)) (k+1)+vf W32 (dig d32 ys) (k+1):=by
 refine⟨fun i hi=>by rw[dig_set (by omega),if_neg (by omega)];exact hun i (by omega),?_⟩
 have hu:d32 (gat zs (j+k))=dig d32 zs1 (j+k):=hun (j+k) (.inr (Nat.le_refl _))
 rw[hu]
 refine add_step (a:=fun i=>dig d32 zs1 (j+i)) (b:=dig d32 ys) (c:=c) ?_ ?_
 · rw[←hv]
   congr 1
   exact vf_congr fun i hi=>by rw[dig_set (by omega),if_neg (by omega)]
 · rw[dig_set (by omega),if_pos rfl,back_cast,d32_w32,hu];rfl
theorem quo_top {U V T p P:Nat} (hV:p*P≤V) (hU:U<(T+1)*P) (hp:0<p):U / V≤T / p:=by
 have hV0:0<V:=by
  rcases Nat.eq_zero_or_pos P with h | h
  · subst h;omega
  · exact Nat.lt_of_lt_of_le (Nat.mul_pos hp h) hV
 have h:U / V<T / p+1:=by
  rw[Nat.div_lt_iff_lt_mul hV0]
  refine Nat.lt_of_lt_of_le hU (Nat.le_trans ?_ (Nat.mul_le_mul_left _ hV))
  rw[←Nat.mul_assoc]
  refine Nat.mul_le_mul_right _ ?_
  have:=Nat.div_add_mod T p
  have:=Nat.mod_lt T hp
  rw[Nat.add_mul,Nat.one_mul,Nat.mul_comm]
  omega
 omega
structure Digit (w:World) (B g cap:Nat) (zs ys:List (BitVec 32)) (j m:Nat) (e:Ending) (w':World):Prop where
 ex:∃zs':List (BitVec 32),e=.returned (.int .u32 (n32 (w32 ((vf W32 (fun i=>dig d32 zs (j+i)) (m+1) / vf W32 (dig d32 ys) m:Nat):Int))))∧zs'.length=zs.length∧Own w' B 71 (some ⟨g,0,none⟩) cap (zs'.map by32)∧(∀i,i<j∨j+m<i→dig d32 zs' i=dig d32 zs i)∧
   vf W32 (fun i=>dig d32 zs' (j+i)) (m+1)=vf W32 (fun i=>dig d32 zs (j+i)) (m+1) % vf W32 (dig d32 ys) m
 upd:Upd (only g) w w'
theorem or_words {a b:Nat} (ha:a<W32) (hb:b<W32):bits .or .u64 ((a:Int)*4294967296) (b:Int)=((a*W32+b:Nat):Int):=by
 have h:=or_nat' .u64 rfl (a:=b) (b:=a) (s:=32) hb (by unfold W32 at*;show b+a*2^32<2^64;omega)
 have e:((a*2^32:Nat):Int)=(a:Int)*4294967296:=by simp
 rw[e]at h
 rw[h]
 unfold W32
 omega
set_option maxRecDepth 100000 in
set_option maxHeartbeats 4000000 in
theorem digit_any (B g cap j M cu cv:Nat) (Y:Option Addr) (zs0 ys:List (BitVec 32)) (w:World) (hO0:Own w B 71 (some ⟨g,0,none⟩) cap (zs0.map by32)) (hjm:j+(M+2)<zs0.length) (hl:zs0.length≤2000000) (hym:ys.length=M+2) (hS:Sl by32 w Y ys) (hY:∀k,inA Y k→k≠g) (hcu:M+3≤cu) (hcv:M+2≤cv)
 (hv1:2147483648≤dig d32 ys (M+1)) (hUV:vf W32 (fun i=>dig d32 zs0 (j+i)) (M+3)<W32*vf W32 (dig d32 ys) (M+2)):
 Calls Try.prog 64 #[.slice (some ⟨g,j,none⟩) (M+3) cu,.slice Y (M+2) cv] w (Digit w B g cap zs0 ys j (M+2)):=by
 obtain⟨N,hN⟩:∃N,zs0.length=N:=⟨_,rfl⟩
 rw[hN]at hjm hl
 have HN:=hide hN
 have HM:=hide hym
 have HS:=hide hS
 have HY:=hide hY
 obtain⟨b2,o2,hYe,hbl2,hcells⟩:=hS.open_ (by rw[hym];omega)
 subst hYe
 obtain⟨a,ha⟩:∃a,a=dig d32 zs0 (j+(M+2)):=⟨_,rfl⟩
 obtain⟨b,hb⟩:∃b,b=dig d32 zs0 (j+(M+1)):=⟨_,rfl⟩
 obtain⟨c,hc⟩:∃c,c=dig d32 zs0 (j+M):=⟨_,rfl⟩
 obtain⟨p,hp⟩:∃p,p=dig d32 ys (M+1):=⟨_,rfl⟩
 obtain⟨s,hs⟩:∃s,s=dig d32 ys M:=⟨_,rfl⟩
 have ca:w.cell? ⟨g,j+(M+2),none⟩=some (.int .u32 (a:Int)):=by rw[ha];exact hO0.row.cell (i:=j+(M+2)) (by rw[hN];omega)
 have cb:w.cell? ⟨g,j+(M+1),none⟩=some (.int .u32 (b:Int)):=by rw[hb];exact hO0.row.cell (i:=j+(M+1)) (by rw[hN];omega)
 have cc:w.cell? ⟨g,j+M,none⟩=some (.int .u32 (c:Int)):=by rw[hc];exact hO0.row.cell (i:=j+M) (by rw[hN];omega)
 have cp:w.cell? ⟨b2,o2+(M+1),none⟩=some (.int .u32 (p:Int)):=by rw[hp];exact hcells (M+1) (by rw[hym];omega)
 have cs:w.cell? ⟨b2,o2+M,none⟩=some (.int .u32 (s:Int)):=by rw[hs];exact hcells M (by rw[hym];omega)
 have la:a<W32:=by rw[ha];exact d32_lt _
 have lb:b<W32:=by rw[hb];exact d32_lt _
 have lc:c<W32:=by rw[hc];exact d32_lt _
 have lp:p<W32:=by rw[hp];exact d32_lt _
 have ls:s<W32:=by rw[hs];exact d32_lt _
 have lp1:2147483648≤p:=by rw[hp];exact hv1
 obtain⟨T,hT⟩:∃T,T=a*W32+b:=⟨_,rfl⟩
 obtain⟨Q,hQ⟩:∃Q,Q=vf W32 (fun i=>dig d32 zs0 (j+i)) (M+3) / vf W32 (dig d32 ys) (M+2):=⟨_,rfl⟩
 have hi1:∀(q r:Nat),q*p+r=T→W32≤q∨r*W32+c<q*s→Q<q:=by
  intro q r h1 h2
  rw[hQ]
  refine guess_high (β:=W32) (u:=fun i=>dig d32 zs0 (j+i)) (v:=dig d32 ys) (m:=M+2) (by decide) (fun i _=>d32_lt _) (fun i _=>d32_lt _) (by omega) (r:=r) ?_ hUV ?_
  · show q*dig d32 ys (M+1)+r=dig d32 zs0 (j+(M+2))*W32+dig d32 zs0 (j+(M+1))
    rw[←ha,←hb,←hp,←hT,h1]
  · show W32≤q∨r*W32+dig d32 zs0 (j+M)<q*dig d32 ys M
    rw[←hc,←hs];exact h2
 have lo1:∀(q r:Nat),q*p+r=T→((q<W32∧q*s≤r*W32+c)∨(q≤W32∧W32≤r))→q≤Q+1:=by
  intro q r h1 h2
  rw[hQ]
  refine guess_low (β:=W32) (u:=fun i=>dig d32 zs0 (j+i)) (v:=dig d32 ys) (m:=M+2) (by decide) (fun i _=>d32_lt _) (fun i _=>d32_lt _) (by omega) (r:=r) ?_ (show 0<dig d32 ys (M+1) by omega) ?_
  · show q*dig d32 ys (M+1)+r=dig d32 zs0 (j+(M+2))*W32+dig d32 zs0 (j+(M+1))
    rw[←ha,←hb,←hp,←hT,h1]
  · show(q<W32∧q*dig d32 ys M≤r*W32+dig d32 zs0 (j+M))∨_
    rw[←hc,←hs];exact h2
 have hVp:p*W32^(M+1)≤vf W32 (dig d32 ys) (M+2):=by
  rw[hp];show _≤vf W32 (dig d32 ys) (M+1)+dig d32 ys (M+1)*W32^(M+1);omega
 have hUT:vf W32 (fun i=>dig d32 zs0 (j+i)) (M+3)<(T+1)*W32^(M+1):=by
   have h1:vf W32 (fun i=>dig d32 zs0 (j+i)) (M+1)<W32^(M+1):=vf_lt fun i _=>d32_lt _
   rw[hT,ha,hb]
   show vf W32 (fun i=>dig d32 zs0 (j+i)) (M+1)+dig d32 zs0 (j+(M+1))*W32^(M+1)+dig d32 zs0 (j+(M+2))*W32^(M+2)<_
   rw[Nat.pow_succ W32 (M+1),Nat.add_mul,Nat.add_mul,Nat.one_mul,Nat.mul_assoc,Nat.mul_comm W32]
   omega
 have HI:=hide hi1
 have LO:=hide lo1
 have HQ:=hide hQ
 have HT:=hide hT
 have hTq:T / p≤W32+1:=by
  refine top_bound (β:=W32) (m:=M+2) (by decide) (by omega) (U:=vf W32 (fun i=>dig d32 zs0 (j+i)) (M+3)) (V:=vf W32 (dig d32 ys) (M+2)) ?_ ?_ hUV (by unfold W32;omega)
  · rw[hT,ha,hb];exact top_two (β:=W32) (f:=fun i=>dig d32 zs0 (j+i)) (by omega)
  · rw[hp];exact top_one (fun i _=>d32_lt _) (by omega)
 have HV1:=hide hv1
 have HUV:=hide hUV
 have HO:=hide hO0
 have Hcell:=hide (And.intro ca (And.intro cb (And.intro cc (And.intro cp cs))))
 have Hab:=hide (And.intro ha (And.intro hb (And.intro hc (And.intro hp hs))))
 clear hi1 lo1 hQ hT hv1 hUV hO0 hcells ha hb hc hp hs hN hym hS hY ca cb cc cp cs
 have Hla:=hide la
 have Hlb:=hide lb
 have Hlc:=hide lc
 have Hls:=hide ls
 have Hlp:=hide lp
 have la':(a:Int)≤4294967295:=by unfold W32 at la;omega
 have lb':(b:Int)≤4294967295:=by unfold W32 at lb;omega
 have lc':(c:Int)≤4294967295:=by unfold W32 at lc;omega
 have lp':(p:Int)≤4294967295:=by unfold W32 at lp;omega
 have ls':(s:Int)≤4294967295:=by unfold W32 at ls;omega
 clear la lb lc lp ls
 go_enter Try.func64,Try.ntmps64
 go_wp2
 have ca:w.drew.cell? ⟨g,j+(M+2),none⟩=some (.int .u32 (a:Int)):=Hcell.out.1
 have cb:w.drew.cell? ⟨g,j+(M+1),none⟩=some (.int .u32 (b:Int)):=Hcell.out.2.1
 have e1:IntKind.u64.wrap ((a:Nat):Int)=(a:Int):=IntWalk.u64_in _ (by omega)
 have e2:IntKind.u64.wrap ((a:Int)*4294967296)=(a:Int)*4294967296:=IntWalk.u64_in _ (by omega)
 have e3:IntKind.u64.wrap ((b:Nat):Int)=(b:Int):=IntWalk.u64_in _ (by omega)
 have e4:bits .or .u64 ((a:Int)*4294967296) (b:Int)=(T:Int):=by rw[HT.out];exact or_words Hla.out Hlb.out
 have w1:IntKind.i64.wrap ((M:Int)+2 - 1)=(M:Int)+1:=by rw[show(M:Int)+2 - 1=(M:Int)+1 by omega];exact IntWalk.i64_in _ (by omega)
 have p1:(0:Int)≤(M:Int)+1:=by omega
 have p1':(0:Int)≤(M:Int)+2:=by omega
 have p2:(M:Int)+1<(M:Int)+3:=by omega
 have p3:(M:Int)+2<(M:Int)+3:=by omega
 have p4:((M:Int)+1).toNat=M+1:=by omega
 have p5:((M:Int)+2).toNat=M+2:=by omega
 refine wp_region_plan (Same _) 13 [(false,0),(false,1),(false,2),(false,3),(false,4),(false,5),(false,6),(false,7),(false,8),(false,9),(false,10),(false,11),(false,12)] (by kernel_rfl) (by kernel_rfl) rfl (fun hne=>?_)
 repeat (refine head_q rfl (fun K hK=>?_);have hK2:=hide hK;clear hK;go_simp;refine hK2.out _ ?_;clear hK2 K)
 refine head_nil ?_
 try simp only[List.drop_succ_cons,List.drop_zero]
 go_wp2_with fail
 clear ca cb e1 e2 e3 e4
 have ca:w.drew.drew.cell? ⟨b2,o2+(M+1),none⟩=some (.int .u32 (p:Int)):=Hcell.out.2.2.2.1
 have hpz:¬p=0:=by omega
 have hT64:(T:Int)≤18446744073709551615:=by have:=HT.out;have:=Hla.out;have:=Hlb.out;unfold W32 at*;omega
 have hTp:((T / p:Nat):Int)=(T:Int) / (p:Int):=rfl
 have hTp2:((T % p:Nat):Int)=(T:Int) % (p:Int):=rfl
 have hTp3:(T:Int) / (p:Int)≤(T:Int):=Int.ediv_le_self _ (by omega)
 have hTp0:0≤(T:Int) / (p:Int):=by rw[←hTp];exact Int.natCast_nonneg _
 obtain⟨q0,hq0⟩:∃q0,q0=T / p:=⟨_,rfl⟩
 obtain⟨r0,hr0⟩:∃r0,r0=T % p:=⟨_,rfl⟩
 have e1:IntKind.u64.wrap ((p:Nat):Int)=(p:Int):=IntWalk.u64_in _ (by omega)
 have e2:IntKind.u64.wrap ((T:Int) / (p:Int))=(q0:Int):=by rw[hq0,hTp];exact IntWalk.u64_in _ ⟨hTp0,Int.le_trans hTp3 hT64⟩
 have e3:(T:Int).tmod (p:Int)=(r0:Int):=by rw[hr0,hTp2];exact IntWalk.rem_in _ _ (by omega)
 have e4:(T:Int) % (p:Int)=(r0:Int):=by rw[hr0,hTp2]
 have p2':(M:Int)+1<(M:Int)+2:=by omega
 have hqr:q0*p+r0=T:=by rw[hq0,hr0,Nat.mul_comm];exact Nat.div_add_mod T p
 have hr0p:r0<p:=by rw[hr0];exact Nat.mod_lt _ (by omega)
 have Hqr:=hide hqr
 have Hq0:=hide hq0
 rw[←hq0]at hTq
 clear hTp hTp2 hTp3 hTp0 hq0 hr0 hqr hT64
 refine wp_region_plan (Same _) 17 [(false,0),(false,1),(false,2),(false,3),(false,4),(false,5),(false,6),(false,7),(false,8),(false,9),(false,10),(false,11),(false,12),(false,13),(false,14),(false,15),(false,16)] (by kernel_rfl) (by kernel_rfl) rfl (fun hne=>?_)
 repeat (refine head_q rfl (fun K hK=>?_);have hK2:=hide hK;clear hK;go_simp;refine hK2.out _ ?_;clear hK2 K)
 refine head_nil ?_
 try simp only[List.drop_succ_cons,List.drop_zero]
 go_wp2_with fail
 clear ca e1 e2 e3 e4
 go_loopw [7,8] (fun qv rv wr=>∃q r:Nat,qv=.int .u64 q∧rv=.int .u64 r∧q*p+r=T∧r<W32∧Q≤q∧q≤W32+1∧Ext w wr) (fun _ rv _=>W32 - (intOf rv).toNat)
 case atStart=>exact⟨q0,r0,rfl,rfl,Hqr.out,Nat.lt_trans hr0p Hlp.out,by rw[HQ.out,Hq0.out];exact quo_top hVp hUT (by omega),hTq,(by repeat (first | (with_reducible exact Upd.refl _ _) | (with_reducible assumption) | (refine Upd.setCell ?_ (.inr (by first | exact Nat.le_refl _ | (dsimp only;omega) | (simp;done) | (simp;omega))) _) | (with_reducible refine Upd.alloc ?_ _) | (with_reducible refine Upd.drew ?_) | (with_reducible refine Upd.trans ?_ (by with_reducible assumption))))⟩
 case round=>
  clear Hqr Hq0 hTq hr0p
  obtain⟨q,r,rfl,rfl,hqr,hrW,hQq,hqW,hE⟩:=hrel
  have Hqr:=hide hqr
  have HrW:=hide hrW
  have HqW:=hide hqW
  have hqi:(q:Int)≤4294967297:=by unfold W32 at hqW;omega
  have hri:(r:Int)≤4294967295:=by unfold W32 at hrW;omega
  have cp:wr.cell? ⟨b2,o2+(M+1),none⟩=some (.int .u32 (p:Int)):=(hE.cell (World.block_lt_of_cell? w _ Hcell.out.2.2.2.1) (fun h=>h)).trans Hcell.out.2.2.2.1
  clear hqr hrW hqW
  by_cases hA:W32≤q
  · have hQ1:=HI.out q r Hqr.out (.inl hA)
    have gA:(4294967296:Int)≤(q:Int):=by unfold W32 at hA;omega
    clear hA
    go_wp2_with fail
    by_cases hB:(4294967296:Int)≤(r:Int)+(p:Int)
    · go_quiet (fail)
      go_wp2_with fail
      rw[show(q:Int) - 1=((q - 1:Nat):Int) by omega]
      have hEq:Ext w (wr.drewN nq):=hE.drewN _
      have hq2:(q - 1)≤Q+1:=(LO.out (q - 1) (r+p) (by have:=Hqr.out;rw[Nat.sub_mul,Nat.one_mul];have h1:1*p≤q*p:=Nat.mul_le_mul_right _ (by omega);omega) (.inr ⟨by have:=HqW.out;omega,by unfold W32;omega⟩))
      have hq3:(q - 1)≤W32:=(by have:=HqW.out;omega)
      refine(take_any B g cap j (M+2) cu cv (q - 1) (some ⟨b2,o2,none⟩) zs0 ys _ (HO.out.ext hEq) (by rw[HN.out];omega) (by rw[HN.out];omega) HM.out (HS.out.ext hEq) HY.out hq3).mono ?_
      rintro e w3 ⟨⟨zs1,cw,rfl,hl1,hO1,hz1,hv1,hy1,hn1⟩,hU1⟩
      have hq1:Q≤(q - 1):=by omega
      have hVlt:vf W32 (dig d32 ys) (M+2)<W32^(M+2):=vf_lt fun i _=>d32_lt _
      have hV0:0<vf W32 (dig d32 ys) (M+2):=by
       rcases Nat.eq_zero_or_pos (vf W32 (dig d32 ys) (M+2))with h | h
       · have:=HUV.out;rw[h]at this;omega
       · exact h
      have hUs:vf W32 (fun i=>dig d32 zs0 (j+i)) (M+3)=vf W32 (fun i=>dig d32 zs0 (j+i)) (M+2)+dig d32 zs0 (j+(M+2))*W32^(M+2):=rfl
      by_cases hcw:cw≤dig d32 zs0 (j+(M+2))
      · have hdc:decide (dig d32 zs0 (j+(M+2))<cw)=false:=decide_eq_false (by omega)
        obtain⟨t1,t2,t3⟩:=take_yes hv1 hUs (Nat.le_of_lt hVlt) hV0 (by rw[←HQ.out];exact hq1) hcw
        have ht4:=hy1 hcw
        rw[hdc]
        have Hfin:Hid (Digit w B g cap zs0 ys j (M+2) (.returned (.int .u32 (n32 (w32 (((q - 1):Nat):Int))))) w3):=hide ⟨⟨zs1,by rw[←t1],hl1,hO1,hz1,by rw[show M+2+1=M+3 from rfl,show vf W32 (fun i=>dig d32 zs1 (j+i)) (M+3)=vf W32 (fun i=>dig d32 zs1 (j+i)) (M+2)+dig d32 zs1 (j+(M+2))*W32^(M+2) from rfl,ht4,t3,t2,Nat.zero_mul,Nat.add_zero]⟩,(Upd.ofExt hEq).trans hU1⟩
        clear t1 t2 t3 ht4 hv1 hy1 hn1 hz1 hl1 hdc hUs hVlt hV0 hq1 hq2 hq3
        go_wp2
        go_ret
        exact Hfin.out
      · have hdc:decide (dig d32 zs0 (j+(M+2))<cw)=true:=decide_eq_true (by omega)
        rw[hdc]
        obtain⟨t1,t2,t3⟩:=take_no hv1 hUs (Nat.le_of_lt hVlt) hV0 (vf_lt fun i _=>d32_lt _) (by rw[←HQ.out];exact hq2) (by omega)
        have ht4:=hn1 t2
        have Hl1:=hide (hl1.trans HN.out)
        have H3:=hide t3
        have H4:=hide ht4
        have H1:=hide (t1.trans (by rw[←HQ.out]))
        have Hz1:=hide hz1
        have hE3:Upd (only g) w w3:=(Upd.ofExt hEq).trans hU1
        have hqI:(1:Int)≤(((q - 1):Nat):Int):=by have:=H1.out;omega
        clear t1 t2 t3 ht4 hv1 hy1 hn1 hz1 hl1 hdc hUs hVlt hV0 hq1 hq2 hq3 hU1 hcw
        try clear hA
        go_wp2_with fail
        go_loopw [85,9] (fun iv cv' wx=>∃(k c:Nat) (zs:List (BitVec 32)),k≤M+2∧iv=.int .i64 k∧cv'=.int .u64 c∧c≤1∧zs.length=N∧Own wx B 71 (some ⟨g,0,none⟩) cap (zs.map by32)∧(∀i,i<j∨j+k≤i→dig d32 zs i=dig d32 zs1 i)∧vf W32 (fun i=>dig d32 zs (j+i)) k+c*W32^k=vf W32 (fun i=>dig d32 zs1 (j+i)) k+vf W32 (dig d32 ys) k∧Upd (only g) w wx) (fun iv _ _=>M+2 - (intOf iv).toNat)
        case atStart=>exact⟨0,0,zs1,Nat.zero_le _,rfl,rfl,Nat.zero_le _,Hl1.out,hO1,fun _ _=>rfl,by simp[vf],hE3⟩
        case round=>
         clear hO1 hE3 w1 p1 p1' p2 p3 p4 p5 p2' hqI lp1 hqi hri hpz la' lb' lc' lp' ls'
         obtain⟨k,c',zs,hk,rfl,rfl,hc',hzl,hO,hz,hv,hU⟩:=hrel
         have Hzl:=hide hzl
         have Hz:=hide hz
         have Hv:=hide hv
         clear hzl hz hv
         by_cases hlt:k<M+2
         · obtain⟨u1,u2⟩:=n32_bd (gat zs (j+k))
           obtain⟨y1,y2⟩:=n32_bd (gat ys k)
           have hcell:=(HS.out.upd hU (fun b o h=>HY.out b (by rw[h];simp[inA]))).cells k (by rw[HM.out];omega)
           have hcz:=hO.row.cell (i:=j+k) (by rw[Hzl.out];omega)
           have hlI:(k:Int)<(M:Int)+2:=by omega
           have hlJ:(k:Int)<(M:Int)+3:=by omega
           clear hlt
           go_wp2_with (refine wpList_store_own by32 one32 (w32 ((c':Int)+(n32 (gat zs (j+k))+n32 (gat ys k)))) rfl rfl Try.n_sz32 rfl rfl hO (by rw[Hzl.out];omega) ?_;intro w4 hO4 hU4)
           have hbn:=back_next Hzl.out (by omega:j+k<N) Hz.out Hv.out
           go_roundw
           case rel=>exact⟨k+1,(c'+d32 (gat zs (j+k))+d32 (gat ys k)) / W32,_,by omega,by go_num,by rw[back_cast];rfl,by have:=d32_lt (gat zs (j+k));have:=d32_lt (gat ys k);unfold W32 at*;omega,by rw[List.length_set];exact Hzl.out,hO4,hbn.1,hbn.2,hU.trans hU4⟩
           case measure=>simp[intOf];omega
         · obtain rfl:k=M+2:=by omega
           have hcz:=hO.row.cell (i:=j+(M+2)) (by rw[Hzl.out];omega)
           obtain⟨u1,u2⟩:=n32_bd (gat zs (j+(M+2)))
           obtain⟨y1,y2⟩:=n32_bd (w32 (c':Int))
           go_wp2_with (refine wpList_store_own by32 one32 (w32 (n32 (gat zs (j+(M+2)))+n32 (w32 (c':Int)))) rfl rfl Try.n_sz32 rfl rfl hO (by rw[Hzl.out];omega) ?_;intro w4 hO4 hU4)
           go_ret
           refine⟨⟨_,?_,by rw[List.length_set,Hzl.out,HN.out],hO4,fun i hi=>?_,?_⟩,hU.trans hU4⟩
           · have e:(((q - 1):Nat):Int) - 1=((Q:Nat):Int):=by have:=H1.out;omega
             rw[e,HQ.out]
             rfl
           · rw[dig_set (by rw[Hzl.out];omega),if_neg (by omega),Hz.out i (by omega)]
             exact Hz1.out i hi
           · have hbe:=back_end Hv.out (vf_lt fun i _=>d32_lt _) hc' H3.out
             have hun:d32 (gat zs (j+(M+2)))=W32 - 1:=(Hz.out (j+(M+2)) (.inr (Nat.le_refl _))).trans H4.out
             have hv0:d32 (w32 (n32 (gat zs (j+(M+2)))+n32 (w32 (c':Int))))=0:=by
              rw[hbe.1,n32_d,hun];rfl
             show vf W32 (fun i=>dig d32 (zs.set (j+(M+2)) _) (j+i)) (M+2)+dig d32 (zs.set (j+(M+2)) _) (j+(M+2))*W32^(M+2)=_
             rw[dig_set (by rw[Hzl.out];omega),if_pos rfl,hv0,Nat.zero_mul,Nat.add_zero,←hbe.2]
             exact vf_congr fun i hi=>by rw[dig_set (by rw[Hzl.out];omega),if_neg (by omega)]
    · go_quiet (fail)
      go_wp2_with fail
      go_roundw
      case rel=>exact⟨q - 1,r+p,by rw[show(q:Int) - 1=((q - 1:Nat):Int) by omega],by go_num,(by have:=Hqr.out;rw[Nat.sub_mul,Nat.one_mul];have h1:1*p≤q*p:=Nat.mul_le_mul_right _ (by omega);omega),by unfold W32;omega,by omega,by have:=HqW.out;omega,hE.drewN _⟩
      case measure=>simp[intOf];have:=HrW.out;unfold W32 at*;omega
  · have gA:(q:Int)<4294967296:=by unfold W32 at hA;omega
    go_wp2_with fail
    obtain⟨qs,hqs⟩:∃qs,qs=q*s:=⟨_,rfl⟩
    obtain⟨rc,hrc⟩:∃rc,rc=r*W32+c:=⟨_,rfl⟩
    have hqsI:(q:Int)*(s:Int)=(qs:Int):=by rw[hqs];simp
    have hqs1:qs≤18446744065119617025:=by
     rw[hqs]
     have:q*s≤4294967295*4294967295:=Nat.mul_le_mul (by omega) (by omega)
     omega
    have e0:IntKind.u64.wrap ((s:Nat):Int)=(s:Int):=IntWalk.u64_in _ (by omega)
    have e1:IntKind.u64.wrap ((q:Int)*(s:Int))=(qs:Int):=by rw[hqsI];exact IntWalk.u64_in _ (by omega)
    have e2:IntKind.u64.wrap ((r:Int)*4294967296)=(r:Int)*4294967296:=IntWalk.u64_in _ (by omega)
    have e3:IntKind.u64.wrap ((c:Nat):Int)=(c:Int):=IntWalk.u64_in _ (by omega)
    have e4:bits .or .u64 ((r:Int)*4294967296) (c:Int)=(rc:Int):=by rw[hrc];exact or_words HrW.out Hlc.out
    have w2:IntKind.i64.wrap (M:Int)=(M:Int):=IntWalk.i64_in _ (by omega)
    have i1:(0:Int)≤(M:Int):=by omega
    have i2:(M:Int)<(M:Int)+2:=by omega
    have i3:(M:Int)<(M:Int)+3:=by omega
    have cs:wr.cell? ⟨b2,o2+M,none⟩=some (.int .u32 (s:Int)):=(hE.cell (World.block_lt_of_cell? w _ Hcell.out.2.2.2.2) (fun h=>h)).trans Hcell.out.2.2.2.2
    have cc:wr.cell? ⟨g,j+M,none⟩=some (.int .u32 (c:Int)):=(hE.cell (World.block_lt_of_cell? w _ Hcell.out.2.2.1) (fun h=>h)).trans Hcell.out.2.2.1
    have Hqs:=hide hqs
    have Hrc:=hide hrc
    clear hqs hrc hqsI hqs1
    by_cases hC:(rc:Int)<(qs:Int)
    · have hQ1:=HI.out q r Hqr.out (.inr (by rw[←Hqs.out,←Hrc.out];omega))
      by_cases hB:(4294967296:Int)≤(r:Int)+(p:Int)
      · go_quiet (fail)
        clear e0 e1 e2 e3 e4 w2
        go_wp2_with fail
        rw[show(q:Int) - 1=((q - 1:Nat):Int) by omega]
        have hEq:Ext w (wr.drewN nq):=hE.drewN _
        have hq2:(q - 1)≤Q+1:=(LO.out (q - 1) (r+p) (by have:=Hqr.out;rw[Nat.sub_mul,Nat.one_mul];have h1:1*p≤q*p:=Nat.mul_le_mul_right _ (by omega);omega) (.inr ⟨by have:=HqW.out;omega,by unfold W32;omega⟩))
        have hq3:(q - 1)≤W32:=(by have:=HqW.out;omega)
        refine(take_any B g cap j (M+2) cu cv (q - 1) (some ⟨b2,o2,none⟩) zs0 ys _ (HO.out.ext hEq) (by rw[HN.out];omega) (by rw[HN.out];omega) HM.out (HS.out.ext hEq) HY.out hq3).mono ?_
        rintro e w3 ⟨⟨zs1,cw,rfl,hl1,hO1,hz1,hv1,hy1,hn1⟩,hU1⟩
        have hq1:Q≤(q - 1):=by omega
        have hVlt:vf W32 (dig d32 ys) (M+2)<W32^(M+2):=vf_lt fun i _=>d32_lt _
        have hV0:0<vf W32 (dig d32 ys) (M+2):=by
         rcases Nat.eq_zero_or_pos (vf W32 (dig d32 ys) (M+2))with h | h
         · have:=HUV.out;rw[h]at this;omega
         · exact h
        have hUs:vf W32 (fun i=>dig d32 zs0 (j+i)) (M+3)=vf W32 (fun i=>dig d32 zs0 (j+i)) (M+2)+dig d32 zs0 (j+(M+2))*W32^(M+2):=rfl
        by_cases hcw:cw≤dig d32 zs0 (j+(M+2))
        · have hdc:decide (dig d32 zs0 (j+(M+2))<cw)=false:=decide_eq_false (by omega)
          obtain⟨t1,t2,t3⟩:=take_yes hv1 hUs (Nat.le_of_lt hVlt) hV0 (by rw[←HQ.out];exact hq1) hcw
          have ht4:=hy1 hcw
          rw[hdc]
          have Hfin:Hid (Digit w B g cap zs0 ys j (M+2) (.returned (.int .u32 (n32 (w32 (((q - 1):Nat):Int))))) w3):=hide ⟨⟨zs1,by rw[←t1],hl1,hO1,hz1,by rw[show M+2+1=M+3 from rfl,show vf W32 (fun i=>dig d32 zs1 (j+i)) (M+3)=vf W32 (fun i=>dig d32 zs1 (j+i)) (M+2)+dig d32 zs1 (j+(M+2))*W32^(M+2) from rfl,ht4,t3,t2,Nat.zero_mul,Nat.add_zero]⟩,(Upd.ofExt hEq).trans hU1⟩
          clear t1 t2 t3 ht4 hv1 hy1 hn1 hz1 hl1 hdc hUs hVlt hV0 hq1 hq2 hq3
          go_wp2
          go_ret
          exact Hfin.out
        · have hdc:decide (dig d32 zs0 (j+(M+2))<cw)=true:=decide_eq_true (by omega)
          rw[hdc]
          obtain⟨t1,t2,t3⟩:=take_no hv1 hUs (Nat.le_of_lt hVlt) hV0 (vf_lt fun i _=>d32_lt _) (by rw[←HQ.out];exact hq2) (by omega)
          have ht4:=hn1 t2
          have Hl1:=hide (hl1.trans HN.out)
          have H3:=hide t3
          have H4:=hide ht4
          have H1:=hide (t1.trans (by rw[←HQ.out]))
          have Hz1:=hide hz1
          have hE3:Upd (only g) w w3:=(Upd.ofExt hEq).trans hU1
          have hqI:(1:Int)≤(((q - 1):Nat):Int):=by have:=H1.out;omega
          clear t1 t2 t3 ht4 hv1 hy1 hn1 hz1 hl1 hdc hUs hVlt hV0 hq1 hq2 hq3 hU1 hcw
          try clear hA
          go_wp2_with fail
          go_loopw [85,9] (fun iv cv' wx=>∃(k c:Nat) (zs:List (BitVec 32)),k≤M+2∧iv=.int .i64 k∧cv'=.int .u64 c∧c≤1∧zs.length=N∧Own wx B 71 (some ⟨g,0,none⟩) cap (zs.map by32)∧(∀i,i<j∨j+k≤i→dig d32 zs i=dig d32 zs1 i)∧vf W32 (fun i=>dig d32 zs (j+i)) k+c*W32^k=vf W32 (fun i=>dig d32 zs1 (j+i)) k+vf W32 (dig d32 ys) k∧Upd (only g) w wx) (fun iv _ _=>M+2 - (intOf iv).toNat)
          case atStart=>exact⟨0,0,zs1,Nat.zero_le _,rfl,rfl,Nat.zero_le _,Hl1.out,hO1,fun _ _=>rfl,by simp[vf],hE3⟩
          case round=>
           clear hO1 hE3 w1 p1 p1' p2 p3 p4 p5 p2' hqI lp1 hqi hri hpz la' lb' lc' lp' ls'
           obtain⟨k,c',zs,hk,rfl,rfl,hc',hzl,hO,hz,hv,hU⟩:=hrel
           have Hzl:=hide hzl
           have Hz:=hide hz
           have Hv:=hide hv
           clear hzl hz hv
           by_cases hlt:k<M+2
           · obtain⟨u1,u2⟩:=n32_bd (gat zs (j+k))
             obtain⟨y1,y2⟩:=n32_bd (gat ys k)
             have hcell:=(HS.out.upd hU (fun b o h=>HY.out b (by rw[h];simp[inA]))).cells k (by rw[HM.out];omega)
             have hcz:=hO.row.cell (i:=j+k) (by rw[Hzl.out];omega)
             have hlI:(k:Int)<(M:Int)+2:=by omega
             have hlJ:(k:Int)<(M:Int)+3:=by omega
             clear hlt
             go_wp2_with (refine wpList_store_own by32 one32 (w32 ((c':Int)+(n32 (gat zs (j+k))+n32 (gat ys k)))) rfl rfl Try.n_sz32 rfl rfl hO (by rw[Hzl.out];omega) ?_;intro w4 hO4 hU4)
             have hbn:=back_next Hzl.out (by omega:j+k<N) Hz.out Hv.out
             go_roundw
             case rel=>exact⟨k+1,(c'+d32 (gat zs (j+k))+d32 (gat ys k)) / W32,_,by omega,by go_num,by rw[back_cast];rfl,by have:=d32_lt (gat zs (j+k));have:=d32_lt (gat ys k);unfold W32 at*;omega,by rw[List.length_set];exact Hzl.out,hO4,hbn.1,hbn.2,hU.trans hU4⟩
             case measure=>simp[intOf];omega
           · obtain rfl:k=M+2:=by omega
             have hcz:=hO.row.cell (i:=j+(M+2)) (by rw[Hzl.out];omega)
             obtain⟨u1,u2⟩:=n32_bd (gat zs (j+(M+2)))
             obtain⟨y1,y2⟩:=n32_bd (w32 (c':Int))
             go_wp2_with (refine wpList_store_own by32 one32 (w32 (n32 (gat zs (j+(M+2)))+n32 (w32 (c':Int)))) rfl rfl Try.n_sz32 rfl rfl hO (by rw[Hzl.out];omega) ?_;intro w4 hO4 hU4)
             go_ret
             refine⟨⟨_,?_,by rw[List.length_set,Hzl.out,HN.out],hO4,fun i hi=>?_,?_⟩,hU.trans hU4⟩
             · have e:(((q - 1):Nat):Int) - 1=((Q:Nat):Int):=by have:=H1.out;omega
               rw[e,HQ.out]
               rfl
             · rw[dig_set (by rw[Hzl.out];omega),if_neg (by omega),Hz.out i (by omega)]
               exact Hz1.out i hi
             · have hbe:=back_end Hv.out (vf_lt fun i _=>d32_lt _) hc' H3.out
               have hun:d32 (gat zs (j+(M+2)))=W32 - 1:=(Hz.out (j+(M+2)) (.inr (Nat.le_refl _))).trans H4.out
               have hv0:d32 (w32 (n32 (gat zs (j+(M+2)))+n32 (w32 (c':Int))))=0:=by
                rw[hbe.1,n32_d,hun];rfl
               show vf W32 (fun i=>dig d32 (zs.set (j+(M+2)) _) (j+i)) (M+2)+dig d32 (zs.set (j+(M+2)) _) (j+(M+2))*W32^(M+2)=_
               rw[dig_set (by rw[Hzl.out];omega),if_pos rfl,hv0,Nat.zero_mul,Nat.add_zero,←hbe.2]
               exact vf_congr fun i hi=>by rw[dig_set (by rw[Hzl.out];omega),if_neg (by omega)]
      · go_quiet (fail)
        clear e0 e1 e2 e3 e4 w2
        go_wp2_with fail
        go_roundw
        case rel=>exact⟨q - 1,r+p,by rw[show(q:Int) - 1=((q - 1:Nat):Int) by omega],by go_num,(by have:=Hqr.out;rw[Nat.sub_mul,Nat.one_mul];have h1:1*p≤q*p:=Nat.mul_le_mul_right _ (by omega);omega),by unfold W32;omega,by omega,by have:=HqW.out;omega,hE.drewN _⟩
        case measure=>simp[intOf];have:=HrW.out;unfold W32 at*;omega
    · have hC':decide ((rc:Int)<(qs:Int))=false:=decide_eq_false hC
      have hCn:decide (rc<qs)=false:=decide_eq_false (by omega)
      have gA':decide ((4294967296:Int)≤(q:Int))=false:=decide_eq_false (by omega)
      have HC:=hide hC
      clear hC
      go_quiet (fail)
      clear e0 e1 e2 e3 e4 w2
      go_wp2_with fail
      clear hC' hCn gA'
      have hEq:Ext w (wr.drewN nq):=hE.drewN _
      have hq2:q≤Q+1:=(LO.out q r Hqr.out (.inl ⟨by unfold W32;omega,by have:=HC.out;rw[←Hqs.out,←Hrc.out];omega⟩))
      have hq3:q≤W32:=(by unfold W32;omega)
      refine(take_any B g cap j (M+2) cu cv q (some ⟨b2,o2,none⟩) zs0 ys _ (HO.out.ext hEq) (by rw[HN.out];omega) (by rw[HN.out];omega) HM.out (HS.out.ext hEq) HY.out hq3).mono ?_
      rintro e w3 ⟨⟨zs1,cw,rfl,hl1,hO1,hz1,hv1,hy1,hn1⟩,hU1⟩
      have hq1:Q≤q:=by omega
      have hVlt:vf W32 (dig d32 ys) (M+2)<W32^(M+2):=vf_lt fun i _=>d32_lt _
      have hV0:0<vf W32 (dig d32 ys) (M+2):=by
       rcases Nat.eq_zero_or_pos (vf W32 (dig d32 ys) (M+2))with h | h
       · have:=HUV.out;rw[h]at this;omega
       · exact h
      have hUs:vf W32 (fun i=>dig d32 zs0 (j+i)) (M+3)=vf W32 (fun i=>dig d32 zs0 (j+i)) (M+2)+dig d32 zs0 (j+(M+2))*W32^(M+2):=rfl
      by_cases hcw:cw≤dig d32 zs0 (j+(M+2))
      · have hdc:decide (dig d32 zs0 (j+(M+2))<cw)=false:=decide_eq_false (by omega)
        obtain⟨t1,t2,t3⟩:=take_yes hv1 hUs (Nat.le_of_lt hVlt) hV0 (by rw[←HQ.out];exact hq1) hcw
        have ht4:=hy1 hcw
        rw[hdc]
        have Hfin:Hid (Digit w B g cap zs0 ys j (M+2) (.returned (.int .u32 (n32 (w32 ((q:Nat):Int))))) w3):=hide ⟨⟨zs1,by rw[←t1],hl1,hO1,hz1,by rw[show M+2+1=M+3 from rfl,show vf W32 (fun i=>dig d32 zs1 (j+i)) (M+3)=vf W32 (fun i=>dig d32 zs1 (j+i)) (M+2)+dig d32 zs1 (j+(M+2))*W32^(M+2) from rfl,ht4,t3,t2,Nat.zero_mul,Nat.add_zero]⟩,(Upd.ofExt hEq).trans hU1⟩
        clear t1 t2 t3 ht4 hv1 hy1 hn1 hz1 hl1 hdc hUs hVlt hV0 hq1 hq2 hq3
        go_wp2
        go_ret
        exact Hfin.out
      · have hdc:decide (dig d32 zs0 (j+(M+2))<cw)=true:=decide_eq_true (by omega)
        rw[hdc]
        obtain⟨t1,t2,t3⟩:=take_no hv1 hUs (Nat.le_of_lt hVlt) hV0 (vf_lt fun i _=>d32_lt _) (by rw[←HQ.out];exact hq2) (by omega)
        have ht4:=hn1 t2
        have Hl1:=hide (hl1.trans HN.out)
        have H3:=hide t3
        have H4:=hide ht4
        have H1:=hide (t1.trans (by rw[←HQ.out]))
        have Hz1:=hide hz1
        have hE3:Upd (only g) w w3:=(Upd.ofExt hEq).trans hU1
        have hqI:(1:Int)≤((q:Nat):Int):=by have:=H1.out;omega
        clear t1 t2 t3 ht4 hv1 hy1 hn1 hz1 hl1 hdc hUs hVlt hV0 hq1 hq2 hq3 hU1 hcw
        try clear hA
        go_wp2_with fail
        go_loopw [85,9] (fun iv cv' wx=>∃(k c:Nat) (zs:List (BitVec 32)),k≤M+2∧iv=.int .i64 k∧cv'=.int .u64 c∧c≤1∧zs.length=N∧Own wx B 71 (some ⟨g,0,none⟩) cap (zs.map by32)∧(∀i,i<j∨j+k≤i→dig d32 zs i=dig d32 zs1 i)∧vf W32 (fun i=>dig d32 zs (j+i)) k+c*W32^k=vf W32 (fun i=>dig d32 zs1 (j+i)) k+vf W32 (dig d32 ys) k∧Upd (only g) w wx) (fun iv _ _=>M+2 - (intOf iv).toNat)
        case atStart=>exact⟨0,0,zs1,Nat.zero_le _,rfl,rfl,Nat.zero_le _,Hl1.out,hO1,fun _ _=>rfl,by simp[vf],hE3⟩
        case round=>
         clear hO1 hE3 w1 p1 p1' p2 p3 p4 p5 p2' hqI lp1 hqi hri hpz la' lb' lc' lp' ls'
         obtain⟨k,c',zs,hk,rfl,rfl,hc',hzl,hO,hz,hv,hU⟩:=hrel
         have Hzl:=hide hzl
         have Hz:=hide hz
         have Hv:=hide hv
         clear hzl hz hv
         by_cases hlt:k<M+2
         · obtain⟨u1,u2⟩:=n32_bd (gat zs (j+k))
           obtain⟨y1,y2⟩:=n32_bd (gat ys k)
           have hcell:=(HS.out.upd hU (fun b o h=>HY.out b (by rw[h];simp[inA]))).cells k (by rw[HM.out];omega)
           have hcz:=hO.row.cell (i:=j+k) (by rw[Hzl.out];omega)
           have hlI:(k:Int)<(M:Int)+2:=by omega
           have hlJ:(k:Int)<(M:Int)+3:=by omega
           clear hlt
           go_wp2_with (refine wpList_store_own by32 one32 (w32 ((c':Int)+(n32 (gat zs (j+k))+n32 (gat ys k)))) rfl rfl Try.n_sz32 rfl rfl hO (by rw[Hzl.out];omega) ?_;intro w4 hO4 hU4)
           have hbn:=back_next Hzl.out (by omega:j+k<N) Hz.out Hv.out
           go_roundw
           case rel=>exact⟨k+1,(c'+d32 (gat zs (j+k))+d32 (gat ys k)) / W32,_,by omega,by go_num,by rw[back_cast];rfl,by have:=d32_lt (gat zs (j+k));have:=d32_lt (gat ys k);unfold W32 at*;omega,by rw[List.length_set];exact Hzl.out,hO4,hbn.1,hbn.2,hU.trans hU4⟩
           case measure=>simp[intOf];omega
         · obtain rfl:k=M+2:=by omega
           have hcz:=hO.row.cell (i:=j+(M+2)) (by rw[Hzl.out];omega)
           obtain⟨u1,u2⟩:=n32_bd (gat zs (j+(M+2)))
           obtain⟨y1,y2⟩:=n32_bd (w32 (c':Int))
           go_wp2_with (refine wpList_store_own by32 one32 (w32 (n32 (gat zs (j+(M+2)))+n32 (w32 (c':Int)))) rfl rfl Try.n_sz32 rfl rfl hO (by rw[Hzl.out];omega) ?_;intro w4 hO4 hU4)
           go_ret
           refine⟨⟨_,?_,by rw[List.length_set,Hzl.out,HN.out],hO4,fun i hi=>?_,?_⟩,hU.trans hU4⟩
           · have e:((q:Nat):Int) - 1=((Q:Nat):Int):=by have:=H1.out;omega
             rw[e,HQ.out]
             rfl
           · rw[dig_set (by rw[Hzl.out];omega),if_neg (by omega),Hz.out i (by omega)]
             exact Hz1.out i hi
           · have hbe:=back_end Hv.out (vf_lt fun i _=>d32_lt _) hc' H3.out
             have hun:d32 (gat zs (j+(M+2)))=W32 - 1:=(Hz.out (j+(M+2)) (.inr (Nat.le_refl _))).trans H4.out
             have hv0:d32 (w32 (n32 (gat zs (j+(M+2)))+n32 (w32 (c':Int))))=0:=by
              rw[hbe.1,n32_d,hun];rfl
             show vf W32 (fun i=>dig d32 (zs.set (j+(M+2)) _) (j+i)) (M+2)+dig d32 (zs.set (j+(M+2)) _) (j+(M+2))*W32^(M+2)=_
             rw[dig_set (by rw[Hzl.out];omega),if_pos rfl,hv0,Nat.zero_mul,Nat.add_zero,←hbe.2]
             exact vf_congr fun i hi=>by rw[dig_set (by rw[Hzl.out];omega),if_neg (by omega)]
end
/- A number divided by one word, walked: small. -/
section
open Go.RowKit Go.Shelf
open Nt
attribute [local go_sem] Oper.semAt_some by32 wrap_w32 steady steadyUpon Cls same_cell
theorem own_kept {W W':World} {row:Option Nat} {B:Nat} {e:TypeId} {g c:Nat} {xs:List Value} (h:_root_.Go.Proofs.Ytbhhjfhepkbfgaa.Own W B e (some ⟨g,0,none⟩) c xs) (hg:W.grownBy W' row) (hr:∀r,row=some r→∃o:Obj,W.heap[r]? =some o∧o.isCells=false):_root_.Go.Proofs.Ytbhhjfhepkbfgaa.Own W' B e (some ⟨g,0,none⟩) c xs:=by
 have hU:Upd (fun k=>row=some k) W W':=⟨hg.os,hg.tape,hg.output,hg.size,fun k hk hn=>hg.block k hk (fun e=>hn e.symm)⟩
 refine h.upd hU (fun k hk hrow=>?_)
 obtain⟨o,ho,hc⟩:=hr k hrow
 rcases h.2 with ⟨h0,_⟩ | ⟨g',cap,cur,hv,hb,hgg,_⟩
 · simp at h0
 · injection hv with hA
   injection hA with hA
   injection hA with hA
   subst hA
   simp[inA]at hk
   subst hk
   rw[hgg]at ho
   injection ho with ho
   subst ho
   simp[Obj.isCells]at hc
theorem box_kept {W W':World} {row:Option Nat} {g:Nat} {t:TypeId} {v:Value} (h:Box W g t v) (hg:W.grownBy W' row) (hr:∀r,row=some r→∃o:Obj,W.heap[r]? =some o∧o.isCells=false):Box W' g t v:=by
 refine(hg.block g h.lt (fun e=>?_)).trans h
 obtain⟨o,ho,hc⟩:=hr g e.symm
 unfold Box at h
 rw[h]at ho
 injection ho with ho
 subst ho
 simp[Obj.isCells]at hc
theorem NatV.kept {W W':World} {row:Option Nat} {v:Value} {n:Nat} (h:NatV W v n) (hg:W.grownBy W' row) (hr:∀r,row=some r→∃o:Obj,W.heap[r]? =some o∧o.isCells=false):NatV W' v n:=by
 obtain⟨s,h0,A,c,xs,h1,h2,h3,h4,h5⟩:=h
 exact⟨s,h0,A,c,xs,h1,h2,h3,(fun i hi=>by obtain⟨b,o,e,hc⟩:=h4 i hi;exact⟨b,o,e,cell_kept hc hg hr⟩),h5⟩
structure Sm (la d:Nat) (xs:List (BitVec 32)) (H G:Nat) (pre:List (Ix la)) (W:World):Prop where
 ex:∃(zs:List (BitVec 32)) (r:Nat),zs.length=la∧r<d∧_root_.Go.Proofs.Ytbhhjfhepkbfgaa.Own W (H+1+1+1+1) 71 (some ⟨H+1+1+1+1,0,none⟩) la (zs.map by32)∧Box W (G+1) 22 (.int .u64 (r:Int))∧
  (Bk pre.length pre→numOf W32 d32 xs=vf W32 (dig d32 zs) la*d+r*W32^(la - pre.length)+vf W32 (dig d32 xs) (la - pre.length)∧∀i,i<la - pre.length→dig d32 zs i=0)
 b1:Box W (H+1) 71 (.int .u32 (d:Int))
 b2:Box W (H+1+1) 33 (.slice none 0 0)
 b3:Box W (H+1+1+1) 33 (.slice none 0 0)
 b5:Box W G 31 (.slice (some ⟨H+1+1+1+1,0,none⟩) la la)
 sz:G+1+1<W.heap.size
theorem Sm.own {la d:Nat} {xs:List (BitVec 32)} {H G:Nat}:_root_.Go.Own (Sm la d xs H G):=fun s A B row hs hg hr=>by
  obtain⟨⟨zs,r,h1,h2,h3,h4,h5⟩,b1,b2,b3,b5,sz⟩:=hs
  exact⟨⟨zs,r,h1,h2,own_kept h3 hg hr,box_kept h4 hg hr,h5⟩,box_kept b1 hg hr,box_kept b2 hg hr,box_kept b3 hg hr,box_kept b5 hg hr,Nat.lt_of_lt_of_le sz hg.size⟩
set_option maxRecDepth 100000 in
set_option maxHeartbeats 4000000 in
theorem small_any (va:Value) (a d k:Nat) (w:World) (hVa:NatV w va a) (hFa:Fit k a) (hk:k≤1000000) (hd0:0<d) (hd:d<W32):
 Calls Try.prog 61 #[va,.int .u32 (d:Int)] w fun e w'=>∃A1 l1 c1 A2 l2 c2,e=.returned (.tuple #[.agg #[.slice A1 l1 c1],.agg #[.slice A2 l2 c2]])∧NatV w' (.agg #[.slice A1 l1 c1]) (a / d)∧NatV w' (.agg #[.slice A2 l2 c2]) (a % d)∧Ext w w':=by
 obtain⟨A,la,ca,xs,rfl,hlx,hca,hma,hSa,hTa,hna⟩:=hVa.open_
 have hla:la≤k:=hlx▸Fit.len (hlx▸hTa) hna hFa
 have HSa:=hide hSa
 have HLa:=hide hlx
 have Hna:=hide hna
 have Hd:=hide hd
 have hdI:(d:Int)≤4294967295:=by unfold W32 at hd;omega
 have hdI0:(1:Int)≤(d:Int):=by omega
 clear hTa hSa hna hlx hVa hFa hd
 refine(callsIn_wide (n:=3)).1 ?_
 refine callsIn_of_wp_marks Try.func61 rfl trivial ?_ rfl
 refine wpIn_wide.2 ?_
 simp only[Try.ntmps61,List.size_toArray,List.length_cons,List.length_nil,Nat.reduceAdd,Nat.reduceSub,Array.replicate_succ,Array.replicate_zero,List.push_toArray,List.append_toArray,List.nil_append,List.cons_append]
 go_wp2_with (first
  | (at_make;go_loud (refine wpList_mk _ _ _ Try.n_el32 rfl rfl la rfl rfl rfl rfl (by omega) (by unfold maxLen;omega) by32 rfl rfl (B:=w.heap.size+1+1+1+1) (by simp) ?_;intro g w2 hO hg hU;have hB0:Box w2 w.heap.size 33 (.slice A la ca):=(by repeat (first | (with_reducible refine Box.new_at ?_;(simp;done)) | (with_reducible assumption) | (with_reducible refine Box.alloc ?_ _) | (with_reducible refine Box.drew ?_) | (with_reducible refine Box.ext ?_ (by with_reducible assumption))));have hB1:Box w2 (w.heap.size+1) 71 (.int .u32 (d:Int)):=(by repeat (first | (with_reducible refine Box.new_at ?_;(simp;done)) | (with_reducible assumption) | (with_reducible refine Box.alloc ?_ _) | (with_reducible refine Box.drew ?_) | (with_reducible refine Box.ext ?_ (by with_reducible assumption))));have hB2:Box w2 (w.heap.size+1+1) 33 (.slice none 0 0):=(by repeat (first | (with_reducible refine Box.new_at ?_;(simp;done)) | (with_reducible assumption) | (with_reducible refine Box.alloc ?_ _) | (with_reducible refine Box.drew ?_) | (with_reducible refine Box.ext ?_ (by with_reducible assumption))));have hB3:Box w2 (w.heap.size+1+1+1) 33 (.slice none 0 0):=(by repeat (first | (with_reducible refine Box.new_at ?_;(simp;done)) | (with_reducible assumption) | (with_reducible refine Box.alloc ?_ _) | (with_reducible refine Box.drew ?_) | (with_reducible refine Box.ext ?_ (by with_reducible assumption))));have hE2:Ext w w2:=(by repeat (first | (with_reducible exact Upd.refl _ _) | (with_reducible assumption) | (refine Upd.setCell ?_ (.inr (by first | exact Nat.le_refl _ | (dsimp only;omega) | (simp;done) | (simp;omega))) _) | (with_reducible refine Upd.alloc ?_ _) | (with_reducible refine Upd.drew ?_) | (with_reducible refine Upd.trans ?_ (by with_reducible assumption))));clear hU;have hz:=(hO.in_ (k:=g) (by simp[inA])).2;rw[hg]at hz;simp at hz;have hz1:w.heap.size<w2.heap.size:=(by omega);have hz2:w.heap.size<w2.heap.size+1:=(by omega);have c1:=hB0.cell))
  | (go_at_call 51;refine(callsIn_wide (n:=3)).1 ((back_in Fence.wide 3 trivial rfl _ _ _ _).mono ?_);rintro e w' ⟨rfl,rfl⟩))
 obtain rfl:g=w.heap.size+1+1+1+1:=by rw[hg];simp
 clear hg
 obtain⟨G,hG⟩:∃G,G=w2.heap.size:=⟨_,rfl⟩
 obtain⟨R,hR⟩:∃R:Nat→Prop,R=fun k=>k=G+1+1∨(0<la∧inA A k):=⟨_,rfl⟩
 have hRn:∀i,R i→i<w.heap.size∨i=G+1+1:=fun i hi=>by
   rw[hR]at hi
   rcases hi with hi | hi
   · exact .inr hi
   · exact .inl (HSa.out.inA_lt (by rw[HLa.out];exact hi.1) hi.2)
 obtain⟨W0,hW0⟩:∃W0,W0=(((w2.alloc (.cells #[.slice (some ⟨w.heap.size+1+1+1+1,0,none⟩) la la] 31)).alloc (.cells #[.int .u64 0] 22)).alloc (.cells #[.slice A la ca] 31)):=⟨_,rfl⟩
 have hz0:W0.heap.size=G+1+1+1:=by rw[hW0,hG];simp
 have bT:Box W0 (G+1+1) 31 (.slice A la ca):=by rw[hW0,hG];exact(by repeat (first | (with_reducible refine Box.new_at ?_;(simp;done)) | (with_reducible assumption) | (with_reducible refine Box.alloc ?_ _) | (with_reducible refine Box.drew ?_) | (with_reducible refine Box.ext ?_ (by with_reducible assumption))))
 have b1:Box W0 (w.heap.size+1) 71 (.int .u32 (d:Int)):=by rw[hW0];exact(by repeat (first | (with_reducible refine Box.new_at ?_;(simp;done)) | (with_reducible assumption) | (with_reducible refine Box.alloc ?_ _) | (with_reducible refine Box.drew ?_) | (with_reducible refine Box.ext ?_ (by with_reducible assumption))))
 have b2:Box W0 (w.heap.size+1+1) 33 (.slice none 0 0):=by rw[hW0];exact(by repeat (first | (with_reducible refine Box.new_at ?_;(simp;done)) | (with_reducible assumption) | (with_reducible refine Box.alloc ?_ _) | (with_reducible refine Box.drew ?_) | (with_reducible refine Box.ext ?_ (by with_reducible assumption))))
 have b3:Box W0 (w.heap.size+1+1+1) 33 (.slice none 0 0):=by rw[hW0];exact(by repeat (first | (with_reducible refine Box.new_at ?_;(simp;done)) | (with_reducible assumption) | (with_reducible refine Box.alloc ?_ _) | (with_reducible refine Box.drew ?_) | (with_reducible refine Box.ext ?_ (by with_reducible assumption))))
 have b5:Box W0 G 31 (.slice (some ⟨w.heap.size+1+1+1+1,0,none⟩) la la):=by rw[hW0,hG];exact((Box.new _ _ _).alloc _).alloc _
 have b6:Box W0 (G+1) 22 (.int .u64 ((0:Nat):Int)):=by rw[hW0,hG];exact Box.alloc (Box.new_at (by simp)) _
 have hE0:Ext w W0:=by rw[hW0];exact(by repeat (first | (with_reducible exact Upd.refl _ _) | (with_reducible assumption) | (refine Upd.setCell ?_ (.inr (by first | exact Nat.le_refl _ | (dsimp only;omega) | (simp;done) | (simp;omega))) _) | (with_reducible refine Upd.alloc ?_ _) | (with_reducible refine Upd.drew ?_) | (with_reducible refine Upd.trans ?_ (by with_reducible assumption))))
 have hEw:Ext w2 W0:=by rw[hW0];exact(by repeat (first | (with_reducible exact Upd.refl _ _) | (with_reducible assumption) | (refine Upd.setCell ?_ (.inr (by first | exact Nat.le_refl _ | (dsimp only;omega) | (simp;done) | (simp;omega))) _) | (with_reducible refine Upd.alloc ?_ _) | (with_reducible refine Upd.drew ?_) | (with_reducible refine Upd.trans ?_ (by with_reducible assumption))))
 have hO0:=hO.ext hEw
 have hGw:w.heap.size+1+1+1+1<G:=by rw[hG];exact hz
 rw[←hW0,←hG]
 clear hW0 hO hB0 hB1 hB2 hB3 hz hz1 hz2 c1 hG
 have HR:=hide hR
 have HRn:=hide hRn
 have Hz0:=hide hz0
 clear hR hRn hz0
 refine(wpIn_wide (n:=3)).1 ?_
 refine wpIn_rangeFunc_ownG rfl (by omega) (gf:=81) (lb:=#[.pointer (some ⟨G+1+1,0,none⟩)]) rfl trivial (enters_of Try.func81 (by kernel_rfl) rfl)
   (back_stops Fence.wide (3 - 1) trivial rfl (by omega) (G+1+1) R A la ca xs HLa.out (by omega) W0 (by rw[HR.out];exact .inl rfl) (by rw[Hz0.out];omega) bT.cell (HSa.out.ext hE0) (fun h0 k h=>by rw[HR.out];exact .inr ⟨h0,h⟩)) Kept.t (Kept.b (fun i hi=>by have:=HRn.out i hi;rw[Hz0.out];omega)) (Below.refl _ _) (fun _=>rfl)
   (fun pre W=>Sm la d xs w.heap.size G pre W∧Below w.heap.size w W) (fun _ _ _=>False)
   (OwnFrom.and (_root_.Go.Own.from Sm.own _) (ownFrom_below (Nat.le_refl _) (by rw[Hz0.out];omega))) (fun _ _ _ _ _ hs _ _=>hs)
   ⟨⟨⟨_,0,List.length_replicate,hd0,hO0,b6,fun _=>⟨by rw[Nat.zero_mul,Nat.add_zero,show vf W32 (dig d32 (List.replicate la default)) la=0 from vf_zeros (f0:=fun _=>0),Nat.zero_mul,Nat.zero_add];unfold numOf;rw[HLa.out];rfl,fun i _=>dig_zeros _ _⟩⟩,b1,b2,b3,b5,by rw[Hz0.out];omega⟩,hE0.below⟩
   (fun x=>{tmps:=#[.agg #[.slice A la ca],.int .u32 (d:Int),.pointer (some ⟨w.heap.size,0,none⟩),.pointer (some ⟨w.heap.size+1,0,none⟩),.pointer (some ⟨w.heap.size+1+1,0,none⟩),.pointer (some ⟨w.heap.size+1+1+1,0,none⟩),.pointer (some ⟨G,0,none⟩),.pointer (some ⟨G+1,0,none⟩),.int .i64 (x.1:Int),.int .u32 (n32 (gat xs x.1)),.pointer (some ⟨w.heap.size,0,none⟩),.slice A la ca,.int .i64 la,.slice (some ⟨w.heap.size+1+1+1+1,0,none⟩) la la,.pointer (some ⟨w.heap.size,0,none⟩),.slice A la ca,.func (.func 81) #[] #[.pointer (some ⟨G+1+1,0,none⟩)],.int .i64 (x.1:Int),.int .u32 (n32 (gat xs x.1)),undef,undef,undef,undef,undef,undef,undef,undef,undef,undef,undef,undef,undef,undef,undef,undef,undef,undef,undef,undef,undef],defers:=[]}) ?assign ?body ?done ?stop
 case assign=>
  intro l x W K hK
  dsimp only[bkv]
  gi_wp2
  exact hK
 case stop=>
  rintro D c pre W _ _ h _
  exact h.elim
 case body=>
  rintro l pre x W ⟨⟨⟨zs,r,hzl,hrd,hO,hb6,hrel⟩,hb1,hb2,hb3,hb5,hsz⟩,hBl⟩ hpl
  have hxl:=x.2
  obtain⟨y,hy⟩:∃y,y=d32 (gat xs x.1):=⟨_,rfl⟩
  have hyb:y<W32:=by rw[hy];exact d32_lt _
  have hn:n32 (gat xs x.1)=(y:Int):=by rw[hy];rfl
  have e4:bits .or .u64 ((r:Int)*4294967296) (y:Int)=((r*W32+y:Nat):Int):=or_words (by have:=Hd.out;omega) hyb
  obtain⟨T,hT⟩:∃T,T=r*W32+y:=⟨_,rfl⟩
  rw[←hT]at e4
  have hrI:(r:Int)≤4294967295:=by omega
  have hyI:(y:Int)≤4294967295:=by unfold W32 at hyb;omega
  have hTI:(T:Int)≤18446744073709551615:=by rw[hT];unfold W32;omega
  have c1:=hb1.cell
  have c5:=hb5.cell
  have c6:=hb6.cell
  have f6:=hb6.frozen
  have c7:=hO.row.cell (i:=x.1) (by rw[hzl];omega)
  have f7:=hO.row.frozen x.1
  have hdz:¬d=0:=by omega
  have HT:=hide hT
  have Hy:=hide hy
  have Hyb:=hide hyb
  clear hT hy hyb
  rw[hn]
  clear hn
  gi_wp2
  have hlt:∀g,g<G→g≠G+1:=fun g h=>by omega
  have hU1:Upd (only (G+1)) W (W.setCell ⟨G+1,0,none⟩ (.int .u64 (T:Int))):=(Upd.refl (only (G+1)) W).setCell (p:=⟨G+1,0,none⟩) (.inl rfl) _
  have g1:=hb1.upd hU1 (fun h=>by unfold only at h;omega)
  have g2:=hb2.upd hU1 (fun h=>by unfold only at h;omega)
  have g3:=hb3.upd hU1 (fun h=>by unfold only at h;omega)
  have g5:=hb5.upd hU1 (fun h=>by unfold only at h;omega)
  have g6:=hb6.set (.int .u64 (T:Int))
  have gO:=hO.upd hU1 (fun k hk h=>by unfold only at h;simp[inA]at hk;omega)
  have kB:Below w.heap.size w (W.setCell ⟨G+1,0,none⟩ (.int .u64 (T:Int))):=hBl.setCell (p:=⟨G+1,0,none⟩) (by simp;omega) _
  have kO:KeepsFrom W0.heap.size W (W.setCell ⟨G+1,0,none⟩ (.int .u64 (T:Int))):=(KeepsOthers.setCell _ _ _).from _
  have kR:Kept R W (W.setCell ⟨G+1,0,none⟩ (.int .u64 (T:Int))):=Kept.setCell (p:=⟨G+1,0,none⟩) (fun h=>by have:=HRn.out _ h;simp at this;omega) _
  obtain⟨W1,hW1⟩:∃W1,W1=W.setCell ⟨G+1,0,none⟩ (.int .u64 (T:Int)):=⟨_,rfl⟩
  rw[←hW1]at g1 g2 g3 g5 g6 gO kB kO kR hU1 ⊢
  clear hW1 hb1 hb2 hb3 hb5 hb6 hO c1 c5 c6 f6 c7 f7 hBl e4
  have c1:=(g1.drew).cell
  have c5:=(g5.drew).cell
  have c6:=(g6.drew).cell
  obtain⟨qn,hqn⟩:∃qn,qn=T / d:=⟨_,rfl⟩
  obtain⟨rn,hrn⟩:∃rn,rn=T % d:=⟨_,rfl⟩
  have hTd:((T / d:Nat):Int)=(T:Int) / (d:Int):=rfl
  have hTd2:((T % d:Nat):Int)=(T:Int) % (d:Int):=rfl
  have e1:IntKind.u64.wrap ((d:Nat):Int)=(d:Int):=IntWalk.u64_in _ (by omega)
  have e2:IntKind.u64.wrap ((T:Int) / (d:Int))=(qn:Int):=by rw[hqn,hTd];exact IntWalk.u64_in _ ⟨Int.ediv_nonneg (by omega) (by omega),Int.le_trans (Int.ediv_le_self _ (by omega)) hTI⟩
  have x0:(0:Int)≤(x.1:Int):=by omega
  have x1:(x.1:Int)<(la:Int):=by omega
  have Hqn:=hide hqn
  have Hrn:=hide hrn
  clear hqn hrn hTd hTd2
  refine wpIn_region_plan (Same _) 8 [(false,0),(false,1),(false,2),(false,3),(false,4),(false,5),(false,6),(false,7)] (by kernel_rfl) (by kernel_rfl) (by kernel_rfl) rfl (fun hne=>?_)
  repeat (refine head_q rfl (fun K hK=>?_);have hK2:=hide hK;clear hK;go_simp;refine hK2.out _ ?_;clear hK2 K)
  refine head_nil ?_
  try simp only[List.drop_succ_cons,List.drop_zero]
  go_wp2_with (refine wpList_store_own by32 one32 (w32 (qn:Int)) rfl rfl Try.n_sz32 rfl rfl (gO.ext (Upd.refl _ _).drew) (by rw[hzl];exact hxl) ?_;intro W2 hO2 hU2)
  have hGW:W1.drew.grownBy W2 (some (w.heap.size+1+1+1+1)):=⟨hU2.os,hU2.tape,hU2.output,hU2.size,fun k hk hne=>hU2.block k hk (fun h=>hne (by rw[h]))⟩
  have k1:=g1.drew.upd hU2 (fun h=>by unfold only at h;omega)
  have k2:=g2.drew.upd hU2 (fun h=>by unfold only at h;omega)
  have k3:=g3.drew.upd hU2 (fun h=>by unfold only at h;omega)
  have k5:=g5.drew.upd hU2 (fun h=>by unfold only at h;omega)
  have k6:=g6.drew.upd hU2 (fun h=>by unfold only at h;omega)
  have kB2:Below w.heap.size w W2:=(kB.drew).grown hGW kB.size (fun k e=>by injection e with e;omega)
  have kO2:KeepsFrom W0.heap.size W W2:=kO.trans (((KeepsOthers.drew W1).from _).trans (KeepsFrom.of_grownBy hGW (fun j e=>by injection e with e;rw[Hz0.out];omega)))
  have kR2:Kept R W W2:=kR.t (fun k hk=>hU2.block k (by have h1:=HRn.out k hk;have h2:=hU1.size;have h3:=g5.lt;show k<W1.heap.size;omega) (fun h=>by unfold only at h;have:=HRn.out k hk;omega))
  clear g1 g2 g3 g5 g6 gO kB kO kR hU1 hU2 c1 c5 c6 e2
  have c1:=k1.cell
  have c6:=k6.cell
  have f6:=k6.frozen
  have e3:(T:Int).tmod (d:Int)=(rn:Int):=by rw[Hrn.out];exact IntWalk.rem_in _ _ (by omega)
  have e4:(T:Int) % (d:Int)=(rn:Int):=by rw[Hrn.out];rfl
  have HRd:=hide hrd
  gi_wp2
  have hU3:Upd (only (G+1)) W2 (W2.setCell ⟨G+1,0,none⟩ (.int .u64 (rn:Int))):=(Upd.refl (only (G+1)) W2).setCell (p:=⟨G+1,0,none⟩) (.inl rfl) _
  refine⟨kO2.trans ((KeepsOthers.setCell _ _ _).from _),kR2.t (Kept.setCell (p:=⟨G+1,0,none⟩) (fun h=>by have:=HRn.out _ h;simp at this;omega) _),⟨⟨zs.set x.1 (w32 (qn:Int)),rn,by rw[List.length_set];exact hzl,by rw[Hrn.out];exact Nat.mod_lt _ (by omega),hO2.upd hU3 (fun k hk h=>by unfold only at h;simp[inA]at hk;omega),k6.set _,fun hb=>?_⟩,k1.upd hU3 (fun h=>by unfold only at h;omega),k2.upd hU3 (fun h=>by unfold only at h;omega),k3.upd hU3 (fun h=>by unfold only at h;omega),k5.upd hU3 (fun h=>by unfold only at h;omega),by have h2:=kO2.size;simp;omega⟩,kB2.setCell (p:=⟨G+1,0,none⟩) (by simp;omega) _⟩
  have hl1:(pre++[x]).length=pre.length+1:=by simp
  rw[hl1]at hb ⊢
  obtain⟨j,hj,hbj,hxj⟩:=hb.last
  obtain rfl:j=pre.length:=by omega
  obtain⟨hv,hz⟩:=hrel hbj
  have hi:la - pre.length=x.1+1:=by omega
  rw[hi]at hv hz
  have hi2:la - (pre.length+1)=x.1:=by omega
  rw[hi2]
  have hqd:d32 (w32 (qn:Int))=(r*W32+dig d32 xs x.1) / d:=by
   rw[d32_w32,Hqn.out,HT.out,Hy.out]
   exact Nat.mod_eq_of_lt (small_lt HRd.out (d32_lt _))
  refine⟨?_,fun i hi'=>by rw[dig_set (by omega),if_neg (by omega)];exact hz i (by omega)⟩
  have:=small_step (β:=W32) (a:=dig d32 xs) (o:=dig d32 zs) (o':=dig d32 (zs.set x.1 (w32 (qn:Int)))) (n:=la) (i:=x.1) hxl hv (hz _ (by omega)) (by funext i;rw[dig_set (by omega),hqd])
  rw[this,Hrn.out,HT.out,Hy.out]
  rfl
 case done=>
  rintro D ys' W hD hBk ⟨⟨⟨zs,r,hzl,hrd,hO,hb6,hrel⟩,hb1,hb2,hb3,hb5,hsz⟩,hBl⟩ hK
  have hbk:=hBk.length
  obtain⟨hv, -⟩:=hrel (by rw[hbk];exact hBk)
  rw[hbk,Nat.sub_self,Nat.pow_zero,Nat.mul_one]at hv
  have hdm:=divmod_of (V:=numOf W32 d32 xs) (q:=vf W32 (dig d32 zs) la) (d:=d) (r:=r) (by rw[hv];rfl) hrd
  have Hdm:=hide hdm
  have Hzl:=hide hzl
  clear hdm hv hrel hbk hzl
  go_wp2_with fail
  obtain⟨T2,hT2⟩:∃T2:Nat→Prop,T2=fun k=>k=w.heap.size+1+1∨k=w.heap.size+1+1+1:=⟨_,rfl⟩
  have hn5:¬T2 G:=by rw[hT2];omega
  have hn6:¬T2 (G+1):=by rw[hT2];omega
  have ht2:T2 (w.heap.size+1+1):=by rw[hT2];exact .inl rfl
  have ht3:T2 (w.heap.size+1+1+1):=by rw[hT2];exact .inr rfl
  clear hT2
  have c5:=fun x:Wd (Upd T2 W.drew)=>(x.ok.cell (p:=⟨G,0,none⟩) hb5.lt hn5).trans hb5.cell
  have c6:=fun x:Wd (Upd T2 W.drew)=>(x.ok.cell (p:=⟨G+1,0,none⟩) hb6.lt hn6).trans hb6.cell
  have hr64:r<18446744073709551616:=by have:=Hd.out;unfold W32 at this;omega
  have HO:=hide hO
  have Hr64:=hide hr64
  clear hO hr64
  refine wp_region_plan (Upd T2 _) 5 [(false,0),(false,2),(true,1),(true,3),(true,4)] (by kernel_rfl) (by kernel_rfl) (Upd.refl _ _) (fun hne=>?_)
  repeat (refine head_q rfl (fun K hK=>?_);have hK2:=hide hK;clear hK;go_simp;refine hK2.out _ ?_;clear hK2 K)
  clear c5 c6
  refine head_l rfl ?_
  go_wp2_with fail
  refine(trim_any _ la la zs _ Hzl.out (Nat.le_refl _) (by unfold maxLen;omega) (HO.out.ext (Upd.refl _ _).drew).sl).mono ?_
  rintro e W5 ⟨A5,l5,c5,rfl,hV5,hU5⟩
  go_wp2_with fail
  refine⟨Cls (Upd T2 W.drew),fun _ h=>h,⟨⟨_,Upd.ofExt hU5⟩,rfl⟩,?_⟩
  refine head_l rfl ?_
  go_wp2_with fail
  refine(new_any r _ Hr64.out).mono ?_
  rintro e W6 ⟨A6,l6,c6,rfl,hV6,hU6⟩
  go_wp2_with fail
  have hV5':=hV5.ext hU6
  have hE6:Ext W W6:=hU5.undrew.trans hU6
  have m2:=hb2.ext hE6
  have m3:=hb3.ext hE6
  refine⟨Cls (Upd T2 W.drew),fun _ h=>h,⟨⟨_,Upd.ofExt (hU5.trans hU6)⟩,rfl⟩,?_⟩
  refine head_l rfl ?_
  have cm2:=m2.cell
  have fm2:=m2.frozen
  go_wp2_with fail
  refine⟨Cls (Upd T2 W.drew),fun _ h=>h,⟨⟨_,(Upd.ofExt (hU5.trans hU6)).setCell (.inl ht2) _⟩,rfl⟩,?_⟩
  refine head_nil ?_
  try simp only[List.drop_succ_cons,List.drop_zero]
  have n3:=m3.far (p:=⟨w.heap.size+1+1,0,none⟩) (by simp) (.slice A5 l5 c5)
  have cm3:=n3.cell
  have fm3:=n3.frozen
  go_wp2
  have hK6:W6.heap[D]? =some (.deferred (some [])):=(hE6.block D (Array.getElem?_eq_some_iff.1 hK).1 (fun h=>h)).trans hK
  have hK7:=(KeepsOthers.setCell (W6.setCell ⟨w.heap.size+1+1,0,none⟩ (.slice A5 l5 c5)) ⟨w.heap.size+1+1+1,0,none⟩ (.slice A6 l6 c6)).same D _ ((KeepsOthers.setCell W6 ⟨w.heap.size+1+1,0,none⟩ (.slice A5 l5 c5)).same D _ hK6 rfl) rfl
  have p2:Box ((W6.setCell ⟨w.heap.size+1+1,0,none⟩ (.slice A5 l5 c5)).setCell ⟨w.heap.size+1+1+1,0,none⟩ (.slice A6 l6 c6)) (w.heap.size+1+1) 33 (.slice A5 l5 c5):=(m2.set (.slice A5 l5 c5)).far (p:=⟨w.heap.size+1+1+1,0,none⟩) (by simp) _
  have p3:=n3.set (.slice A6 l6 c6)
  have v5:=(hV5'.far (v:=.slice A5 l5 c5) cm2).far (v:=.slice A6 l6 c6) cm3
  have v6:=(hV6.far (v:=.slice A5 l5 c5) cm2).far (v:=.slice A6 l6 c6) cm3
  have hE7:Ext w ((W6.setCell ⟨w.heap.size+1+1,0,none⟩ (.slice A5 l5 c5)).setCell ⟨w.heap.size+1+1+1,0,none⟩ (.slice A6 l6 c6)):=(((ext_of_below hBl).trans hE6).setCell (p:=⟨w.heap.size+1+1,0,none⟩) (.inr (by simp;omega)) _).setCell (p:=⟨w.heap.size+1+1+1,0,none⟩) (.inr (by simp;omega)) _
  refine⟨by simp,.inl ⟨_,_,rfl,run_takeDeferred hK7,?_⟩⟩
  have hgr:=grownBy_putObj' ((W6.setCell ⟨w.heap.size+1+1,0,none⟩ (.slice A5 l5 c5)).setCell ⟨w.heap.size+1+1+1,0,none⟩ (.slice A6 l6 c6)) D (.deferred none)
  have hrow:∀r,some D=some r→∃o:Obj,((W6.setCell ⟨w.heap.size+1+1,0,none⟩ (.slice A5 l5 c5)).setCell ⟨w.heap.size+1+1+1,0,none⟩ (.slice A6 l6 c6)).heap[r]? =some o∧o.isCells=false:=fun r e=>by cases e;exact⟨_,hK7,rfl⟩
  have q2:=(box_kept p2 hgr hrow).cell
  have q3:=(box_kept p3 hgr hrow).cell
  exact⟨.tuple #[.agg #[.slice A5 l5 c5],.agg #[.slice A6 l6 c6]],by simp[results,Try.f61,go_sem,q2,q3],A5,l5,c5,A6,l6,c6,rfl,(v5.kept hgr hrow).of_eq (by rw[←Hna.out,Hdm.out.1];unfold numOf;rw[Hzl.out]),(v6.kept hgr hrow).of_eq (by rw[←Hna.out,Hdm.out.2]),hE7.grown hgr (fun k e=>by injection e with e;rw[Hz0.out]at hD;exact .inr (by omega))⟩
end
/- Division of numbers, walked: the plain cases. -/
section
open Go.RowKit
open Nt
attribute [local go_sem] by32 wrap_w32 steady steadyUpon Cls same_cell
def RetD (w:World) (q r:Nat) (t:Int) (e:Ending) (w':World):Prop:=∃A1 l1 c1 A2 l2 c2,e=.returned (.tuple #[.agg #[.slice A1 l1 c1],.agg #[.slice A2 l2 c2],.int .i64 t])∧NatV w' (.agg #[.slice A1 l1 c1]) q∧NatV w' (.agg #[.slice A2 l2 c2]) r∧Ext w w'
set_option maxRecDepth 100000 in
set_option maxHeartbeats 1000000 in
theorem div_less (va vb:Value) (a b k:Nat) (w:World) (hVa:NatV w va a) (hVb:NatV w vb b) (hFa:Fit k a) (hFb:Fit k b) (hk:k≤1000000) (hab:a<b):
 Calls Try.prog 29 #[va,vb] w (RetD w 0 a 0):=by
 obtain⟨A,la,ca,xs,rfl, -⟩:=hVa.open_
 obtain⟨B,lb,cb,ys,rfl, -⟩:=hVb.open_
 have hcn:cmpI a b<0:=by rw[cmpI_neg];exact hab
 have hb0:¬b=0:=by omega
 go_enter Try.func29,Try.ntmps29
 go_wp2_with (first
  | (go_at_call 30;go_must (refine(zero_any _ b _ (hVb.ext (by repeat (first | (with_reducible exact Upd.refl _ _) | (with_reducible assumption) | (refine Upd.setCell ?_ (.inr (by first | exact Nat.le_refl _ | (dsimp only;omega) | (simp;done) | (simp;omega))) _) | (with_reducible refine Upd.alloc ?_ _) | (with_reducible refine Upd.drew ?_) | (with_reducible refine Upd.trans ?_ (by with_reducible assumption)))))).mono ?_);rintro e w4 ⟨rfl,hU4⟩;have hB2:Box w4 w.heap.size 33 (.slice A la ca):=(by repeat (first | (with_reducible refine Box.new_at ?_;(simp;done)) | (with_reducible assumption) | (with_reducible refine Box.alloc ?_ _) | (with_reducible refine Box.drew ?_) | (with_reducible refine Box.ext ?_ (by with_reducible assumption))));have hB3:Box w4 (w.heap.size+1) 33 (.slice B lb cb):=(by repeat (first | (with_reducible refine Box.new_at ?_;(simp;done)) | (with_reducible assumption) | (with_reducible refine Box.alloc ?_ _) | (with_reducible refine Box.drew ?_) | (with_reducible refine Box.ext ?_ (by with_reducible assumption))));have hB4:Box w4 (w.heap.size+1+1) 33 (.slice none 0 0):=(by repeat (first | (with_reducible refine Box.new_at ?_;(simp;done)) | (with_reducible assumption) | (with_reducible refine Box.alloc ?_ _) | (with_reducible refine Box.drew ?_) | (with_reducible refine Box.ext ?_ (by with_reducible assumption))));have hB5:Box w4 (w.heap.size+1+1+1) 33 (.slice none 0 0):=(by repeat (first | (with_reducible refine Box.new_at ?_;(simp;done)) | (with_reducible assumption) | (with_reducible refine Box.alloc ?_ _) | (with_reducible refine Box.drew ?_) | (with_reducible refine Box.ext ?_ (by with_reducible assumption))));have hE4:Ext w w4:=(by repeat (first | (with_reducible exact Upd.refl _ _) | (with_reducible assumption) | (refine Upd.setCell ?_ (.inr (by first | exact Nat.le_refl _ | (dsimp only;omega) | (simp;done) | (simp;omega))) _) | (with_reducible refine Upd.alloc ?_ _) | (with_reducible refine Upd.drew ?_) | (with_reducible refine Upd.trans ?_ (by with_reducible assumption))));have c2:=hB2.cell;have c3:=hB3.cell;clear hU4)
  | (go_at_call 20;go_must (refine(cmp_any _ _ a b k _ (hVa.ext (by repeat (first | (with_reducible exact Upd.refl _ _) | (with_reducible assumption) | (refine Upd.setCell ?_ (.inr (by first | exact Nat.le_refl _ | (dsimp only;omega) | (simp;done) | (simp;omega))) _) | (with_reducible refine Upd.alloc ?_ _) | (with_reducible refine Upd.drew ?_) | (with_reducible refine Upd.trans ?_ (by with_reducible assumption))))) (hVb.ext (by repeat (first | (with_reducible exact Upd.refl _ _) | (with_reducible assumption) | (refine Upd.setCell ?_ (.inr (by first | exact Nat.le_refl _ | (dsimp only;omega) | (simp;done) | (simp;omega))) _) | (with_reducible refine Upd.alloc ?_ _) | (with_reducible refine Upd.drew ?_) | (with_reducible refine Upd.trans ?_ (by with_reducible assumption))))) hFa hFb hk).mono ?_);rintro e w5 ⟨rfl,hU5⟩;have hE5:=hE4.trans hU5;have hB2':=hB2.ext hU5;have hB4':=hB4.ext hU5;have hB5':=hB5.ext hU5;clear hB2 hB3 hB4 hB5 hU5 hE4 c2 c3))
 obtain⟨T2,hT2⟩:∃T2:Nat→Prop,T2=fun k=>k=w.heap.size+1+1∨k=w.heap.size+1+1+1:=⟨_,rfl⟩
 have ht4:T2 (w.heap.size+1+1):=by rw[hT2];exact .inl rfl
 have ht5:T2 (w.heap.size+1+1+1):=by rw[hT2];exact .inr rfl
 have hn2:¬T2 w.heap.size:=by rw[hT2];omega
 clear hT2 hcn
 have c2:=fun x:Wd (Upd T2 w5.drew)=>(x.ok.cell (p:=⟨w.heap.size,0,none⟩) hB2'.lt hn2).trans hB2'.cell
 refine wp_region_plan (Upd T2 _) 4 [(false,0),(false,1),(true,2),(true,3)] (by kernel_rfl) (by kernel_rfl) (Upd.refl _ _) (fun hne=>?_)
 repeat (refine head_q rfl (fun K hK=>?_);have hK2:=hide hK;clear hK;go_simp;refine hK2.out _ ?_;clear hK2 K)
 clear c2
 refine head_l rfl ?_
 have cm4:=hB4'.drew.cell
 have fm4:=hB4'.drew.frozen
 go_wp2_with fail
 refine⟨Cls (Upd T2 w5.drew),fun _ h=>h,⟨⟨_,(Upd.refl T2 _).setCell (p:=⟨w.heap.size+1+1,0,none⟩) (.inl ht4) _⟩,rfl⟩,?_⟩
 refine head_l rfl ?_
 have cm5:=(hB5'.far (p:=⟨w.heap.size+1+1,0,none⟩) (by simp) (.slice none 0 0)).drew.cell
 have fm5:=(hB5'.far (p:=⟨w.heap.size+1+1,0,none⟩) (by simp) (.slice none 0 0)).drew.frozen
 go_wp2_with fail
 refine⟨Cls (Upd T2 w5.drew),fun _ h=>h,⟨⟨_,((Upd.refl T2 _).setCell (p:=⟨w.heap.size+1+1,0,none⟩) (.inl ht4) _).setCell (p:=⟨w.heap.size+1+1+1,0,none⟩) (.inl ht5) _⟩,rfl⟩,?_⟩
 refine head_nil ?_
 try simp only[List.drop_succ_cons,List.drop_zero]
 go_wp2
 have q4:=((hB4'.set (.slice none 0 0)).far (p:=⟨w.heap.size+1+1+1,0,none⟩) (by simp) (.slice A la ca)).drew.cell
 have q5:=((hB5'.far (p:=⟨w.heap.size+1+1,0,none⟩) (by simp) (.slice none 0 0)).set (.slice A la ca)).drew.cell
 have hVx:=((hVa.ext hE5).far (v:=.slice none 0 0) hB4'.cell).far (v:=.slice A la ca) cm5
 exact bodyPost_ret (v:=.tuple #[.agg #[.slice none 0 0],.agg #[.slice A la ca],.int .i64 0]) (by simp[results,Try.results29,go_sem,q4,q5]) rfl ⟨_,_,_,_,_,_,rfl,NatV.nil _,hVx,(hE5.drew.setCell (p:=⟨w.heap.size+1+1,0,none⟩) (.inr (by simp;omega)) _).setCell (p:=⟨w.heap.size+1+1+1,0,none⟩) (.inr (by simp;omega)) _⟩
end
/- Division of numbers by a number of one word, walked. -/
section
open Go.RowKit
open Nt
attribute [local go_sem] by32 wrap_w32 steady steadyUpon Cls same_cell
def Zb (w:World) (b:Nat):Prop:=∃t A l c,Box w b t (.slice A l c)
theorem NatV.change {w w':World} {v:Value} {n:Nat} {T:Nat→Prop} (h:NatV w v n) (hU:Upd T w w') (hT:∀b,T b→Zb w b):NatV w' v n:=by
 obtain⟨s,h0,A,c,xs,h1,h2,h3,h4,h5⟩:=h
 refine⟨s,h0,A,c,xs,h1,h2,h3,(fun i hi=>?_),h5⟩
 obtain⟨b,o,e,hc⟩:=h4 i hi
 refine⟨b,o,e,?_⟩
 rw[←hc]
 refine hU.cell (p:=⟨b,o+i,none⟩) (World.block_lt_of_cell? w _ hc) (fun ht=>?_)
 obtain⟨t,A',l,c',hb⟩:=hT _ ht
 unfold Box at hb
 simp only[World.cell?,hb]at hc
 rcases Nat.eq_zero_or_pos (o+i)with h0 | h0
 · rw[h0]at hc;simp[by32]at hc
 · rw[Array.getElem?_eq_none (by simp only[List.size_toArray,List.length_cons,List.length_nil];omega)]at hc;cases hc
theorem one_word {ys:List (BitVec 32)} {lb b:Nat} (hl:ys.length=lb) (hT:Trd (dig d32 ys) lb) (hn:numOf W32 d32 ys=b) (h0:0<b) (hb:b<W32):lb=1∧n32 (gat ys 0)=(b:Int):=by
 subst hl
 have h1:ys.length≤1:=Fit.len hT hn (by unfold Fit;rw[Nat.pow_one];exact hb)
 have h2:ys.length≠0:=fun e=>by
   unfold numOf at hn
   rw[e]at hn
   simp[vf]at hn
   omega
 have h3:ys.length=1:=by omega
 refine⟨h3,?_⟩
 unfold numOf at hn
 rw[h3]at hn
 simp[vf]at hn
 rw[n32_d,←hn]
 unfold dig
 rfl
def TwoN (v:Value) (w:World) (q r:Nat):Prop:=∃A1 l1 c1 A2 l2 c2,v=.tuple #[.agg #[.slice A1 l1 c1],.agg #[.slice A2 l2 c2]]∧NatV w (.agg #[.slice A1 l1 c1]) q∧NatV w (.agg #[.slice A2 l2 c2]) r
def OneN (v:Value) (w:World) (q:Nat):Prop:=∃A1 l1 c1,v=.agg #[.slice A1 l1 c1]∧NatV w (.agg #[.slice A1 l1 c1]) q
theorem TwoN.change {v:Value} {w w':World} {q r:Nat} {T:Nat→Prop} (h:TwoN v w q r) (hU:Upd T w w') (hT:∀b,T b→Zb w b):TwoN v w' q r:=by
 obtain⟨A1,l1,c1,A2,l2,c2,e,h1,h2⟩:=h
 exact⟨A1,l1,c1,A2,l2,c2,e,h1.change hU hT,h2.change hU hT⟩
theorem OneN.change {v:Value} {w w':World} {q:Nat} {T:Nat→Prop} (h:OneN v w q) (hU:Upd T w w') (hT:∀b,T b→Zb w b):OneN v w' q:=by
 obtain⟨A1,l1,c1,e,h1⟩:=h
 exact⟨A1,l1,c1,e,h1.change hU hT⟩
def NewB (t:TypeId) (v:Value) (w:World) (S:Nat→Prop):Prop:=∃g,v=.pointer (some ⟨g,0,none⟩)∧Box w g t (.slice none 0 0)∧S g∧∀b,S b→b=g
def SetB (t:TypeId) (v:Value) (w:World) (S:Nat→Prop) (q:Nat):Prop:=∃g A1 l1 c1,v=.pointer (some ⟨g,0,none⟩)∧Box w g t (.slice A1 l1 c1)∧S g∧NatV w (.agg #[.slice A1 l1 c1]) q
set_option maxRecDepth 100000 in
set_option maxHeartbeats 4000000 in
theorem div_one (va vb:Value) (a b k:Nat) (w:World) (hVa:NatV w va a) (hVb:NatV w vb b) (hFa:Fit k a) (hFb:Fit k b) (hk:k≤1000000) (hab:¬a<b) (hb0:0<b) (hbW:b<W32):
 Calls Try.prog 29 #[va,vb] w (RetD w (a / b) (a % b) 0):=by
 obtain⟨A,la,ca,xs,rfl, -⟩:=hVa.open_
 obtain⟨B,lb,cb,ys,rfl,hly,hcb,hmb,hSb,hTb,hnb⟩:=hVb.open_
 obtain⟨hl1,hyb⟩:=one_word hly hTb hnb hb0 hbW
 subst hl1
 obtain⟨yb,yo,rfl,hyl,hyc⟩:=hSb.open_ (by omega)
 have hcell:=hyc 0 (by omega)
 have hcn:0≤cmpI a b:=by
  rcases Int.lt_or_le (cmpI a b) 0 with h | h
  · rw[cmpI_neg]at h;exact absurd h hab
  · exact h
 have hb0':¬b=0:=by omega
 have hcell':w.cell? ⟨yb,yo,none⟩=some (.int .u32 (b:Int)):=by
  rw[←hyb];exact hcell
 have HbW:=hide hbW
 clear hyc hcell hSb hTb hnb hly hyb hbW
 go_enter Try.func29,Try.ntmps29
 go_wp2_with (first
  | (go_at_call 30;go_must (refine(zero_any _ b _ (hVb.ext (by repeat (first | (with_reducible exact Upd.refl _ _) | (with_reducible assumption) | (refine Upd.setCell ?_ (.inr (by first | exact Nat.le_refl _ | (dsimp only;omega) | (simp;done) | (simp;omega))) _) | (with_reducible refine Upd.alloc ?_ _) | (with_reducible refine Upd.drew ?_) | (with_reducible refine Upd.trans ?_ (by with_reducible assumption)))))).mono ?_);rintro e w4 ⟨rfl,hU4⟩;have hB2:Box w4 w.heap.size 33 (.slice A la ca):=(by repeat (first | (with_reducible refine Box.new_at ?_;(simp;done)) | (with_reducible assumption) | (with_reducible refine Box.alloc ?_ _) | (with_reducible refine Box.drew ?_) | (with_reducible refine Box.ext ?_ (by with_reducible assumption))));have hB3:Box w4 (w.heap.size+1) 33 (.slice (some ⟨yb,yo,none⟩) 1 cb):=(by repeat (first | (with_reducible refine Box.new_at ?_;(simp;done)) | (with_reducible assumption) | (with_reducible refine Box.alloc ?_ _) | (with_reducible refine Box.drew ?_) | (with_reducible refine Box.ext ?_ (by with_reducible assumption))));have hB4:Box w4 (w.heap.size+1+1) 33 (.slice none 0 0):=(by repeat (first | (with_reducible refine Box.new_at ?_;(simp;done)) | (with_reducible assumption) | (with_reducible refine Box.alloc ?_ _) | (with_reducible refine Box.drew ?_) | (with_reducible refine Box.ext ?_ (by with_reducible assumption))));have hB5:Box w4 (w.heap.size+1+1+1) 33 (.slice none 0 0):=(by repeat (first | (with_reducible refine Box.new_at ?_;(simp;done)) | (with_reducible assumption) | (with_reducible refine Box.alloc ?_ _) | (with_reducible refine Box.drew ?_) | (with_reducible refine Box.ext ?_ (by with_reducible assumption))));have hE4:Ext w w4:=(by repeat (first | (with_reducible exact Upd.refl _ _) | (with_reducible assumption) | (refine Upd.setCell ?_ (.inr (by first | exact Nat.le_refl _ | (dsimp only;omega) | (simp;done) | (simp;omega))) _) | (with_reducible refine Upd.alloc ?_ _) | (with_reducible refine Upd.drew ?_) | (with_reducible refine Upd.trans ?_ (by with_reducible assumption))));have c2:=hB2.cell;have c3:=hB3.cell;clear hU4)
  | (go_at_call 20;go_must (refine(cmp_any _ _ a b k _ (hVa.ext (by repeat (first | (with_reducible exact Upd.refl _ _) | (with_reducible assumption) | (refine Upd.setCell ?_ (.inr (by first | exact Nat.le_refl _ | (dsimp only;omega) | (simp;done) | (simp;omega))) _) | (with_reducible refine Upd.alloc ?_ _) | (with_reducible refine Upd.drew ?_) | (with_reducible refine Upd.trans ?_ (by with_reducible assumption))))) (hVb.ext (by repeat (first | (with_reducible exact Upd.refl _ _) | (with_reducible assumption) | (refine Upd.setCell ?_ (.inr (by first | exact Nat.le_refl _ | (dsimp only;omega) | (simp;done) | (simp;omega))) _) | (with_reducible refine Upd.alloc ?_ _) | (with_reducible refine Upd.drew ?_) | (with_reducible refine Upd.trans ?_ (by with_reducible assumption))))) hFa hFb hk).mono ?_);rintro e w5 ⟨rfl,hU5⟩;have hE5:=hE4.trans hU5;have hB2':=hB2.ext hU5;have hB3':=hB3.ext hU5;have hB4':=hB4.ext hU5;have hB5':=hB5.ext hU5;clear hB2 hB3 hB4 hB5 hU5 hE4 c2 c3;have c3:=hB3'.cell))
 clear c3
 obtain⟨J,hJ⟩:∃J:Nat→FactU,J=fun i=>match i with
   | 0=>fun u _ _=>u 0=.agg #[.slice A la ca]
   | 1=>fun u _ _=>u 1=.pointer (some ⟨w.heap.size+1,0,none⟩)
   | 2=>fun u _ _=>u 2=.slice (some ⟨yb,yo,none⟩) 1 cb
   | 3=>fun u _ _=>u 3=.pointer (some ⟨yb,yo,none⟩)
   | 4=>fun u _ _=>u 4=.int .u32 (b:Int)
   | 5=>fun u wx _=>TwoN (u 5) wx (a / b) (a % b)
   | 6=>fun u wx _=>TwoN (u 6) wx (a / b) (a % b)
   | 7=>fun u wx _=>OneN (u 7) wx (a / b)
   | 8=>fun u wx _=>OneN (u 8) wx (a % b)
   | 9=>fun u wx S=>NewB 33 (u 9) wx S
   | 10=>fun u wx S=>NewB 33 (u 10) wx S
   | _=>fun u wx S=>SetB 33 (u 9) wx S (a / b):=⟨_,rfl⟩
 refine wp_region_freeU Zb 12 J [(11,9)] (by kernel_rfl) (by kernel_rfl) ?_ ?_ ?_ ?_ ?_ ?_
 · subst hJ
   intro i hi
   match i,hi with
   | 0,_ | 1,_ | 2,_ | 3,_ | 4,_=>exact fun u wx w' S h _=>h
   | 5,_ | 6,_=>exact fun u wx w' S h hU=>TwoN.change h hU (fun b hb=>hb.2.2)
   | 7,_ | 8,_=>exact fun u wx w' S h hU=>OneN.change h hU (fun b hb=>hb.2.2)
   | 9,_ | 10,_=>exact fun u wx w' S h hU=>by obtain⟨g,e,hb,hs,hall⟩:=h;exact⟨g,e,hb.upd hU (fun h=>h.2.1 hs),hs,hall⟩
   | 11,_=>exact fun u wx w' S h hU=>by obtain⟨g,A1,l1,c1,e,hb,hs,hv⟩:=h;exact⟨g,A1,l1,c1,e,hb.upd hU (fun h=>h.2.1 hs),hs,hv.change hU (fun b hb=>hb.2.2)⟩
   | k+12,h=>exact absurd h (by omega)
 · subst hJ
   intro i hi
   match i,hi with
   | 0,_ | 1,_ | 2,_ | 3,_ | 4,_=>exact fun u u' wx S h hj=>(h _ (.inl rfl)).symm.trans hj
   | 5,_=>exact fun u u' wx S h hj=>show TwoN (u' 5) wx (a / b) (a % b) from(h 5 (.inl rfl))▸(show TwoN (u 5) wx (a / b) (a % b) from hj)
   | 6,_=>exact fun u u' wx S h hj=>show TwoN (u' 6) wx (a / b) (a % b) from(h 6 (.inl rfl))▸(show TwoN (u 6) wx (a / b) (a % b) from hj)
   | 7,_=>exact fun u u' wx S h hj=>show OneN (u' 7) wx (a / b) from(h 7 (.inl rfl))▸(show OneN (u 7) wx (a / b) from hj)
   | 8,_=>exact fun u u' wx S h hj=>show OneN (u' 8) wx (a % b) from(h 8 (.inl rfl))▸(show OneN (u 8) wx (a % b) from hj)
   | 9,_=>exact fun u u' wx S h hj=>show NewB _ (u' 9) wx S from(h 9 (.inl rfl))▸(show NewB 33 (u 9) wx S from hj)
   | 10,_=>exact fun u u' wx S h hj=>show NewB _ (u' 10) wx S from(h 10 (.inl rfl))▸(show NewB 33 (u 10) wx S from hj)
   | 11,_=>exact fun u u' wx S h hj=>show SetB _ (u' 9) wx S (a / b) from(h 9 (.inr ⟨by omega,by kernel_rfl⟩))▸(show SetB 33 (u 9) wx S (a / b) from hj)
   | k+12,h=>exact absurd h (by omega)
 · intro p hp
   simp only[List.mem_singleton]at hp
   subst hp
   exact⟨by decide,by kernel_rfl⟩
 · subst hJ
   intro p hp u wx S b hj hs
   simp only[List.mem_singleton]at hp
   subst hp
   obtain⟨g,e,hb,hs',hall⟩:=hj
   rw[hall b hs]
   exact⟨_,_,_,_,hb⟩
 · subst hJ
   intro i hi
   match i,hi with
   | 0,_=>
     intro u wx S o ho hE hr hd hw
     injection (ho:some _=some o)with ho
     subst ho
     have c2:=(hB2'.drew.ext hE).cell
     simp only[fr,dstOf]
     go_simp
     go_wp2
     exact⟨Upd.refl _ _,rfl⟩
   | 1,_=>
     intro u wx S o ho hE hr hd hw
     injection (ho:some _=some o)with ho
     subst ho
     simp only[fr,dstOf]
     go_simp
     go_wp2
     exact⟨Upd.refl _ _,rfl⟩
   | 2,_=>
     intro u wx S o ho hE hr hd hw
     injection (ho:some _=some o)with ho
     subst ho
     have f1:u 1=.pointer (some ⟨w.heap.size+1,0,none⟩):=hw 1 (by omega) (by kernel_rfl)
     have c3:=(hB3'.drew.ext hE).cell
     simp only[fr,dstOf]
     go_simp
     go_wp2
     exact⟨Upd.refl _ _,rfl⟩
   | 3,_=>
     intro u wx S o ho hE hr hd hw
     injection (ho:some _=some o)with ho
     subst ho
     have f2:u 2=.slice (some ⟨yb,yo,none⟩) 1 cb:=hw 2 (by omega) (by kernel_rfl)
     simp only[fr,dstOf]
     go_simp
     go_wp2
     exact⟨Upd.refl _ _,rfl⟩
   | 4,_=>
     intro u wx S o ho hE hr hd hw
     injection (ho:some _=some o)with ho
     subst ho
     have f3:u 3=.pointer (some ⟨yb,yo,none⟩):=hw 3 (by omega) (by kernel_rfl)
     have cy:wx.cell? ⟨yb,yo,none⟩=some (.int .u32 (b:Int)):=((hE5.drew.trans hE).cell (p:=⟨yb,yo,none⟩) hyl (fun h=>h)).trans hcell'
     simp only[fr,dstOf]
     go_simp
     go_wp2
     exact⟨Upd.refl _ _,rfl⟩
   | 5,_=>
     intro u wx S o ho hE hr hd hw
     injection (ho:some _=some o)with ho
     subst ho
     have f0:u 0=.agg #[.slice A la ca]:=hw 0 (by omega) (by kernel_rfl)
     have f4:u 4=.int .u32 (b:Int):=hw 4 (by omega) (by kernel_rfl)
     simp only[fr,dstOf]
     go_simp
     go_wp2_with fail
     refine(small_any _ a b k _ (hVa.ext (hE5.drew.trans hE)) hFa hk hb0 HbW.out).mono ?_
     rintro e wn ⟨A1,l1,c1,A2,l2,c2,rfl,hV1,hV2,hU⟩
     go_wp2_with fail
     exact⟨_,rfl,hU.mono (fun _ _ h=>h.elim),A1,l1,c1,A2,l2,c2,rfl,hV1,hV2⟩
   | 6,_=>
     intro u wx S o ho hE hr hd hw
     injection (ho:some _=some o)with ho
     subst ho
     have f5:TwoN (u 5) wx (a / b) (a % b):=hw 5 (by omega) (by kernel_rfl)
     obtain⟨A1,l1,c1,A2,l2,c2,f5,hV1,hV2⟩:=f5
     simp only[fr,dstOf]
     go_simp
     go_wp2
     exact⟨Upd.refl _ _,A1,l1,c1,A2,l2,c2,rfl,hV1,hV2⟩
   | 7,_=>
     intro u wx S o ho hE hr hd hw
     injection (ho:some _=some o)with ho
     subst ho
     have f6:TwoN (u 6) wx (a / b) (a % b):=hw 6 (by omega) (by kernel_rfl)
     obtain⟨A1,l1,c1,A2,l2,c2,f6,hV1,hV2⟩:=f6
     simp only[fr,dstOf]
     go_simp
     go_wp2
     exact⟨Upd.refl _ _,A1,l1,c1,rfl,hV1⟩
   | 8,_=>
     intro u wx S o ho hE hr hd hw
     injection (ho:some _=some o)with ho
     subst ho
     have f6:TwoN (u 6) wx (a / b) (a % b):=hw 6 (by omega) (by kernel_rfl)
     obtain⟨A1,l1,c1,A2,l2,c2,f6,hV1,hV2⟩:=f6
     simp only[fr,dstOf]
     go_simp
     go_wp2
     exact⟨Upd.refl _ _,A2,l2,c2,rfl,hV2⟩
   | 9,_ | 10,_=>
     intro u wx S o ho hE hr hd hw
     injection (ho:some _=some o)with ho
     subst ho
     simp only[fr,dstOf]
     go_simp
     go_wp2
     exact⟨(Upd.refl _ _).alloc _,wx.heap.size,rfl,Box.new _ _ _,⟨Nat.le_refl _,Nat.lt_succ_self _⟩,fun b (hb:wx.heap.size≤b∧b<wx.heap.size+1)=>by omega⟩
   | 11,_=>
     intro u wx S o ho hE hr hd hw
     injection (ho:some _=some o)with ho
     subst ho
     have f7:OneN (u 7) wx (a / b):=hw 7 (by omega) (by kernel_rfl)
     have f9:NewB _ (u 9) wx (S 9):=hw 9 (by omega) (by kernel_rfl)
     obtain⟨A1,l1,c1,f7,hV⟩:=f7
     obtain⟨g,f9,hb,hs,hall⟩:=f9
     have cg:=hb.cell
     have fg:=hb.frozen
     simp only[fr,dstOf]
     go_simp
     go_wp2
     exact⟨(Upd.refl _ _).setCell (p:=⟨g,0,none⟩) (.inl hs) _,undef,g,A1,l1,c1,(updf_ne u _ (by decide)).trans f9,hb.set _,.inr hs,hV.far cg⟩
   | k+12,h=>exact absurd h (by omega)
 · intro u wx S hE hw hrg hdj
   subst hJ
   have f8:OneN (u 8) wx (a % b):=hw 8 (by omega) (by simp)
   have f10:NewB _ (u 10) wx (S 10):=hw 10 (by omega) (by simp)
   have f11:SetB _ (u 9) wx (S 11) (a / b):=hw 11 (by omega) (by simp)
   obtain⟨A2,l2,c2,f8,hV2⟩:=f8
   obtain⟨g2,f10,hb2,hs2,hall⟩:=f10
   obtain⟨g1,A1,l1,c1,f9,hb1,hs1,hV1⟩:=f11
   have hg:g1≠g2:=fun e=>by
     subst e
     have:=hdj 10 11 g1 hs2 hs1
     omega
   have hr1:=(hrg 11 g1 hs1).1
   have hr2:=(hrg 10 g2 hs2).1
   have cg2:=hb2.cell
   have fg2:=hb2.frozen
   clear hw hrg hdj hall
   simp only[fr,dstOf]
   go_simp
   go_wp2_with fail
   have hb1':Box (wx.setCell ⟨g2,0,none⟩ (.slice A2 l2 c2)) g1 33 (.slice A1 l1 c1):=hb1.far (p:=⟨g2,0,none⟩) hg _
   have hb2':Box (wx.setCell ⟨g2,0,none⟩ (.slice A2 l2 c2)) g2 33 (.slice A2 l2 c2):=hb2.set _
   have hz5:=hB5'.lt
   have hr1':w5.heap.size≤g1:=hr1
   have hr2':w5.heap.size≤g2:=hr2
   have hB4:Box (wx.setCell ⟨g2,0,none⟩ (.slice A2 l2 c2)) (w.heap.size+1+1) 33 (.slice none 0 0):=(hB4'.drew.ext hE).far (p:=⟨g2,0,none⟩) (by dsimp only;omega) _
   have hB5:Box (wx.setCell ⟨g2,0,none⟩ (.slice A2 l2 c2)) (w.heap.size+1+1+1) 33 (.slice none 0 0):=(hB5'.drew.ext hE).far (p:=⟨g2,0,none⟩) (by dsimp only;omega) _
   have hV1':=hV1.far (v:=.slice A2 l2 c2) cg2
   have hV2':=hV2.far (v:=.slice A2 l2 c2) cg2
   have hE8:Ext w (wx.setCell ⟨g2,0,none⟩ (.slice A2 l2 c2)):=(hE5.drew.trans hE).setCell (p:=⟨g2,0,none⟩) (.inr (by dsimp only;omega)) _
   obtain⟨w8,hw8⟩:∃w8,w8=wx.setCell ⟨g2,0,none⟩ (.slice A2 l2 c2):=⟨_,rfl⟩
   rw[←hw8]at hb1' hb2' hB4 hB5 hV1' hV2' hE8 ⊢
   clear hw8 hb1 hb2 hB4' hB5' hV1 hV2 hE cg2 fg2 hcell' hcn f8 f9 f10
   obtain⟨T2,hT2⟩:∃T2:Nat→Prop,T2=fun k=>k=w.heap.size+1+1∨k=w.heap.size+1+1+1:=⟨_,rfl⟩
   have ht4:T2 (w.heap.size+1+1):=by rw[hT2];exact .inl rfl
   have ht5:T2 (w.heap.size+1+1+1):=by rw[hT2];exact .inr rfl
   have hn1:¬T2 g1:=by rw[hT2];omega
   have hn2:¬T2 g2:=by rw[hT2];omega
   clear hT2
   have c7:=fun x:Wd (Upd T2 w8.drew)=>(x.ok.cell (p:=⟨g1,0,none⟩) hb1'.lt hn1).trans hb1'.cell
   have c8:=fun x:Wd (Upd T2 w8.drew)=>(x.ok.cell (p:=⟨g2,0,none⟩) hb2'.lt hn2).trans hb2'.cell
   refine wp_region_plan (Upd T2 _) 4 [(false,0),(false,1),(true,2),(true,3)] (by kernel_rfl) (by kernel_rfl) (Upd.refl _ _) (fun hne=>?_)
   repeat (refine head_q rfl (fun K hK=>?_);have hK2:=hide hK;clear hK;go_simp;refine hK2.out _ ?_;clear hK2 K)
   clear c7 c8
   refine head_l rfl ?_
   have cm4:=hB4.drew.cell
   have fm4:=hB4.drew.frozen
   go_wp2_with fail
   refine⟨Cls (Upd T2 w8.drew),fun _ h=>h,⟨⟨_,(Upd.refl T2 _).setCell (p:=⟨w.heap.size+1+1,0,none⟩) (.inl ht4) _⟩,rfl⟩,?_⟩
   refine head_l rfl ?_
   have cm5:=(hB5.far (p:=⟨w.heap.size+1+1,0,none⟩) (by simp) (.slice A1 l1 c1)).drew.cell
   have fm5:=(hB5.far (p:=⟨w.heap.size+1+1,0,none⟩) (by simp) (.slice A1 l1 c1)).drew.frozen
   go_wp2_with fail
   refine⟨Cls (Upd T2 w8.drew),fun _ h=>h,⟨⟨_,((Upd.refl T2 _).setCell (p:=⟨w.heap.size+1+1,0,none⟩) (.inl ht4) _).setCell (p:=⟨w.heap.size+1+1+1,0,none⟩) (.inl ht5) _⟩,rfl⟩,?_⟩
   refine head_nil ?_
   try simp only[List.drop_succ_cons,List.drop_zero]
   go_wp2
   have q4:=((hB4.set (.slice A1 l1 c1)).far (p:=⟨w.heap.size+1+1+1,0,none⟩) (by simp) (.slice A2 l2 c2)).drew.cell
   have q5:=((hB5.far (p:=⟨w.heap.size+1+1,0,none⟩) (by simp) (.slice A1 l1 c1)).set (.slice A2 l2 c2)).drew.cell
   have hVx:=(hV1'.far (v:=.slice A1 l1 c1) hB4.cell).far (v:=.slice A2 l2 c2) cm5
   have hVy:=(hV2'.far (v:=.slice A1 l1 c1) hB4.cell).far (v:=.slice A2 l2 c2) cm5
   exact bodyPost_ret (v:=.tuple #[.agg #[.slice A1 l1 c1],.agg #[.slice A2 l2 c2],.int .i64 0]) (by simp[results,Try.results29,go_sem,q4,q5]) rfl ⟨_,_,_,_,_,_,rfl,hVx,hVy,(hE8.drew.setCell (p:=⟨w.heap.size+1+1,0,none⟩) (.inr (by simp;omega)) _).setCell (p:=⟨w.heap.size+1+1+1,0,none⟩) (.inr (by simp;omega)) _⟩
end
/- Division of numbers, walked: the general case. -/
section
open Go.RowKit
open Nt
attribute [local go_sem] by32 wrap_w32 steady steadyUpon Cls same_cell
theorem shr_val {x y:BitVec 32} {n:Nat}:d32 (w32 (bits BinOp.or IntKind.u64 (IntKind.u64.wrap (IntKind.u64.wrap (n32 y)*4294967296)) (IntKind.u64.wrap (n32 x)) / 2^n))=(d32 y*W32+d32 x) / 2^n % W32:=by
 have hx:=d32_lt x
 have hy:=d32_lt y
 have e1:IntKind.u64.wrap (n32 x)=((d32 x:Nat):Int):=by rw[n32_d,u64_nat (by unfold W32 at hx;omega)]
 have e2:IntKind.u64.wrap (n32 y)=((d32 y:Nat):Int):=by rw[n32_d,u64_nat (by unfold W32 at hy;omega)]
 have e3:IntKind.u64.wrap (((d32 y:Nat):Int)*4294967296)=((d32 y:Nat):Int)*4294967296:=by
  rw[show((d32 y:Nat):Int)*4294967296=((d32 y*4294967296:Nat):Int) by omega,u64_nat (by unfold W32 at hy;omega)]
 rw[e1,e2,e3,or_words hy hx,show(((d32 y*W32+d32 x:Nat):Int)) / 2^n=(((d32 y*W32+d32 x) / 2^n:Nat):Int) by simp,d32_w32]
set_option maxRecDepth 100000 in
set_option maxHeartbeats 4000000 in
theorem div_many (va:Value) (B:Option Addr) (cb M a b k:Nat) (ys:List (BitVec 32)) (w:World) (hVa:NatV w va a) (hVb:NatV w (.agg #[.slice B (M+2) cb]) b) (hFa:Fit k a) (hFb:Fit k b) (hk:k≤1000000) (hab:¬a<b)
 (hly:ys.length=M+2) (hcb:M+2≤cb) (hmb:cb≤maxLen) (hSb:Sl by32 w B ys) (hTb:Trd (dig d32 ys) (M+2)) (hnb:numOf W32 d32 ys=b):
 Calls Try.prog 29 #[va,.agg #[.slice B (M+2) cb]] w (RetD w (a / b) (a % b) 0):=by
 obtain⟨A,la,ca,xs,rfl,hlx,hca,hma,hSa,hTa,hna⟩:=hVa.open_
 have hla:la≤k:=hlx▸Fit.len (hlx▸hTa) hna hFa
 have hlb:M+2≤k:=hly▸Fit.len (hly▸hTb) hnb hFb
 have hle:M+2≤la:=by
  rcases Nat.lt_or_ge la (M+2)with h | h
  · have:=cmp_len (xs:=xs) (ys:=ys) (hly▸hTb) (by omega)
    rw[hna,hnb]at this;omega
  · exact h
 obtain⟨p,hp⟩:∃p,la=M+2+p:=⟨la - (M+2),by omega⟩
 subst hp
 have hcn:0≤cmpI a b:=by
  rcases Int.lt_or_le (cmpI a b) 0 with h | h
  · rw[cmpI_neg]at h;exact absurd h hab
  · exact h
 have hcn':decide (cmpI a b<0)=false:=decide_eq_false (by omega)
 have htop:dig d32 ys (M+1)≠0:=by
  have:=hTb
  unfold Trd at this
  rcases this with h | h
  · omega
  · exact h
 have hb0:¬b=0:=by
  have h1:=(Trd.zero_iff one_lt_W32 hTb).1
  intro h0
  unfold numOf at hnb
  rw[hly,h0]at hnb
  have:=h1 hnb
  omega
 obtain⟨yb,yo,rfl,hyl,hyc⟩:=hSb.open_ (by omega)
 have hcell:=hyc (M+1) (by omega)
 have hy1:(((M+2:Nat):Int) == 1)=false:=by rw[beq_eq_false_iff_ne];omega
 have hy2:((M+2:Nat):Int) - 1=((M+1:Nat):Int):=by omega
 obtain⟨n,hn⟩:∃n,n=32 - blen (d32 (gat ys (M+1))):=⟨_,rfl⟩
 have hn32:n<32:=by
  have:=(blen_le (n:=d32 (gat ys (M+1))) htop).1
  omega
 have Hn:=hide hn
 have HSa:=hide hSa
 have HSb:=hide hSb
 have HTa:=hide hTa
 have HTb:=hide hTb
 have Hna:=hide hna
 have Hnb:=hide hnb
 have Hlx:=hide hlx
 have Hly:=hide hly
 have Htop:=hide htop
 clear hyc hSa hSb hTa hTb hna hnb hlx hly htop hn
 go_enter Try.func29,Try.ntmps29
 go_wp2_with (first
  | (go_at_call 30;go_must (refine(zero_any _ b _ (hVb.ext (by repeat (first | (with_reducible exact Upd.refl _ _) | (with_reducible assumption) | (refine Upd.setCell ?_ (.inr (by first | exact Nat.le_refl _ | (dsimp only;omega) | (simp;done) | (simp;omega))) _) | (with_reducible refine Upd.alloc ?_ _) | (with_reducible refine Upd.drew ?_) | (with_reducible refine Upd.trans ?_ (by with_reducible assumption)))))).mono ?_);rintro e w4 ⟨rfl,hU4⟩;have hB2:Box w4 w.heap.size 33 (.slice A (M+2+p) ca):=(by repeat (first | (with_reducible refine Box.new_at ?_;(simp;done)) | (with_reducible assumption) | (with_reducible refine Box.alloc ?_ _) | (with_reducible refine Box.drew ?_) | (with_reducible refine Box.ext ?_ (by with_reducible assumption))));have hB3:Box w4 (w.heap.size+1) 33 (.slice (some ⟨yb,yo,none⟩) (M+2) cb):=(by repeat (first | (with_reducible refine Box.new_at ?_;(simp;done)) | (with_reducible assumption) | (with_reducible refine Box.alloc ?_ _) | (with_reducible refine Box.drew ?_) | (with_reducible refine Box.ext ?_ (by with_reducible assumption))));have hB4:Box w4 (w.heap.size+1+1) 33 (.slice none 0 0):=(by repeat (first | (with_reducible refine Box.new_at ?_;(simp;done)) | (with_reducible assumption) | (with_reducible refine Box.alloc ?_ _) | (with_reducible refine Box.drew ?_) | (with_reducible refine Box.ext ?_ (by with_reducible assumption))));have hB5:Box w4 (w.heap.size+1+1+1) 33 (.slice none 0 0):=(by repeat (first | (with_reducible refine Box.new_at ?_;(simp;done)) | (with_reducible assumption) | (with_reducible refine Box.alloc ?_ _) | (with_reducible refine Box.drew ?_) | (with_reducible refine Box.ext ?_ (by with_reducible assumption))));have hE4:Ext w w4:=(by repeat (first | (with_reducible exact Upd.refl _ _) | (with_reducible assumption) | (refine Upd.setCell ?_ (.inr (by first | exact Nat.le_refl _ | (dsimp only;omega) | (simp;done) | (simp;omega))) _) | (with_reducible refine Upd.alloc ?_ _) | (with_reducible refine Upd.drew ?_) | (with_reducible refine Upd.trans ?_ (by with_reducible assumption))));have c2:=hB2.cell;have c3:=hB3.cell;clear hU4)
  | (go_at_call 20;go_must (refine(cmp_any _ _ a b k _ (hVa.ext (by repeat (first | (with_reducible exact Upd.refl _ _) | (with_reducible assumption) | (refine Upd.setCell ?_ (.inr (by first | exact Nat.le_refl _ | (dsimp only;omega) | (simp;done) | (simp;omega))) _) | (with_reducible refine Upd.alloc ?_ _) | (with_reducible refine Upd.drew ?_) | (with_reducible refine Upd.trans ?_ (by with_reducible assumption))))) (hVb.ext (by repeat (first | (with_reducible exact Upd.refl _ _) | (with_reducible assumption) | (refine Upd.setCell ?_ (.inr (by first | exact Nat.le_refl _ | (dsimp only;omega) | (simp;done) | (simp;omega))) _) | (with_reducible refine Upd.alloc ?_ _) | (with_reducible refine Upd.drew ?_) | (with_reducible refine Upd.trans ?_ (by with_reducible assumption))))) hFa hFb hk).mono ?_);rintro e w5 ⟨rfl,hU5⟩;have hE5:=hE4.trans hU5;have hB2':=hB2.ext hU5;have hB3':=hB3.ext hU5;have hB4':=hB4.ext hU5;have hB5':=hB5.ext hU5;clear hB2 hB3 hB4 hB5 hU5 hE4 c2 c3;have c3:=hB3'.cell;have cy:w5.cell? ⟨yb,yo+(M+1),none⟩=some (.int .u32 (n32 (gat ys (M+1)))):=(hE5.cell (p:=⟨yb,yo+(M+1),none⟩) hyl (fun h=>h)).trans hcell)
  | (go_at_call 62;go_must (refine(lead32_any _ _).mono ?_);rintro e w6 ⟨rfl,rfl⟩;rw[←Hn.out]))
 clear c3 cy hcell hy1 hy2 hcn hcn'
 obtain⟨W,hW⟩:∃W,W=w5.drew:=⟨_,rfl⟩
 have hEW:Ext w W:=by rw[hW];exact hE5.drew
 have hC2:Box W w.heap.size 33 (.slice A (M+2+p) ca):=by rw[hW];exact hB2'.drew
 have hC3:Box W (w.heap.size+1) 33 (.slice (some ⟨yb,yo,none⟩) (M+2) cb):=by rw[hW];exact hB3'.drew
 have hC4:Box W (w.heap.size+1+1) 33 (.slice none 0 0):=by rw[hW];exact hB4'.drew
 have hC5:Box W (w.heap.size+1+1+1) 33 (.slice none 0 0):=by rw[hW];exact hB5'.drew
 have c2:=fun x:Wd (Ext W)=>(x.ok.cell (p:=⟨w.heap.size,0,none⟩) hC2.lt (fun h=>h)).trans hC2.cell
 have c3:=fun x:Wd (Ext W)=>(x.ok.cell (p:=⟨w.heap.size+1,0,none⟩) hC3.lt (fun h=>h)).trans hC3.cell
 refine wp_region_plan (Ext W) 13 [(false,0),(false,1),(false,2),(false,4),(false,5),(false,6),(false,8),(false,9),(false,10),(true,3),(true,7),(false,11),(false,12)] (by kernel_rfl) (by kernel_rfl) (by rw[←hW];exact Upd.refl _ _) (fun hne=>?_)
 rw[←hW]
 clear hW hB2' hB3' hB4' hB5' hE5
 repeat (refine head_q rfl (fun K hK=>?_);have hK2:=hide hK;clear hK;go_simp;refine hK2.out _ ?_;clear hK2 K)
 refine head_l rfl ?_
 go_wp2_with fail
 refine(shift_any A (M+2+p) ca n xs _ Hlx.out (HSa.out.ext hEW) (by omega) hn32).mono ?_
 rintro e w7 ⟨gu,us,rfl,hul,hOu,hus,hU7⟩
 go_wp2_with fail
 refine⟨Cls (Ext W),fun _ h=>h,⟨⟨_,hU7⟩,rfl⟩,?_⟩
 refine head_l rfl ?_
 go_wp2_with fail
 refine(shift_any (some ⟨yb,yo,none⟩) (M+2) cb n ys _ Hly.out ((HSb.out.ext hEW).ext hU7) (by omega) hn32).mono ?_
 rintro e w8 ⟨gv,vs,rfl,hvl,hOv,hvs,hU8⟩
 go_wp2_with fail
 have hE8:=hU7.trans hU8
 refine⟨Cls (Ext W),fun _ h=>h,⟨⟨_,hE8⟩,rfl⟩,?_⟩
 clear c2 c3
 have hs1:∀w,(Instr.sliceAt 31 (.slice (some ⟨gv,0,none⟩) (M+2+1) (M+2+1)) none (some (.int .i64 ((M:Int)+2))) none).run Try.prog w=.ok (.slice (some ⟨gv,0,none⟩) (M+2) (M+2+1)) w:=fun w=>run_cut_h Try.n_el32.under Try.n_sz32 (some ⟨gv,0,none⟩) (M+2+1) (M+2+1) (M+2) .i64 (by omega) w
 repeat (refine head_q rfl (fun K hK=>?_);have hK2:=hide hK;clear hK;go_simp;refine hK2.out _ ?_;clear hK2 K)
 refine head_nil ?_
 try simp only[List.drop_succ_cons,List.drop_zero]
 obtain⟨D,hD⟩:∃D,D=2^n:=⟨_,rfl⟩
 have hD0:0<D:=by rw[hD];exact Nat.pow_pos (by omega)
 have hb32:blen (d32 (gat ys (M+1)))≤32:=blen_le_iff.2 (d32_lt _)
 obtain⟨hw1,hw2⟩:=norm_word (n:=n) Htop.out hb32 Hn.out
 rw[←hD]at hw1 hw2
 have hyv:vf W32 (dig d32 ys) (M+2)=b:=by have:=Hnb.out;unfold numOf at this;rw[Hly.out]at this;exact this
 have hVlo:2147483648*W32^(M+1)≤b*D:=by rw[←hyv];exact norm_low (f:=dig d32 ys) (m:=M+1) hw1
 have hVhi:b*D<W32^(M+2):=by rw[←hyv];exact norm_high (β:=W32) (f:=dig d32 ys) (m:=M+1) (fun i _=>d32_lt _) hD0 hw2
 have hvv:vf W32 (dig d32 vs) (M+2)=b*D:=by
  have h1:vf W32 (dig d32 vs) (M+2+1)=b*D:=by have:=hvs;unfold numOf at this;rw[hvl]at this;rw[this,←hD,Hnb.out.symm];rfl
  rw[drop_top (by decide) (by rw[h1];exact hVhi),h1]
 have huu:vf W32 (dig d32 us) (M+2+p+1)=a*D:=by have:=hus;unfold numOf at this;rw[hul]at this;rw[this,←hD,Hna.out.symm];rfl
 have hvtop:2147483648≤dig d32 (vs.take (M+2)) (M+1):=by
  rw[dig_take (by omega)]
  exact top_ge (β:=W32) (f:=dig d32 vs) (m:=M+1) (fun i _=>d32_lt _) (by rw[hvv];exact hVlo)
 have hstart:a*D<b*D*W32^(p+1):=by
  refine start_lt (m:=M+1) hD0 ?_ ?_
  · have h1:=numOf_lt (xs:=xs) d32_lt
    rw[Hna.out,Hlx.out]at h1
    rw[show M+1+(p+1)=M+2+p by omega];exact h1
  · have h1:=(HTb.out).low (β:=W32) (by omega)
    rw[hyv]at h1;exact h1
 have HD:=hide hD
 have Hvv:=hide hvv
 have Huu:=hide huu
 have Hvtop:=hide hvtop
 have Hstart:=hide hstart
 have HVhi:=hide hVhi
 have Hul:=hide hul
 have Hvl:=hide hvl
 clear hD hvv huu hvtop hstart hVhi hVlo hyv hw1 hw2 hb32 hul hvl hus hvs
 go_wp2_with (at_make;go_must (refine wpList_mk _ _ _ Try.n_el32 rfl rfl (p+1) rfl rfl (by omega) (by omega) (by omega) (by unfold maxLen;omega) by32 rfl rfl (B:=W.heap.size) (by have:=hE8.size;simp;omega) ?_);intro gq w9 hOq hgq hU9;have Hgq:=hide hgq;clear hgq)
 have hgq:=Hgq.out
 clear Hgq
 have hu8:gu<w7.heap.size:=(hOu.in_ (k:=gu) (by simp[inA])).2
 have hv8:w7.heap.size≤gv∧gv<w8.heap.size:=hOv.in_ (k:=gv) (by simp[inA])
 have huW:W.heap.size≤gu:=(hOu.in_ (k:=gu) (by simp[inA])).1
 have hguv:gu≠gv:=by omega
 have hguq:gu≠gq:=by have:=hU8.size;omega
 have hgvq:gv≠gq:=by omega
 have hgqW:W.heap.size≤gq:=by have:=hE8.size;omega
 have hE9:Ext W w9:=hE8.trans hU9
 have hOu9:=(hOu.ext hU8).ext hU9
 have hSv9:=(hOv.sl.ext hU9).take (M+2)
 have hgvW:W.heap.size≤gv:=by have:=hU7.size;omega
 clear hgq hU9 hU8 hU7 hE8 hOu hOv hu8 hv8
 go_loopw [13] (fun c wx=>∃(j:Nat) (cc:Int) (zs qs:List (BitVec 32)),j≤p+1∧cc=(j:Int) - 1∧c=.int .i64 cc∧zs.length=M+2+p+1∧qs.length=p+1∧Own wx W.heap.size 71 (some ⟨gu,0,none⟩) (M+2+p+1) (zs.map by32)∧Own wx W.heap.size 71 (some ⟨gq,0,none⟩) (p+1) (qs.map by32)∧Sl by32 wx (some ⟨gv,0,none⟩) (vs.take (M+2))∧a*D=vf W32 (dig d32 qs) (p+1)*(b*D)+vf W32 (dig d32 zs) (M+2+p+1)∧vf W32 (dig d32 zs) (M+2+p+1)<b*D*W32^j∧(∀i,i<j→dig d32 qs i=0)∧Ext W wx) (fun c _=>(intOf c+1).toNat)
 case atStart=>
  obtain⟨h1,h2⟩:=div_start (q:=dig d32 (List.replicate (p+1) (default:BitVec 32))) (nq:=p+1) (u:=dig d32 us) (nu:=M+2+p+1) Huu.out (fun i _=>dig_zeros _ _) Hstart.out
  exact⟨p+1,_,us,_,Nat.le_refl _,(by omega),rfl,Hul.out,List.length_replicate,hOu9,hOq,hSv9,h1,h2,fun i _=>dig_zeros _ _,hE9⟩
 case round=>
  clear hOu9 hOq hSv9 hE9
  obtain⟨j,cc,zs,qs,hj,hcc,rfl,hzl,hql,hOu,hOq,hSv,hv1,hv2,hq0,hE⟩:=hrel
  have Hzl:=hide hzl
  have Hql:=hide hql
  have Hv1:=hide hv1
  have Hv2:=hide hv2
  have Hq0:=hide hq0
  clear hzl hql hv1 hv2 hq0
  rcases j with _ | j
  · obtain rfl:cc= -1:=by omega
    clear hcc
    have hfin:=div_end hD0 Hv1.out (by have:=Hv2.out;rwa [Nat.pow_zero,Nat.mul_one]at this)
    have hlow:vf W32 (dig d32 zs) (M+2+p+1)<W32^(M+2):=by
     have:=Hv2.out
     rw[Nat.pow_zero,Nat.mul_one]at this
     exact Nat.lt_trans this HVhi.out
    have hz0:dig d32 zs (M+2)=0:=vf_zero_above (by decide) hlow (Nat.le_refl _) (by omega)
    have hzv:vf W32 (dig d32 zs) (M+2)=vf W32 (dig d32 zs) (M+2+p+1):=(vf_zero_tail (by omega) (fun i h1 h2=>vf_zero_above (by decide) hlow h1 h2)).symm
    have Hfin:=hide hfin
    have Hz0:=hide hz0
    have Hzv:=hide hzv
    clear hfin hlow hz0 hzv
    go_wp2_with (at_make;go_must (refine wpList_mk _ _ _ Try.n_el32 rfl rfl (M+2) rfl rfl (by omega) (by omega) (by omega) (by unfold maxLen;omega) by32 rfl rfl (B:=W.heap.size) (by have:=hE.size;simp;omega) ?_);intro gr w12 hOr hgr hU12;have Hgr:=hide hgr;clear hgr)
    have hgrq:gr≠gq:=by have:=Hgr.out;have:=(hOq.in_ (k:=gq) (by simp[inA])).2;omega
    have hgru:gr≠gu:=by have:=Hgr.out;have:=(hOu.in_ (k:=gu) (by simp[inA])).2;omega
    have hgrW:W.heap.size≤gr:=by have:=Hgr.out;have:=hE.size;omega
    have hOu12:=hOu.ext hU12
    have hOq12:=hOq.ext hU12
    have hE12:=hE.trans hU12
    clear hOu hOq hE hU12 hSv Hgr
    go_loopw [96] (fun c wx=>∃(i:Nat) (rs:List (BitVec 32)),i≤M+2∧c=.int .i64 i∧rs.length=M+2∧Own wx W.heap.size 71 (some ⟨gr,0,none⟩) (M+2) (rs.map by32)∧Own wx W.heap.size 71 (some ⟨gu,0,none⟩) (M+2+p+1) (zs.map by32)∧Own wx W.heap.size 71 (some ⟨gq,0,none⟩) (p+1) (qs.map by32)∧vf W32 (dig d32 rs) i*D+dig d32 zs 0 % D=vf W32 (dig d32 zs) i+dig d32 zs i % D*W32^i∧Ext W wx) (fun c _=>M+2 - (intOf c).toNat)
    case atStart=>exact⟨0,_,Nat.zero_le _,rfl,List.length_replicate,hOr,hOu12,hOq12,by show 0*D+_=0+_;rw[Nat.zero_mul,Nat.pow_zero,Nat.mul_one],hE12⟩
    case round=>
     clear hOr hOu12 hOq12 hE12
     obtain⟨i,rs,hi,rfl,hrl,hOr,hOu,hOq,hv,hE⟩:=hrel
     have Hrl:=hide hrl
     have Hv:=hide hv
     clear hrl hv
     by_cases hil:i<M+2
     · have hd1:decide ((i:Int)<(M:Int)+2)=true:=decide_eq_true (by omega)
       have hx0:=n32_bd (gat zs i)
       obtain⟨hx1,hx2⟩:=hx0
       have hy0:=n32_bd (gat zs (i+1))
       obtain⟨hy1,hy2⟩:=hy0
       have hi1:(i:Int)≤1000000:=by omega
       have c1:=fun x:Wd (Same wr.drew)=>(same_cell x ⟨gu,i,none⟩).trans (hOu.row.cell (i:=i) (by rw[Hzl.out];omega))
       have c2:=fun x:Wd (Same wr.drew)=>(same_cell x ⟨gu,i+1,none⟩).trans (hOu.row.cell (i:=i+1) (by rw[Hzl.out];omega))
       go_wp2_with fail
       have q1:IntKind.i64.wrap ((i:Int)+1)=(i:Int)+1:=IntWalk.i64_in _ (by omega)
       have q2:(0:Int)≤(i:Int)+1:=by omega
       have q3:((i:Int)+1).toNat=i+1:=by omega
       have q4:(i:Int)+1<(M:Int)+2+(p:Int)+1:=by omega
       have q5:(i:Int)<(M:Int)+2+(p:Int)+1:=by omega
       have q6:(i:Int)<(M:Int)+2:=by omega
       refine wp_region_plan (Same _) 19 [(false,0),(false,1),(false,2),(false,3),(false,4),(false,5),(false,6),(false,7),(false,8),(false,9),(false,10),(false,11),(false,12),(false,13),(false,14),(false,15),(false,16),(false,17),(false,18)] (by kernel_rfl) (by kernel_rfl) rfl (fun hne=>?_)
       repeat (refine head_q rfl (fun K hK=>?_);have hK2:=hide hK;clear hK;go_simp;refine hK2.out _ ?_;clear hK2 K)
       clear q6 q1 q2 q3 q4 q5
       refine head_nil ?_
       try simp only[List.drop_succ_cons,List.drop_zero]
       refine wpList_store_own by32 one32 _ rfl rfl Try.n_sz32 rfl rfl (hOr.upd ((Upd.refl (only gu) wr).drew) (fun k hk hk2=>by simp[inA]at hk;unfold only at hk2;omega)) (by rw[Hrl.out];exact hil) ?_
       intro w13 hO13 hU13
       go_wp2_with fail
       go_roundw
       case rel=>
        refine⟨i+1,_,by omega,by go_num,by rw[List.length_set];exact Hrl.out,hO13,hOu.upd hU13.undrew (fun k hk hk2=>by simp[inA]at hk;unfold only at hk2;omega),hOq.upd hU13.undrew (fun k hk hk2=>by simp[inA]at hk;unfold only at hk2;omega),?_,Upd.fresh hU13.undrew hE (fun i hi=>by unfold only at hi;omega)⟩
        refine shr_step (β:=W32) (E:=2^(32 - n)) (by rw[HD.out];exact w_split hn32) hD0 (d32_lt _) ?_ ?_
        · rw[←Hv.out]
          congr 2
          exact vf_congr fun q hq=>by rw[dig_set (by rw[Hrl.out];omega),if_neg (by omega)]
        · rw[dig_set (by rw[Hrl.out];omega),if_pos rfl,shr_val,HD.out]
          rfl
       case measure=>simp[intOf];omega
     · obtain rfl:i=M+2:=by omega
       have hd1:decide (((M+2:Nat):Int)<(M:Int)+2)=false:=decide_eq_false (by omega)
       have hrv:numOf W32 d32 rs=a % b:=by
        have h1:=shr_end hD0 Hv.out Hz0.out
        unfold numOf
        rw[Hrl.out,h1,Hzv.out,Hfin.out.2]
       have hqv:numOf W32 d32 qs=a / b:=by
        unfold numOf
        rw[Hql.out,Hfin.out.1]
       have Hrv:=hide hrv
       have Hqv:=hide hqv
       have hEw:=hEW.trans hE
       have hB4:=hC4.ext hE
       have hB5:=hC5.ext hE
       clear hrv hqv
       go_wp2_with fail
       refine(trim_any (some ⟨gq,0,none⟩) (p+1) (p+1) qs _ Hql.out (Nat.le_refl _) (by unfold maxLen;omega) hOq.sl).mono ?_
       rintro e w14 ⟨A14,l14,c14,rfl,hV14,hU14⟩
       rw[Hqv.out]at hV14
       go_wp2_with fail
       refine(trim_any (some ⟨gr,0,none⟩) (M+2) (M+2) rs _ Hrl.out (Nat.le_refl _) (by unfold maxLen;omega) (hOr.ext hU14).sl).mono ?_
       rintro e w15 ⟨A15,l15,c15,rfl,hV15,hU15⟩
       rw[Hrv.out]at hV15
       have hB4':=(hB4.ext hU14).ext hU15
       have hB5':=(hB5.ext hU14).ext hU15
       have hEw':=(hEw.trans hU14).trans hU15
       have hV14':=hV14.ext hU15
       clear hB4 hB5 hEw hU14 hU15 hV14 hOr hOu hOq hE
       have c4:=hB4'.cell
       have f4:=hB4'.frozen
       have c5:=hB5'.far (p:=⟨w.heap.size+1+1,0,none⟩) (by simp) (.slice A14 l14 c14)
       have d5:=c5.cell
       have f5:=c5.frozen
       go_wp2
       have q4:=((hB4'.set (.slice A14 l14 c14)).far (p:=⟨w.heap.size+1+1+1,0,none⟩) (by simp) (.slice A15 l15 c15)).cell
       have q5:=((hB5'.far (p:=⟨w.heap.size+1+1,0,none⟩) (by simp) (.slice A14 l14 c14)).set (.slice A15 l15 c15)).cell
       exact bodyPost_ret (v:=.tuple #[.agg #[.slice A14 l14 c14],.agg #[.slice A15 l15 c15],.int .i64 0]) (by simp[results,Try.results29,go_sem,q4,q5]) rfl ⟨_,_,_,_,_,_,rfl,(hV14'.far (v:=.slice A14 l14 c14) c4).far (v:=.slice A15 l15 c15) d5,(hV15.far (v:=.slice A14 l14 c14) c4).far (v:=.slice A15 l15 c15) d5,(hEw'.setCell (p:=⟨w.heap.size+1+1,0,none⟩) (.inr (by simp;omega)) _).setCell (p:=⟨w.heap.size+1+1+1,0,none⟩) (.inr (by simp;omega)) _⟩
  · obtain rfl:cc=(j:Int):=by omega
    have hs2:∀w,(Instr.sliceAt 31 (.slice (some ⟨gu,0,none⟩) (M+2+p+1) (M+2+p+1)) (some (.int .i64 (j:Int))) (some (.int .i64 ((j:Int)+((M:Int)+2)+1))) none).run Try.prog w=.ok (.slice (some ⟨gu,j,none⟩) (M+3) (M+2+p+1 - j)) w:=fun w=>by
      have h:=run_cut_lh Try.n_el32.under Try.n_sz32 (some ⟨gu,0,none⟩) (M+2+p+1) (M+2+p+1) j (j+M+3) .i64 .i64 (by omega) (by omega) w
      rw[shA_some,if_neg (by omega),Nat.zero_add,show j+M+3 - j=M+3 by omega]at h
      rw[show(j:Int)+((M:Int)+2)+1=((j+M+3:Nat):Int) by omega]
      exact h
    have hj0:(0:Int)≤(j:Int):=by omega
    have hj1:(j:Int)≤1000000:=by omega
    have hM1:(M:Int)≤1000000:=by omega
    clear hcc
    have hwin:=hide (window_lt (β:=W32) (u:=dig d32 zs) (nu:=M+2+p+1) (m:=M+2) (j:=j) (V:=b*D) (by decide) Hv2.out (by omega))
    go_wp2_with fail
    refine(digit_any W.heap.size gu (M+2+p+1) j M (M+2+p+1 - j) (M+2+1) (some ⟨gv,0,none⟩) zs (vs.take (M+2)) _ hOu (by rw[Hzl.out];omega) (by rw[Hzl.out];omega) (by rw[List.length_take,Hvl.out];omega) hSv (fun k hk=>by simp[inA]at hk;omega) (by omega) (by omega) Hvtop.out (by rw[vf_congr (fun i hi=>dig_take hi),Hvv.out];exact hwin.out)).mono ?_
    rintro e w10 ⟨⟨zs',rfl,hzl',hO10,hun,hval⟩,hU10⟩
    rw[vf_congr (f:=dig d32 (vs.take (M+2))) (g:=dig d32 vs) (fun i hi=>dig_take hi),Hvv.out]at hval ⊢
    have hOq10:=hOq.upd hU10 (fun k hk hk2=>by simp[inA]at hk;unfold only at hk2;omega)
    have hcz:=hOq10.row.cell (i:=j) (by rw[Hql.out];omega)
    have Hval:=hide hval
    have Hun:=hide hun
    have Hzl':=hide hzl'
    clear hval hun hzl'
    obtain⟨X,hX⟩:∃X,X=vf W32 (fun i=>dig d32 zs (j+i)) (M+2+1):=⟨_,rfl⟩
    rw[←hX]
    have HX:=hide hX
    clear hX
    go_wp2_with (refine wpList_store_own by32 one32 (w32 ((X / (b*D):Nat):Int)) rfl rfl Try.n_sz32 rfl rfl hOq10 (by rw[Hql.out];omega) ?_;intro w11 hO11 hU11)
    go_roundw
    case rel=>
     have hst:=div_step (β:=W32) (q:=dig d32 qs) (q':=dig d32 (qs.set j (w32 ((X / (b*D):Nat):Int)))) (u:=dig d32 zs) (u':=dig d32 zs') (nq:=p+1) (nu:=M+2+p+1) (m:=M+2) (j:=j) (V:=b*D) (by decide) Hv1.out Hv2.out (Nat.le_of_lt HVhi.out) (Nat.mul_pos (by omega) hD0) (Hq0.out j (by omega)) (by omega) (by omega) (vf_lt fun i _=>d32_lt _) (fun i _ hi=>Hun.out i hi) Hval.out (by
       funext i
       rw[dig_set (by rw[Hql.out];omega)]
       by_cases e:i=j
       · rw[if_pos e,if_pos e,d32_w32,←HX.out,Nat.mod_eq_of_lt]
         refine Nat.div_lt_of_lt_mul ?_
         rw[HX.out,Nat.mul_comm]
         exact hwin.out
       · rw[if_neg e,if_neg e])
     exact⟨j,_,zs',_,by omega,rfl,rfl,by rw[Hzl'.out,Hzl.out],by rw[List.length_set];exact Hql.out,hO10.upd hU11 (fun k hk hk2=>by simp[inA]at hk;unfold only at hk2;omega),hO11,(hSv.upd hU10 (fun b o hb hk2=>by cases hb;unfold only at hk2;omega)).upd hU11 (fun b o hb hk2=>by cases hb;unfold only at hk2;omega),hst.1,hst.2,fun i hi=>by rw[dig_set (by rw[Hql.out];omega),if_neg (by omega)];exact Hq0.out i (by omega),Upd.fresh hU11 (Upd.fresh hU10 hE (fun i hi=>by unfold only at hi;omega)) (fun i hi=>by unfold only at hi;omega)⟩
    case measure=>simp[intOf]
end
/- Division of numbers, all cases; the greatest number that divides two, walked: Gcd. -/
section
open Go.RowKit
open Nt
attribute [local go_sem] by32 wrap_w32 steady steadyUpon Cls same_cell
theorem div_any (va vb:Value) (a b k:Nat) (w:World) (hVa:NatV w va a) (hVb:NatV w vb b) (hFa:Fit k a) (hFb:Fit k b) (hk:k≤1000000) (hb0:0<b):
 Calls Try.prog 29 #[va,vb] w (RetD w (a / b) (a % b) 0):=by
 by_cases hab:a<b
 · rw[Nat.div_eq_of_lt hab,Nat.mod_eq_of_lt hab]
   exact div_less va vb a b k w hVa hVb hFa hFb hk hab
 · by_cases hW:b<W32
   · exact div_one va vb a b k w hVa hVb hFa hFb hk hab hb0 hW
   · obtain⟨B,lb,cb,ys,rfl,hly,hcb,hmb,hSb,hTb,hnb⟩:=hVb.open_
     have h2:2≤lb:=by
      rcases Nat.lt_or_ge lb 2 with h | h
      · have h1:=numOf_lt (xs:=ys) d32_lt
        rw[hnb,hly]at h1
        have h3:W32^lb≤W32^1:=Nat.pow_le_pow_right (by decide) (by omega)
        rw[Nat.pow_one]at h3
        omega
      · exact h
     obtain⟨M,rfl⟩:∃M,lb=M+2:=⟨lb - 2,by omega⟩
     exact div_many va B cb M a b k ys w hVa hVb hFa hFb hk hab hly hcb hmb hSb hTb hnb
theorem NatV.uniq {w:World} {v:Value} {n m:Nat} (h:NatV w v n) (h':NatV w v m):n=m:=by
 obtain⟨A,l,c,xs,rfl,hl,_,_,hS,_,hn⟩:=h.open_
 obtain⟨A',l',c',ys,e,hl',_,_,hS',_,hn'⟩:=h'.open_
 cases e
 rw[←hn,←hn']
 unfold numOf
 rw[hl,hl']
 refine vf_congr fun i hi=>?_
 obtain⟨b,o,rfl,h1⟩:=hS i (by omega)
 obtain⟨b',o',e,h2⟩:=hS' i (by omega)
 cases e
 rw[h1]at h2
 unfold dig
 injection h2 with h2
 unfold by32 at h2
 injection h2 with _ h2
 unfold n32 at h2
 unfold d32
 omega
theorem name_w {P:Program} {c:Code} {Q:Exit→Act→World→Prop} {a:Act} {W:World} (h:∀W',W'=W→c.wp P Q a W'):c.wp P Q a W:=h W rfl
noncomputable def natAt (w:World) (g:Nat):Nat:=by
 classical
 exact if h:∃n s,w.cell? ⟨g,0,none⟩=some s∧NatV w (.agg #[s]) n then Classical.choose h else 0
theorem natAt_eq {w:World} {g n:Nat} {s:Value} (hc:w.cell? ⟨g,0,none⟩=some s) (h:NatV w (.agg #[s]) n):natAt w g=n:=by
 have hex:∃n s,w.cell? ⟨g,0,none⟩=some s∧NatV w (.agg #[s]) n:=⟨n,s,hc,h⟩
 unfold natAt
 rw[dif_pos hex]
 obtain⟨s',h1,h2⟩:=Classical.choose_spec hex
 rw[hc]at h1
 injection h1 with h1
 subst h1
 exact h2.uniq h
set_option maxRecDepth 100000 in
set_option maxHeartbeats 4000000 in
theorem gcd_any (va vb:Value) (a b k:Nat) (w:World) (hVa:NatV w va a) (hVb:NatV w vb b) (hFa:Fit k a) (hFb:Fit k b) (hk:k≤1000000):
 Calls Try.prog 104 #[va,vb] w (RetN w (Nat.gcd a b)):=by
 obtain⟨A,la,ca,xs,rfl, -⟩:=hVa.open_
 obtain⟨B,lb,cb,ys,rfl, -⟩:=hVb.open_
 go_enter Try.func104,Try.ntmps104
 go_wp2_with fail
 go_loopw [] (fun wx=>∃(x y:Nat) (X:Option Addr) (lx cx:Nat) (Y:Option Addr) (ly cy:Nat),Box wx w.heap.size 33 (.slice X lx cx)∧Box wx (w.heap.size+1) 33 (.slice Y ly cy)∧Box wx (w.heap.size+1+1) 33 (.slice none 0 0)∧NatV wx (.agg #[.slice X lx cx]) x∧NatV wx (.agg #[.slice Y ly cy]) y∧Fit k x∧Fit k y∧Nat.gcd x y=Nat.gcd a b∧Ext w wx) (fun wx=>natAt wx (w.heap.size+1))
 case atStart=>exact⟨a,b,A,la,ca,B,lb,cb,(by repeat (first | (with_reducible refine Box.new_at ?_;(simp;done)) | (with_reducible assumption) | (with_reducible refine Box.alloc ?_ _) | (with_reducible refine Box.drew ?_) | (with_reducible refine Box.ext ?_ (by with_reducible assumption)))),(by repeat (first | (with_reducible refine Box.new_at ?_;(simp;done)) | (with_reducible assumption) | (with_reducible refine Box.alloc ?_ _) | (with_reducible refine Box.drew ?_) | (with_reducible refine Box.ext ?_ (by with_reducible assumption)))),(by repeat (first | (with_reducible refine Box.new_at ?_;(simp;done)) | (with_reducible assumption) | (with_reducible refine Box.alloc ?_ _) | (with_reducible refine Box.drew ?_) | (with_reducible refine Box.ext ?_ (by with_reducible assumption)))),hVa.ext (by repeat (first | (with_reducible exact Upd.refl _ _) | (with_reducible assumption) | (refine Upd.setCell ?_ (.inr (by first | exact Nat.le_refl _ | (dsimp only;omega) | (simp;done) | (simp;omega))) _) | (with_reducible refine Upd.alloc ?_ _) | (with_reducible refine Upd.drew ?_) | (with_reducible refine Upd.trans ?_ (by with_reducible assumption)))),hVb.ext (by repeat (first | (with_reducible exact Upd.refl _ _) | (with_reducible assumption) | (refine Upd.setCell ?_ (.inr (by first | exact Nat.le_refl _ | (dsimp only;omega) | (simp;done) | (simp;omega))) _) | (with_reducible refine Upd.alloc ?_ _) | (with_reducible refine Upd.drew ?_) | (with_reducible refine Upd.trans ?_ (by with_reducible assumption)))),hFa,hFb,rfl,(by repeat (first | (with_reducible exact Upd.refl _ _) | (with_reducible assumption) | (refine Upd.setCell ?_ (.inr (by first | exact Nat.le_refl _ | (dsimp only;omega) | (simp;done) | (simp;omega))) _) | (with_reducible refine Upd.alloc ?_ _) | (with_reducible refine Upd.drew ?_) | (with_reducible refine Upd.trans ?_ (by with_reducible assumption))))⟩
 case round=>
  obtain⟨x,y,X,lx,cx,Y,ly,cy,hB1,hB2,hB3,hVx,hVy,hFx,hFy,hg,hE⟩:=hrel
  have Hg:=hide hg
  clear hg
  have c1:=hB1.cell
  have c2:=hB2.cell
  by_cases hy:y=0
  · subst hy
    have c3:=hB3.cell
    have f3:=hB3.frozen
    go_wp2_with (go_at_call 30;go_must (refine(zero_any _ 0 _ hVy).mono ?_);rintro e w4 ⟨rfl,hU4⟩;have hB1':=hB1.ext hU4;have hB3':=hB3.ext hU4;have d1:=hB1'.cell;have d3:=hB3'.cell;have f3':=hB3'.frozen)
    have q4:=(hB3'.set (.slice X lx cx)).cell
    have hgx:x=Nat.gcd a b:=by rw[←Hg.out,Nat.gcd_zero_right]
    exact bodyPost_ret (v:=.agg #[.slice X lx cx]) (by simp[results,Try.results104,go_sem,q4]) rfl ⟨_,_,_,rfl,((hVx.ext hU4).far d3).of_eq hgx,(hE.trans hU4).setCell (p:=⟨w.heap.size+1+1,0,none⟩) (.inr (by simp;omega)) _⟩
  · have Hy:=hide hVy
    have k2:=hB2
    go_wp2_with (first
     | (go_at_call 30;go_must (refine(zero_any _ y _ hVy).mono ?_);rintro e w4 ⟨rfl,hU4⟩;have hB1':=hB1.ext hU4;have hB2':=hB2.ext hU4;have hB3':=hB3.ext hU4;have d1:=hB1'.cell;have d2:=hB2'.cell;clear c1 c2)
     | (go_at_call 29;go_must (refine(div_any _ _ x y k _ (hVx.ext hU4) (hVy.ext hU4) hFx hFy hk (by omega)).mono ?_);rintro e w5 ⟨A1,l1,c1,A2,l2,c2,rfl,hV1,hV2,hU5⟩;have hB1'':=hB1'.ext hU5;have hB2'':=hB2'.ext hU5;have hB3'':=hB3'.ext hU5;clear d1 d2 hB1' hB2' hB3'))
    refine name_w (fun W hW=>?_)
    have hz5:w.heap.size+1+1<w5.heap.size:=hB3''.lt
    have b1:Box W w.heap.size 33 (.slice X lx cx):=by rw[hW];exact(hB1''.alloc _).alloc _
    have b2:Box W (w.heap.size+1) 33 (.slice Y ly cy):=by rw[hW];exact(hB2''.alloc _).alloc _
    have b3:Box W (w.heap.size+1+1) 33 (.slice none 0 0):=by rw[hW];exact(hB3''.alloc _).alloc _
    have b6:Box W (w5.heap.size+1) 33 (.slice A2 l2 c2):=by rw[hW];exact Box.new_at (by simp)
    have hEW:Ext w W:=by rw[hW];exact((((hE.trans hU4).trans hU5).alloc _).alloc _)
    have hVy':NatV W (.agg #[.slice Y ly cy]) y:=by rw[hW];exact hVy.ext (((hU4.trans hU5).alloc _).alloc _)
    have hV2':NatV W (.agg #[.slice A2 l2 c2]) (x % y):=by rw[hW];exact hV2.ext (((Upd.refl _ w5).alloc _).alloc _)
    clear hW hB1'' hB2'' hB3'' hU4 hU5 hB1 hB2 hB3 hE hVx
    have k2':=fun x:Wd (Upd (only w.heap.size) W.drew)=>(x.ok.cell (p:=⟨w.heap.size+1,0,none⟩) b2.drew.lt (by unfold only;simp)).trans b2.drew.cell
    have k6:=fun x:Wd (Upd (only w.heap.size) W.drew)=>(x.ok.cell (p:=⟨w5.heap.size+1,0,none⟩) b6.drew.lt (by unfold only;simp;omega)).trans b6.drew.cell
    refine wp_region_plan (Upd (only w.heap.size) _) 3 [(false,0),(false,1),(true,2)] (by kernel_rfl) (by kernel_rfl) (Upd.refl _ _) (fun hne=>?_)
    repeat (refine head_q rfl (fun K hK=>?_);have hK2:=hide hK;clear hK;go_simp;refine hK2.out _ ?_;clear hK2 K)
    clear k2' k6
    refine head_l rfl ?_
    have m1:=b1.drew.cell
    have m2:=b1.drew.frozen
    go_wp2_with fail
    refine⟨Cls (Upd (only w.heap.size) W.drew),fun _ h=>h,⟨⟨_,(Upd.refl (only w.heap.size) W.drew).setCell (p:=⟨w.heap.size,0,none⟩) (.inl rfl) _⟩,rfl⟩,?_⟩
    refine head_nil ?_
    try simp only[List.drop_succ_cons,List.drop_zero]
    clear m1 m2
    have b2':=b2.far (p:=⟨w.heap.size,0,none⟩) (by simp) (.slice Y ly cy)
    have m3:=b2'.cell
    have m4:=b2'.frozen
    have m5:=b2.cell
    have m6:=b2.frozen
    go_wp2_with fail
    go_roundw
    case rel=>exact⟨y,x % y,_,_,_,_,_,_,(b1.set _).far (by simp) _,b2'.set _,((b3.far (by simp;omega) _).far (by simp) _),(hVy'.far (v:=.slice Y ly cy) b1.cell).far b2'.cell,(hV2'.far (v:=.slice Y ly cy) b1.cell).far b2'.cell,hFy,Nat.lt_of_le_of_lt (Nat.mod_le _ _) hFx,by rw[←Hg.out,Nat.gcd_comm x y,Nat.gcd_rec y x,Nat.gcd_comm],((hEW.setCell (p:=⟨w.heap.size,0,none⟩) (.inr (by simp)) _).setCell (p:=⟨w.heap.size+1,0,none⟩) (.inr (by simp)) _).drew⟩
    case measure=>
     have e1:=natAt_eq (b2'.set (.slice A2 l2 c2)).drew.cell (show NatV ((W.setCell ⟨w.heap.size,0,none⟩ (.slice Y ly cy)).setCell ⟨w.heap.size+1,0,none⟩ (.slice A2 l2 c2)).drew _ _ from((hV2'.far (v:=.slice Y ly cy) b1.cell).far (v:=.slice A2 l2 c2) b2'.cell))
     have e2:=natAt_eq k2.cell Hy.out
     rw[e1,e2]
     exact Nat.mod_lt _ (by omega)
end
end Go.Proofs.Ytbhhjfhepkbfgaa
