/- The document's step, walked: Holds. -/
import Derived.Test.YtbhhjfhepkbfgaaGnCertG
import Derived.Test.YtbhhjfhepkbfgaaGnCertV
namespace Go.Proofs.Ytbhhjfhepkbfgaa
set_option linter.unusedSimpArgs false
set_option linter.unusedVariables false
open Go.RowKit
open Nt Pk
attribute [local go_sem] steady steadyUpon Cls same_cell
attribute [local irreducible] wpHead wpTree
theorem blen_div {x p:Nat} (hp:2≤p) (hx:0<x):blen (x / p)<blen x:=by
 have h1:=blen_lt x
 have h2:x / p<2^(blen x - 1):=by
  refine Nat.div_lt_of_lt_mul ?_
  have h3:=blen_pos.2 hx
  have h4:2*2^(blen x - 1)=2^blen x:=by
   rw[←Nat.pow_succ']
   congr 1
   omega
  have:=Nat.mul_le_mul_right (2^(blen x - 1)) hp
  omega
 have:=blen_le_iff.2 h2
 have h3:=blen_pos.2 hx
 omega
def lenOf :Value→Nat
 | .slice _ l _=>l
 | _=>0
set_option maxRecDepth 100000 in
set_option maxHeartbeats 8000000 in
theorem rholds_any (A B C D:Option Addr) (lA cA lB cB n cC m cD N b K:Nat) (ps bs:List Nat) (w:World) (hVN:RefV w (.slice A lA cA) N) (hVb:RefV w (.slice B lB cB) b) (hLp:RefL w C ps) (hn:ps.length=n) (hne:n≤cC) (hce:cC≤maxLen)
 (hLb:RefL w D bs) (hm:bs.length=m) (hm2:m≤1000000) (hFN:Fit K N) (hFb:Fit K b) (hFp:FitL K ps) (hFbs:FitL K bs) (hK1:1≤K) (hK:K≤100):
 Calls Try.prog 92 #[.agg #[.slice A lA cA,.slice B lB cB,.slice C n cC],.slice D m cD] w (RetH w (holdsB N b ps bs)):=by
 obtain⟨t,ht⟩:∃t,t=holdsB N b ps bs:=⟨_,rfl⟩
 rw[←ht]
 obtain⟨kb,hkb⟩:∃kb,kb=32*(K*34+4):=⟨_,rfl⟩
 have hkb2:kb≤110000:=by omega
 have bfit:∀x,Fit (K*34+4) x→blen x≤kb:=fun x h=>by rw[hkb];exact h.blen
 have bK:∀x,Fit K x→blen x≤kb:=fun x h=>bfit x (h.mono (by omega))
 have bN:=bK N hFN
 have bb:=bK b hFb
 have bl1:blen 1≤kb:=bK 1 (Nat.lt_of_lt_of_le (show 1<W32^1 by decide) (Nat.pow_le_pow_right (by decide) hK1))
 have bmod:∀x,0<N→blen (x % N)≤kb:=fun x h=>blen_mod bN h
 have HlA:=hide hVN.len
 have Ht:=hide ht
 have Hn:=hide hn
 have Hm:=hide hm
 have HLp:=hide hLp
 have HLb:=hide hLb
 have HVN:=hide hVN
 have HVb:=hide hVb
 have Hbf:=hide bfit
 have HbK:=hide bK
 have Hlt:=hide (blen_lt2 (n:=N))
 unfold maxLen at hce
 clear ht hn hm hLp hLb hVN hVb hkb bfit bK
 go_enter Try.func92,Try.ntmps92
 go_wp2_with fail
 refine name_c (fun W hW=>?_)
 have s2:Three W w.heap.size 43 (.slice A lA cA) (.slice B lB cB) (.slice C n cC):=by rw[hW];exact Three.new _ _ _ _ _
 have hE:Ext w W:=by rw[hW];exact(Upd.refl _ w).alloc _
 clear hW
 refine(rsmall_any 1 _ (by omega)).mono ?_
 rintro e w1 ⟨A1,l1,c1,rfl,hV1,hU⟩
 replace s2:=s2.ext hU
 replace hE:=hE.trans hU
 clear hU
 have k0:=s2.cell0
 have k2:=s2.cell2
 by_cases h2:lA<2
 · obtain rfl:t=false:=Ht.out.trans (holds_no1 (Hlt.out.1 (by rw[←HlA.out];exact h2)))
   have h2I:(lA:Int)<2:=by omega
   go_wp2_with fail
   go_ret
   exact⟨rfl,hE⟩
 have h2I:decide ((lA:Int)<2)=false:=decide_eq_false (by omega)
 have hN2:2≤N:=Nat.le_of_not_lt fun h=>h2 (by rw[HlA.out];exact Hlt.out.2 h)
 by_cases hn1:n=0
 · obtain rfl:t=false:=Ht.out.trans (holds_no2 (by rw[Hn.out];omega))
   have hn1d:((n:Int) == 0)=true:=beq_iff_eq.2 (by omega)
   go_wp2_with fail
   go_ret
   exact⟨rfl,hE⟩
 have hn1d:((n:Int) == 0)=false:=beq_eq_false_iff_ne.2 (by omega)
 by_cases hn32:32<n
 · obtain rfl:t=false:=Ht.out.trans (holds_no2 (by rw[Hn.out];omega))
   have hn32d:decide ((32:Int)<(n:Int))=true:=decide_eq_true (by omega)
   go_wp2_with fail
   go_ret
   exact⟨rfl,hE⟩
 have hn32d:decide ((32:Int)<(n:Int))=false:=decide_eq_false (by omega)
 have HN2:=hide hN2
 have bL:blen (N - 1)≤kb:=blen_le_of (Nat.sub_le _ _) bN
 have h0N:Hid (0<N - 1):=hide (by omega)
 clear hN2 h2
 go_wp2_with fail
 refine(rsub_any _ _ N 1 kb _ (HVN.out.ext hE) hV1 bN (by omega) (by have:=HN2.out;omega)).mono ?_
 rintro e w2 ⟨A6,l6,c6,rfl,hV6,hU2⟩
 have hE2:=hE.trans hU2
 have t2:=s2.ext hU2
 have hV1b:=hV1.ext hU2
 have q2:=t2.cell2
 clear k0 k2 s2 hE hV1 hU2
 go_wp2_with fail
 have HV6:=hide hV6
 have HV1:=hide hV1b
 clear hV6
 go_loopw [7,45] (fun f i wr=>∃(j:Nat) (X:Option Addr) (lX cX:Nat),j≤n∧i=.int .i64 (j:Int)∧(∀q,q<j→okP N b ps bs q=true)∧f=.slice X lX cX∧RefV wr (.slice X lX cX) (facF N (ps.take j))∧Ext w2 wr) (fun _ i _=>n - (intOf i).toNat)
 case atStart=>exact⟨0,_,_,_,Nat.zero_le _,rfl,fun q hq=>by omega,rfl,hV1b,Upd.refl _ _⟩
 case round=>
  clear hV1b
  obtain⟨j,X,lX,cX,hj,rfl,hok,rfl,hVX,hEr⟩:=hrel
  refine name_w (fun Z hZ=>?_)
  subst hZ
  have Hok:=hide hok
  have hge:∀q,q<j→2≤gat ps q:=fun q hq=>by
    have h:=hok q hq
    unfold okP at h
    simp only[Bool.and_eq_true,decide_eq_true_iff]at h
    exact h.2.2.1
  have hFf:Fit (K*32+1) (facF N (ps.take j)):=by
   refine Nat.lt_of_lt_of_le (fit_fac (hFN.le (Nat.sub_le _ _)) h0N.out (ps.take j) (fun p hp=>?_)) (Nat.pow_le_pow_right (by decide) ?_)
   · obtain⟨q,hq,rfl⟩:=List.getElem_of_mem hp
     have hq2:q<j∧q<ps.length:=by rw[List.length_take]at hq;omega
     rw[List.getElem_take,←gat_lt hq2.2]
     exact hge q hq2.1
   · have h1:(ps.take j).length≤32:=by rw[List.length_take];omega
     have:=Nat.mul_le_mul_left K h1
     omega
  have HFf:=hide hFf
  have HVX:=hide hVX
  clear hFf hge hok hVX
  by_cases hlt:j<n
  · have hltI:(j:Int)<(n:Int):=by omega
    obtain⟨b1,o1,P,lP,cP,rfl,hcj,hVp⟩:=(HLp.out.ext' (hE2.trans hEr)).at (i:=j) (by rw[Hn.out];exact hlt)
    obtain⟨p,hp⟩:∃p,p=gat ps j:=⟨_,rfl⟩
    have bp:blen p≤kb:=by rw[hp];exact HbK.out _ (hFp j (by rw[Hn.out];exact hlt))
    rw[←hp]at hVp
    have Hp:=hide hp
    have HVp:=hide hVp
    have Hp2:=hide (blen_lt2 (n:=p))
    have HlP:=hide hVp.len
    have t2r:=t2.ext hEr
    have T2:=hide t2r
    clear hp hVp t2r
    go_wp2_with fail
    clear hcj
    go_loopw [10] (fun i wr'=>∃q:Nat,q≤j∧i=.int .i64 (q:Int)∧hasB (ps.take q) p=false∧Ext Z wr') (fun i _=>j - (intOf i).toNat)
    case atStart=>exact⟨0,Nat.zero_le _,rfl,rfl,Upd.refl _ _⟩
    case round=>
     obtain⟨q,hq,rfl,hno,hEq⟩:=hrel
     have Hno:=hide hno
     clear hno
     by_cases hqj:q<j
     · have hqI:(q:Int)<(j:Int):=by omega
       have hqn:(q:Int)<(n:Int):=by omega
       obtain⟨b2,o2,Q,lQ,cQ,e2,hcq,hVq⟩:=(HLp.out.ext' ((hE2.trans hEr).trans hEq)).at (i:=q) (by rw[Hn.out];omega)
       obtain⟨rfl,rfl⟩:b1=b2∧o1=o2:=by injection e2 with e2;injection e2 with e3 e4;exact⟨e3,e4⟩
       obtain⟨x,hx⟩:∃x,x=gat ps q:=⟨_,rfl⟩
       have bx:blen x≤kb:=by rw[hx];exact HbK.out _ (hFp q (by rw[Hn.out];omega))
       rw[←hx]at hVq
       have Hx:=hide hx
       have q2':=(T2.out.ext hEq).cell2
       clear hx e2
       go_wp2_with fail
       refine(rsame_any _ _ p x kb _ (HVp.out.ext hEq) hVq bp bx (by omega)).mono ?_
       rintro e w5 ⟨rfl,hU5⟩
       clear q2' hcq hVq
       by_cases hpx:p=x
       · rw[decide_eq_true hpx]
         obtain rfl:t=false:=Ht.out.trans (holds_no4 (i:=j) (by rw[Hn.out];exact hlt) (by
           unfold okP
           rw[←Hp.out,show hasB (ps.take j) p=true from hasB_yes (k:=q) (by rw[List.length_take,Hn.out];omega) (by rw[gat_take hqj,←Hx.out,hpx])]
           rfl))
         clear hpx
         go_wp2_with fail
         go_ret
         exact⟨rfl,((hE2.trans hEr).trans hEq).trans hU5⟩
       · rw[decide_eq_false hpx]
         have Hpx:=hide hpx
         clear hpx
         go_wp2_with fail
         go_roundw
         case rel=>exact⟨q+1,by omega,by go_num,by rw[hasB_take (by rw[Hn.out];omega),Hno.out,←Hx.out,Bool.false_or];exact beq_eq_false_iff_ne.2 (fun h=>Hpx.out h.symm),hEq.trans hU5⟩
         case measure=>simp[intOf];omega
     · obtain rfl:q=j:=by omega
       have hqI:¬(q:Int)<(q:Int):=by omega
       go_wp2_with fail
       refine(rsmallp_any _ p kb _ (HVp.out.ext hEq) bp (by omega)).mono ?_
       rintro e w6 ⟨rfl,hU6⟩
       obtain⟨sp,hsp⟩:∃sp,sp=smallB p:=⟨_,rfl⟩
       rw[←hsp]
       have Hsp:=hide hsp
       have hE6:=hEq.trans hU6
       clear hsp hU6 hEq
       go_wp2_with fail
       go_loopw [11,66] (fun th i wr'=>∃(u:Nat) (tb:Bool),u≤m∧i=.int .i64 (u:Int)∧th=.bool tb∧tb=(sp || hasB (bs.take u) p)∧Ext Z wr') (fun _ i _=>m - (intOf i).toNat)
       case atStart=>exact⟨0,sp,Nat.zero_le _,rfl,rfl,(Bool.or_false _).symm,hE6⟩
       case round=>
        clear hE6
        obtain⟨u,tb,hu,rfl,rfl,htb,hE6⟩:=hrel
        have Htb:=hide htb
        clear htb
        by_cases hum:u<m
        · have huI:(u:Int)<(m:Int):=by omega
          obtain⟨b3,o3,Q,lQ,cQ,rfl,hcq,hVq⟩:=(HLb.out.ext' ((hE2.trans hEr).trans hE6)).at (i:=u) (by rw[Hm.out];omega)
          obtain⟨x,hx⟩:∃x,x=gat bs u:=⟨_,rfl⟩
          have bx:blen x≤kb:=by rw[hx];exact HbK.out _ (hFbs u (by rw[Hm.out];omega))
          rw[←hx]at hVq
          have Hx:=hide hx
          clear hx
          cases tb with
          | true=>
            go_wp2_with fail
            go_roundw
            case rel=>exact⟨u+1,true,by omega,by go_num,rfl,by rw[hasB_take (by rw[Hm.out];exact hum),←Bool.or_assoc,←Htb.out,Bool.true_or],hE6⟩
            case measure=>simp[intOf];omega
          | false=>
            go_wp2_with fail
            refine(rsame_any _ _ x p kb _ hVq (HVp.out.ext hE6) bx bp (by omega)).mono ?_
            rintro e w7 ⟨rfl,hU7⟩
            obtain⟨dd,hdd⟩:∃dd,dd=decide (x=p):=⟨_,rfl⟩
            rw[←hdd]
            have Hdd:=hide hdd
            clear hdd hcq hVq
            cases dd with
            | true=>
              go_wp2_with fail
              go_roundw
              case rel=>exact⟨u+1,true,by omega,by go_num,rfl,by rw[hasB_take (by rw[Hm.out];exact hum),←Bool.or_assoc,←Htb.out,Bool.false_or,←Hx.out];exact(beq_iff_eq.2 (decide_eq_true_iff.1 Hdd.out.symm)).symm,hE6.trans hU7⟩
              case measure=>simp[intOf];omega
            | false=>
              go_wp2_with fail
              go_roundw
              case rel=>exact⟨u+1,false,by omega,by go_num,rfl,by rw[hasB_take (by rw[Hm.out];exact hum),←Bool.or_assoc,←Htb.out,Bool.false_or,←Hx.out];exact(beq_eq_false_iff_ne.2 (decide_eq_false_iff_not.1 Hdd.out.symm)).symm,hE6.trans hU7⟩
              case measure=>simp[intOf];omega
        · obtain rfl:u=m:=by omega
          have huI:¬(u:Int)<(u:Int):=by omega
          have hkn:tb=knownB bs p:=by
           have:=Htb.out
           rw[List.take_of_length_le (by rw[Hm.out];omega),Hsp.out,Bool.or_comm]at this
           exact this
          have Hkn:=hide hkn
          have hEw:=(hE2.trans hEr).trans hE6
          clear hkn
          cases tb with
          | false=>
            obtain rfl:t=false:=Ht.out.trans (holds_no4 (i:=q) (by rw[Hn.out];exact hlt) (by
              unfold okP
              rw[←Hp.out,←Hkn.out,Bool.false_and,Bool.and_false]))
            go_wp2_with fail
            go_ret
            exact⟨rfl,hEw⟩
          | true=>
            by_cases hp2:lP<2
            · have hp2I:(lP:Int)<2:=by omega
              have hpl:p<2:=Hp2.out.1 (by rw[←HlP.out];exact hp2)
              obtain rfl:t=false:=Ht.out.trans (holds_no4 (i:=q) (by rw[Hn.out];exact hlt) (by
                unfold okP
                rw[←Hp.out,decide_eq_false (show ¬2≤p by omega),Bool.false_and,Bool.and_false,Bool.and_false]))
              clear hpl
              go_wp2_with fail
              go_ret
              exact⟨rfl,hEw⟩
            have hp2I:¬(lP:Int)<2:=by omega
            have hp2':2≤p:=Nat.le_of_not_lt fun h=>hp2 (by rw[HlP.out];exact Hp2.out.2 h)
            clear hp2
            go_wp2_with fail
            refine(rdiv_any _ _ (N - 1) p kb _ (HV6.out.ext (hEr.trans hE6)) (HVp.out.ext hE6) bL bp (by omega) (by omega)).mono ?_
            rintro e w8 ⟨A14,l14,c14,A15,l15,c15,rfl,hV14,hV15,hU8⟩
            have hl15:=hV15.len
            have hE8:=hE6.trans hU8
            clear hU8 hE6
            by_cases hr0:0<l15
            · have hr0I:(0:Int)<(l15:Int):=by omega
              have hdv:¬(N - 1) % p=0:=fun h=>by
                have:=blen_pos.1 (hl15▸hr0)
                omega
              obtain rfl:t=false:=Ht.out.trans (holds_no4 (i:=q) (by rw[Hn.out];exact hlt) (by
                unfold okP
                rw[←Hp.out,decide_eq_false hdv,Bool.false_and,Bool.and_false,Bool.and_false,Bool.and_false]))
              clear hdv hl15
              go_wp2_with fail
              go_ret
              exact⟨rfl,(hE2.trans hEr).trans hE8⟩
            have hr0I:¬(0:Int)<(l15:Int):=by omega
            have hdv:(N - 1) % p=0:=Nat.eq_zero_of_not_pos fun h=>hr0 (by rw[hl15];exact blen_pos.2 h)
            have Hdv:=hide hdv
            have HV14:=hide hV14
            have bt:blen ((N - 1) / p)≤kb:=blen_le_of (Nat.div_le_self _ _) bL
            clear hdv hr0 hl15 hV15 hV14
            have u2:=T2.out.ext hE8
            have k0:=fun z:Wd (Ext w8.drew)=>(z.ok.cell (p:=⟨w.heap.size,0,none⟩) u2.drew.lt (fun h=>h)).trans u2.drew.cell0
            have k1:=fun z:Wd (Ext w8.drew)=>(z.ok.cell (p:=⟨w.heap.size,1,none⟩) u2.drew.lt (fun h=>h)).trans u2.drew.cell1
            have hEw8:=(hE2.trans hEr).trans hE8
            have hNp:0<N:=by have:=HN2.out;omega
            go_wp2_with fail
            refine wp_region_plan (Ext _) 13 [(false,0),(false,1),(false,2),(false,3),(false,4),(false,6),(false,7),(false,8),(false,10),(false,11),(true,5),(true,9),(true,12)] (by kernel_rfl) (by kernel_rfl) (Upd.refl _ _) (fun hne=>?_)
            repeat (refine head_q rfl (fun K hK=>?_);have hK2:=hide hK;clear hK;go_simp;refine hK2.out _ ?_;clear hK2 K)
            refine head_l rfl ?_
            go_wp2_with (refine(rexp_any _ _ _ b ((N - 1) / p) N kb _ (HVb.out.ext hEw8.drew) (HV14.out.ext (Upd.refl _ _).drew) (HVN.out.ext hEw8.drew) bb bt bN (by omega) hNp).mono ?_;rintro e w9 ⟨A18,l18,c18,rfl,hV18,hU9⟩)
            refine⟨Cls (Ext _),fun _ h=>h,⟨⟨_,hU9⟩,rfl⟩,?_⟩
            repeat (refine head_q rfl (fun K hK=>?_);have hK2:=hide hK;clear hK;go_simp;refine hK2.out _ ?_;clear hK2 K)
            have hE9:Ext w8 w9:=hU9.undrew
            refine head_l rfl ?_
            go_wp2_with (refine(rmsub_any _ _ _ (b^((N - 1) / p) % N) 1 N kb _ hV18 (HV1.out.ext ((hEr.trans hE8).trans hE9)) (HVN.out.ext (hEw8.trans hE9)) (bmod _ hNp) bl1 bN (by omega) hNp).mono ?_;rintro e w10 ⟨A19,l19,c19,rfl,hV19,hU10⟩)
            refine⟨Cls (Ext _),fun _ h=>h,⟨⟨_,(hU9.trans hU10)⟩,rfl⟩,?_⟩
            repeat (refine head_q rfl (fun K hK=>?_);have hK2:=hide hK;clear hK;go_simp;refine hK2.out _ ?_;clear hK2 K)
            have hE10:Ext w8 w10:=(hU9.trans hU10).undrew
            refine head_l rfl ?_
            go_wp2_with (refine(rgcd_any _ _ (subm (b^((N - 1) / p) % N) 1 N) N kb _ hV19 (HVN.out.ext (hEw8.trans hE10)) (bmod _ hNp) bN (by omega)).mono ?_;rintro e w11 ⟨A20,l20,c20,rfl,hV20,hU11⟩)
            refine⟨Cls (Ext _),fun _ h=>h,⟨⟨_,((hU9.trans hU10).trans hU11)⟩,rfl⟩,?_⟩
            repeat (refine head_q rfl (fun K hK=>?_);have hK2:=hide hK;clear hK;go_simp;refine hK2.out _ ?_;clear hK2 K)
            have hE11:Ext Z w11:=hE8.trans ((hU9.trans hU10).trans hU11).undrew
            clear k0 k1 hE9 hE10 hU9 hU10 hU11 hV18 hV19 u2
            refine head_nil ?_
            try simp only[List.drop_succ_cons,List.drop_zero]
            obtain⟨gd,hgd⟩:∃gd,gd=Nat.gcd (subm (b^((N - 1) / p) % N) 1 N) N:=⟨_,rfl⟩
            have bg:blen gd≤kb:=by rw[hgd];exact blen_le_of (Nat.le_of_dvd hNp (Nat.gcd_dvd_right _ _)) bN
            rw[←hgd]at hV20
            have Hgd:=hide hgd
            clear hgd
            go_wp2_with fail
            refine(rsame_any _ _ gd 1 kb _ hV20 (HV1.out.ext (hEr.trans hE11)) bg bl1 (by omega)).mono ?_
            rintro e w12 ⟨rfl,hU12⟩
            have hE12:=hE11.trans hU12
            clear hV20 hE11 hU12
            by_cases hg1:gd=1
            · rw[decide_eq_true hg1]
              have hokq:okP N b ps bs q=true:=by
               unfold okP
               rw[←Hp.out,Hno.out,←Hkn.out,decide_eq_true hp2',decide_eq_true Hdv.out,decide_eq_true (show Nat.gcd (subm (b^((N - 1) / p) % N) 1 N) N=1 by rw[←Hgd.out];exact hg1)]
               rfl
              have Hokq:=hide hokq
              clear hokq hg1
              go_wp2_with fail
              go_loopw [7,17] (fun f r wr'=>∃(x y:Nat) (Y:Option Addr) (lY cY:Nat) (R:Option Addr) (lR cR:Nat),f=.slice Y lY cY∧r=.slice R lR cR∧RefV wr' (.slice Y lY cY) y∧RefV wr' (.slice R lR cR) x∧0<x∧x≤N - 1∧y*vpow x p=facF N (ps.take q)*vpow (N - 1) p∧Ext Z wr') (fun _ r _=>lenOf r)
              case atStart=>exact⟨N - 1,facF N (ps.take q),_,_,_,_,_,_,rfl,rfl,HVX.out.ext hE12,HV6.out.ext (hEr.trans hE12),h0N.out,Nat.le_refl _,rfl,hE12⟩
              case round=>
               clear hE12 hE8 hEw8 hEw
               obtain⟨x,y,Y,lY,cY,R,lR,cR,rfl,rfl,hVy,hVx,hx0,hxN,hyx,hEz⟩:=hrel
               have by':blen y≤kb:=Hbf.out y (by
                have h1:=vpow_pos x p hp2' hx0
                have h2:=Nat.le_mul_of_pos_right y h1
                rw[hyx]at h2
                have h3:vpow (N - 1) p<W32^K:=Nat.lt_of_le_of_lt (vpow_le hp2' h0N.out) (hFN.le (Nat.sub_le _ _))
                have h4:facF N (ps.take q)*vpow (N - 1) p<W32^(K*32+1)*W32^K:=Nat.mul_lt_mul'' HFf.out h3
                rw[←Nat.pow_add]at h4
                exact Nat.lt_of_le_of_lt h2 (Nat.lt_of_lt_of_le h4 (Nat.pow_le_pow_right (by decide) (by omega))))
               have bx:blen x≤kb:=blen_le_of hxN bL
               have hlR:=hVx.len
               have HlR:=hide hlR
               have Hyx:=hide hyx
               have HVy:=hide hVy
               clear hlR hyx hVy
               go_wp2_with fail
               refine(rdiv_any _ _ x p kb _ hVx (HVp.out.ext hEz) bx bp (by omega) (by omega)).mono ?_
               rintro e w13 ⟨A18,l18,c18,A19,l19,c19,rfl,hV18,hV19,hU13⟩
               have hl19:=hV19.len
               have hl18:=hV18.len
               have Hl18:=hide hl18
               clear hl18
               by_cases hr0:0<l19
               · have hr0I:(0:Int)<(l19:Int):=by omega
                 have hdx:¬x % p=0:=fun h=>by
                   have:=blen_pos.1 (hl19▸hr0)
                   omega
                 have hyf:y=facF N (ps.take (q+1)):=by
                  have:=Hyx.out
                  rw[vpow_no hdx,Nat.mul_one]at this
                  rw[facF_take (by rw[Hn.out];exact hlt),←Hp.out]
                  exact this
                 have hVf:RefV w13 (.slice Y lY cY) (facF N (ps.take (q+1))):=(HVy.out.ext hU13).of_eq hyf
                 have HVf:=hide hVf
                 clear hl19 hdx hyf hVf hV18 hV19 hVx
                 go_wp2_with fail
                 go_roundw
                 case rel=>
                  refine⟨q+1,_,_,_,by omega,by go_num,fun r hr=>?_,rfl,HVf.out,hEr.trans (hEz.trans hU13)⟩
                  rcases Nat.lt_or_ge r q with h | h
                  · exact Hok.out r h
                  · obtain rfl:r=q:=by omega
                    exact Hokq.out
                 case measure=>simp[intOf];omega
               · have hr0I:¬(0:Int)<(l19:Int):=by omega
                 have hdx:x % p=0:=Nat.eq_zero_of_not_pos fun h=>hr0 (by rw[hl19];exact blen_pos.2 h)
                 have hxp:0<x / p:=Nat.div_pos (Nat.le_of_dvd hx0 (Nat.dvd_of_mod_eq_zero hdx)) (by omega)
                 have hyx2:y*p*vpow (x / p) p=facF N (ps.take q)*vpow (N - 1) p:=by rw[Nat.mul_assoc,←vpow_yes hp2' hx0 hdx];exact Hyx.out
                 have hlen:l18<lR:=by rw[Hl18.out,HlR.out];exact blen_div hp2' hx0
                 have Hyx2:=hide hyx2
                 have HV18:=hide hV18
                 clear hyx2 hl19 hdx hV18 hV19 hVx hr0
                 go_wp2_with fail
                 refine(rmul_any _ _ y p kb _ (HVy.out.ext hU13) (HVp.out.ext (hEz.trans hU13)) by' bp (by omega)).mono ?_
                 rintro e w14 ⟨A21,l21,c21,rfl,hV21,hU14⟩
                 go_wp2_with fail
                 go_roundw
                 case rel=>exact⟨x / p,y*p,_,_,_,_,_,_,rfl,rfl,hV21,HV18.out.ext hU14,hxp,Nat.le_trans (Nat.div_le_self _ _) hxN,Hyx2.out,(hEz.trans hU13).trans hU14⟩
                 case measure=>simp[lenOf];omega
            · rw[decide_eq_false hg1]
              obtain rfl:t=false:=Ht.out.trans (holds_no4 (i:=q) (by rw[Hn.out];exact hlt) (by
                unfold okP
                rw[←Hp.out,decide_eq_false (show ¬Nat.gcd (subm (b^((N - 1) / p) % N) 1 N) N=1 by rw[←Hgd.out];exact hg1),Bool.and_false,Bool.and_false,Bool.and_false,Bool.and_false]))
              clear hg1
              go_wp2_with fail
              go_ret
              exact⟨rfl,(hE2.trans hEr).trans hE12⟩
  · obtain rfl:j=n:=by omega
    have hltI:¬(j:Int)<(j:Int):=by omega
    have htk:ps.take j=ps:=List.take_of_length_le (by rw[Hn.out];omega)
    have hVF:=HVX.out
    have hFF:=HFf.out
    rw[htk]at hVF hFF
    obtain⟨F,hF⟩:∃F,F=facF N ps:=⟨_,rfl⟩
    rw[←hF]at hVF hFF
    have HF:=hide hF
    have HVF:=hide hVF
    have bF:blen F≤kb:=Hbf.out F (hFF.mono (by omega))
    have bFF:blen (F*F)≤kb+kb:=blen_mul' bF bF
    have t2r:=t2.ext hEr
    have hEw:=hE2.trans hEr
    have hNp:0<N:=by have:=HN2.out;omega
    have k0:=fun z:Wd (Ext Z.drew)=>(z.ok.cell (p:=⟨w.heap.size,0,none⟩) t2r.drew.lt (fun h=>h)).trans t2r.drew.cell0
    have k1:=fun z:Wd (Ext Z.drew)=>(z.ok.cell (p:=⟨w.heap.size,1,none⟩) t2r.drew.lt (fun h=>h)).trans t2r.drew.cell1
    clear htk hF hVF hFF HVX HFf q2
    go_wp2_with fail
    refine wp_region_plan (Ext _) 17 [(false,0),(false,1),(false,2),(false,3),(false,4),(false,6),(true,5),(true,7),(false,8),(false,9),(false,10),(false,12),(false,13),(true,11),(true,14),(false,15),(false,16)] (by kernel_rfl) (by kernel_rfl) (Upd.refl _ _) (fun hne=>?_)
    repeat (refine head_q rfl (fun K hK=>?_);have hK2:=hide hK;clear hK;go_simp;refine hK2.out _ ?_;clear hK2 K)
    refine head_l rfl ?_
    go_wp2_with (refine(rexp_any _ _ _ b (N - 1) N kb _ (HVb.out.ext hEw.drew) (HV6.out.ext hEr.drew) (HVN.out.ext hEw.drew) bb bL bN (by omega) hNp).mono ?_;rintro e w9 ⟨A18,l18,c18,rfl,hV18,hU9⟩)
    refine⟨Cls (Ext _),fun _ h=>h,⟨⟨_,hU9⟩,rfl⟩,?_⟩
    repeat (refine head_q rfl (fun K hK=>?_);have hK2:=hide hK;clear hK;go_simp;refine hK2.out _ ?_;clear hK2 K)
    have hE9:Ext Z w9:=hU9.undrew
    refine head_l rfl ?_
    go_wp2_with (refine(rsame_any _ _ (b^(N - 1) % N) 1 kb _ hV18 (HV1.out.ext (hEr.trans hE9)) (bmod _ hNp) bl1 (by omega)).mono ?_;rintro e w10 ⟨rfl,hU10⟩)
    refine⟨Cls (Ext _),fun _ h=>h,⟨⟨_,(hU9.trans hU10)⟩,rfl⟩,?_⟩
    repeat (refine head_q rfl (fun K hK=>?_);have hK2:=hide hK;clear hK;go_simp;refine hK2.out _ ?_;clear hK2 K)
    have hE10:Ext Z w10:=(hU9.trans hU10).undrew
    clear hV18
    by_cases h3:b^(N - 1) % N=1
    · rw[decide_eq_true h3]
      have H3:=hide h3
      clear h3
      repeat (refine head_q rfl (fun K hK=>?_);have hK2:=hide hK;clear hK;go_simp;refine hK2.out _ ?_;clear hK2 K)
      refine head_l rfl ?_
      go_wp2_with (refine(rmul_any _ _ F F kb _ (HVF.out.ext hE10) (HVF.out.ext hE10) bF bF (by omega)).mono ?_;rintro e w11 ⟨A21,l21,c21,rfl,hV21,hU11⟩)
      refine⟨Cls (Ext _),fun _ h=>h,⟨⟨_,((hU9.trans hU10).trans hU11)⟩,rfl⟩,?_⟩
      repeat (refine head_q rfl (fun K hK=>?_);have hK2:=hide hK;clear hK;go_simp;refine hK2.out _ ?_;clear hK2 K)
      have hE11:Ext Z w11:=((hU9.trans hU10).trans hU11).undrew
      refine head_l rfl ?_
      go_wp2_with (refine(rcmp_any _ _ (F*F) N (kb+kb) _ hV21 (HVN.out.ext (hEw.trans hE11)) bFF (by omega) (by omega)).mono ?_;rintro e w12 ⟨rfl,hU12⟩)
      refine⟨Cls (Ext _),fun _ h=>h,⟨⟨_,(((hU9.trans hU10).trans hU11).trans hU12)⟩,rfl⟩,?_⟩
      repeat (refine head_q rfl (fun K hK=>?_);have hK2:=hide hK;clear hK;go_simp;refine hK2.out _ ?_;clear hK2 K)
      have hE12:Ext Z w12:=(((hU9.trans hU10).trans hU11).trans hU12).undrew
      clear k0 k1 hU9 hU10 hU11 hU12 hV21 hE9 hE10 hE11
      have hres:t=decide (N<F*F):=Ht.out.trans (by rw[holds_yes HN2.out (by rw[Hn.out];omega) H3.out (fun i hi=>Hok.out i (by rw[←Hn.out];exact hi)),HF.out])
      by_cases hlt2:N<F*F
      · obtain rfl:t=true:=hres.trans (decide_eq_true hlt2)
        have hz:(0:Int)<cmpI (F*F) N:=by
         unfold cmpI
         rw[if_neg (by omega),if_neg (by omega)]
         omega
        generalize cmpI (F*F) N=z at hz ⊢
        have hzd:decide ((0:Int)<z)=true:=decide_eq_true hz
        clear hres hlt2
        repeat (refine head_q rfl (fun K hK=>?_);have hK2:=hide hK;clear hK;go_simp;refine hK2.out _ ?_;clear hK2 K)
        refine head_nil ?_
        try simp only[List.drop_succ_cons,List.drop_zero]
        try rw[hzd]
        go_wp2_with fail
        go_ret
        exact⟨rfl,hEw.trans hE12⟩
      · obtain rfl:t=false:=hres.trans (decide_eq_false hlt2)
        have hz:¬(0:Int)<cmpI (F*F) N:=by
         unfold cmpI
         by_cases h1:F*F<N
         · rw[if_pos h1];omega
         · rw[if_neg h1,if_pos (by omega)];omega
        generalize cmpI (F*F) N=z at hz ⊢
        have hzd:decide ((0:Int)<z)=false:=decide_eq_false hz
        clear hres hlt2
        repeat (refine head_q rfl (fun K hK=>?_);have hK2:=hide hK;clear hK;go_simp;refine hK2.out _ ?_;clear hK2 K)
        refine head_nil ?_
        try simp only[List.drop_succ_cons,List.drop_zero]
        try rw[hzd]
        go_wp2_with fail
        go_ret
        exact⟨rfl,hEw.trans hE12⟩
    · rw[decide_eq_false h3]
      obtain rfl:t=false:=Ht.out.trans (holds_no3 h3)
      clear h3
      repeat (refine head_q rfl (fun K hK=>?_);have hK2:=hide hK;clear hK;go_simp;refine hK2.out _ ?_;clear hK2 K)
      refine head_l rfl ?_
      go_wp2_with fail
      refine⟨Cls (Ext _),fun _ h=>h,⟨⟨_,(hU9.trans hU10)⟩,rfl⟩,?_⟩
      repeat (refine head_q rfl (fun K hK=>?_);have hK2:=hide hK;clear hK;go_simp;refine hK2.out _ ?_;clear hK2 K)
      refine head_l rfl ?_
      go_wp2_with fail
      refine⟨Cls (Ext _),fun _ h=>h,⟨⟨_,(hU9.trans hU10)⟩,rfl⟩,?_⟩
      repeat (refine head_q rfl (fun K hK=>?_);have hK2:=hide hK;clear hK;go_simp;refine hK2.out _ ?_;clear hK2 K)
      clear k0 k1 hE9
      refine head_nil ?_
      try simp only[List.drop_succ_cons,List.drop_zero]
      go_wp2_with fail
      go_ret
      exact⟨rfl,hEw.trans hE10⟩
end Go.Proofs.Ytbhhjfhepkbfgaa
