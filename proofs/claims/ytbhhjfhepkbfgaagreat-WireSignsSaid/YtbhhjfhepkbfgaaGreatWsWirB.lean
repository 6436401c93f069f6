/- The writer of bytes, walked: nats, texts. -/
import Derived.Test.YtbhhjfhepkbfgaaGreatWsWirA
import Derived.Test.YtbhhjfhepkbfgaaGreatWsCers
namespace Go.Proofs.YtbhhjfhepkbfgaaGreat
set_option linter.unusedSimpArgs false
set_option linter.unusedVariables false
open Go.RowKit
open Nt Sha
attribute [local go_sem] steady steadyUpon Cls same_cell
attribute [local irreducible] wpHead wpTree
def txt (t:List B8):List B8:=be (t.length:Int) 2++t
def natB (n:Nat):List B8:=txt (toB n (bytelen n))
def natsB (ns:List Nat):List B8:=be (ns.length:Int) 1++ns.flatMap natB
def nLong (n:Nat):Bool:=decide (128<bytelen n)
def natsBad (ns:List Nat):Bool:=decide (64<ns.length) || ns.any nLong
def tLong (p:Pt):Bool:=decide (1024<p.n)
def textsB (ps:List Pt):List B8:=be (ps.length:Int) 1++ps.flatMap fun p=>txt p.bs
def textsBad (ps:List Pt):Bool:=decide (64<ps.length) || ps.any tLong
theorem putT_yes {bs t:List B8} {most:Nat} (h:¬most<t.length):putT bs t most=bs++txt t:=by unfold putT txt;rw[if_neg h]
theorem anyN_take {α:Type} [Inhabited α] (f:α→Bool) {xs:List α} {k:Nat} (h:k<xs.length):(xs.take (k+1)).any f=((xs.take k).any f || f (gat xs k)):=by
 rw[List.take_succ_eq_append_getElem h,List.any_append,gat_lt h]
 simp
theorem flatN_take {α β:Type} [Inhabited α] (f:α→List β) {xs:List α} {k:Nat} (h:k<xs.length):(xs.take (k+1)).flatMap f=(xs.take k).flatMap f++f (gat xs k):=by
 rw[List.take_succ_eq_append_getElem h,List.flatMap_append,gat_lt h]
 simp
theorem name_c' {P:Program} {K:Nat} {args:Array Value} {Q:Ending→World→Prop} {W:World} (h:∀W',W'=W→Calls P K args W' Q):Calls P K args W Q:=h W rfl
def off (n least most:Int):Bool:=decide (n<least) || decide (most<n)
def WOut (w0 w w':World) (g:Nat) (A:Option Addr) (bs:List B8) (bad:Bool) (most:Nat):Prop:=
 ∃A' l' c' bs' bad',WrA w' w0.heap.size g A' l' c' bs' bad'∧bad'=bad∧(bad=false→bs'=bs)∧bs'.length≤most∧Upd (WU g A) w w'∧∀k,inA A' k→inA A k∨w.heap.size≤k
theorem wu_old {w0 w:World} {g l c:Nat} {A:Option Addr} {bs:List B8} {bad:Bool} (h:WrA w w0.heap.size g A l c bs bad) (hg:w0.heap.size≤g) {k:Nat} (hk:WU g A k):w0.heap.size≤k:=hk.elim (fun e=>e▸hg) (fun hk=>(h.own.in_ hk).1)
theorem wu_ext {w0 w w':World} {g l c:Nat} {A:Option Addr} {bs:List B8} {bad:Bool} (h:WrA w w0.heap.size g A l c bs bad) (hg:w0.heap.size≤g) (hE:Ext w0 w) (hU:Upd (WU g A) w w'):Ext w0 w':=Upd.fresh hU hE (fun _ hk=>wu_old h hg hk)
set_option maxRecDepth 100000 in
set_option maxHeartbeats 4000000 in
theorem wnats_any (g:Nat) (A0:Option Addr) (l0 c0:Nat) (L:Option Addr) (m cL K:Nat) (ns:List Nat) (bs:List B8) (bad:Bool) (w0 w:World) (h:WrA w w0.heap.size g A0 l0 c0 bs bad) (hg:w0.heap.size≤g) (hE:Ext w0 w) (hL:NatL w0 L ns) (hm:ns.length=m) (hm2:m≤9223372036854775807) (hF:FitL K ns) (hK:K≤1000000) (hl:bs.length≤10000000):
 Calls Tryz.prog 34 #[.pointer (some ⟨g,0,none⟩),.slice L m cL] w fun e w'=>(∃v,e=.returned v)∧WOut w0 w w' g A0 (bs++natsB ns) (bad || natsBad ns) (bs.length+10000):=by
 have Hm:=hide hm
 have HL:=hide hL
 have H:=hide h
 have hl0:=h.own.cap
 clear hm hL h
 go_enter Tryz.func34,Tryz.ntmps34
 go_wp2_with fail
 refine(wnum_any w0.heap.size g A0 l0 c0 (m:Int) 0 64 1 bs bad w H.out hE.size (by omega) (by omega)).mono ?_
 rintro e w1 ⟨⟨v,rfl⟩,A1,l1,c1,h1,hU1,hn1⟩
 obtain⟨b1,hb1⟩:∃b1,b1=(bad || decide ((m:Int)<0) || decide ((64:Int)<(m:Int))):=⟨_,rfl⟩
 rw[←hb1]at h1
 have hb1':b1=(bad || decide (64<m)):=by
  rw[hb1,decide_eq_false (show ¬(m:Int)<0 by omega),Bool.or_false]
  congr 1
  exact decide_eq_decide.2 (by omega)
 have hE1:=wu_ext H.out hg hE hU1
 have q1:=h1.cells.cell1
 have H1:=hide h1
 have Hn1:=hide hn1
 have Hb1:=hide hb1'
 clear hb1 hb1' h1 hn1
 cases b1 with
 | true=>
   go_wp2_with fail
   refine bodyPost_ret (results_none rfl _ _ _) rfl ?_
   have hbad:(bad || natsBad ns)=true:=by
    have:=Hb1.out
    unfold natsBad
    rw[Hm.out,←Bool.or_assoc,←this,Bool.true_or]
   exact⟨⟨_,rfl⟩,_,_,_,_,_,H1.out,hbad.symm,fun e=>by(rw[hbad]at e;cases e),by rw[List.length_append,be_length];omega,hU1,Hn1.out⟩
 | false=>
   have hb0:bad=false∧¬64<m:=by
    have:=Hb1.out
    cases bad with
    | true=>exact absurd this (by simp)
    | false=>exact⟨rfl,fun h=>by rw[decide_eq_true h]at this;cases this⟩
   obtain⟨rfl,h64⟩:=hb0
   go_wp2_with fail
   go_loopw [16] (fun i wr=>∃(j:Nat) (A':Option Addr) (l' c':Nat) (bs':List B8) (bd:Bool),j≤m∧i=.int .i64 (j:Int)∧WrA wr w0.heap.size g A' l' c' bs' bd∧bd=(ns.take j).any nLong∧(bd=false→bs'=bs++be (m:Int) 1++(ns.take j).flatMap natB)∧bs'.length≤bs.length+1+j*130∧Upd (WU g A0) w wr∧∀k,inA A' k→inA A0 k∨w.heap.size≤k) (fun i _=>m - (intOf i).toNat)
   case atStart=>exact⟨0,_,_,_,_,_,Nat.zero_le _,rfl,H1.out,rfl,fun _=>(List.append_nil _).symm,by rw[List.length_append,be_length];omega,hU1,Hn1.out⟩
   case round=>
    obtain⟨j,A',l',c',bs',bd,hj,rfl,hW,hbd,hbs,hlen,hU,hnw⟩:=hrel
    have HW:=hide hW
    have Hbd:=hide hbd
    have Hbs:=hide hbs
    have Hnw:=hide hnw
    have Hlen:=hide hlen
    have hEr:=wu_ext H.out hg hE hU
    clear hW hbd hbs hnw hlen q1
    by_cases hlt:j<m
    · have hltI:(j:Int)<(m:Int):=by omega
      obtain⟨b,o,P,lP,cP,rfl,hcj,hVp⟩:=(HL.out.ext hEr).at (i:=j) (by rw[Hm.out];exact hlt)
      obtain⟨p,hp⟩:∃p,p=gat ns j:=⟨_,rfl⟩
      have hFp:Fit K p:=by rw[hp];exact hF j (by rw[Hm.out];exact hlt)
      rw[←hp]at hVp
      have Hp:=hide hp
      clear hp
      go_wp2_with fail
      refine name_c' (fun W hWw=>?_)
      have hEW:Ext wr W:=by rw[hWw];exact(Upd.refl _ _).alloc _
      clear hWw hcj
      refine(least_any _ p K _ (hVp.ext hEW) hFp hK).mono ?_
      rintro e w3 ⟨A3,c3,rfl,hl3,hO3,hU3⟩
      have hE3:=hEW.trans hU3
      have hB3:wr.heap.size≤W.heap.size:=hEW.size
      go_wp2_with fail
      refine(wtext_any w0.heap.size g A' l' c' A3 (bytelen p) c3 128 (toB p (bytelen p)) bs' bd w3 (HW.out.ext hE3) (hEr.trans hE3).size hO3.sl hl3 (by omega) (by have:=bytelen_le hFp;omega) (fun _ k hk hk2=>by
        have a:=(hO3.in_ hk).1
        rcases hk2 with e | e
        · have:=HW.out.cells.lt;omega
        · have:=(HW.out.own.in_ e).2;omega) (by have:=Hlen.out;omega)).mono ?_
      rintro e w4 ⟨⟨v4,rfl⟩,A4,l4,c4,hW4,hU4,hn4⟩
      have hU4':Upd (WU g A0) w w4:=(hU.ext hE3).trans' hU4 (fun k hk h=>h.elim .inl (fun h=>(Hnw.out k h).elim .inr (fun h=>by omega)))
      have hn4':∀k,inA A4 k→inA A0 k∨w.heap.size≤k:=fun k hk=>(hn4 k hk).elim (Hnw.out k) (fun h=>.inr (by have:=hU.size;have:=hE3.size;omega))
      have hany:(bd || decide (128<bytelen p))=(ns.take (j+1)).any nLong:=by
       rw[anyN_take _ (by rw[Hm.out];exact hlt),Hbd.out,Hp.out];rfl
      have hbs2:(ns.take (j+1)).any nLong=false→putT bs' (toB p (bytelen p)) 128=bs++be (m:Int) 1++(ns.take (j+1)).flatMap natB:=fun e=>by
        rw[←hany,Bool.or_eq_false_iff]at e
        rw[putT_yes (by rw[hl3];exact decide_eq_false_iff_not.1 e.2),Hbs.out e.1,flatN_take _ (by rw[Hm.out];exact hlt),←Hp.out,List.append_assoc,List.append_assoc,List.append_assoc]
        rfl
      rw[hany]at hW4
      have hlen4:(putT bs' (toB p (bytelen p)) 128).length≤bs.length+1+(j+1)*130:=by
       have:=putT_le bs' (toB p (bytelen p)) 128
       have:=Hlen.out
       omega
      have HW4:=hide hW4
      have HU4:=hide hU4'
      have Hn4:=hide hn4'
      have Hbs2:=hide hbs2
      have Hl4:=hide hlen4
      clear hW4 hU4 hU4' hn4 hn4' hany hbs2 hlen4 hO3 hU3 hE3 hl3
      go_wp2_with fail
      go_roundw
      case rel=>exact⟨j+1,_,_,_,_,_,by omega,by go_num,HW4.out,rfl,Hbs2.out,Hl4.out,HU4.out,Hn4.out⟩
      case measure=>simp[intOf];omega
    · obtain rfl:j=m:=by omega
      have hltI:¬(j:Int)<(j:Int):=by omega
      have htk:ns.take j=ns:=List.take_of_length_le (by rw[Hm.out];exact Nat.le_refl _)
      go_wp2_with fail
      go_end0
      have hbd:=Hbd.out
      have hbs:=Hbs.out
      rw[htk]at hbd hbs
      refine⟨⟨_,rfl⟩,_,_,_,_,_,HW.out,?_,fun e=>?_,by have:=Hlen.out;omega,hU,Hnw.out⟩
      · unfold natsBad
        rw[Hm.out,decide_eq_false h64,Bool.false_or]
        exact hbd
      · have:bd=false:=by
         rw[hbd]
         unfold natsBad at e
         rw[Hm.out,decide_eq_false h64,Bool.false_or]at e
         exact e
        rw[hbs this]
        unfold natsB
        rw[Hm.out,List.append_assoc]
set_option maxRecDepth 100000 in
set_option maxHeartbeats 4000000 in
theorem wtexts_any (g:Nat) (A0:Option Addr) (l0 c0:Nat) (L:Option Addr) (m cL:Nat) (ps:List Pt) (bs:List B8) (bad:Bool) (w0 w:World) (h:WrA w w0.heap.size g A0 l0 c0 bs bad) (hg:w0.heap.size≤g) (hE:Ext w0 w) (hL:Pts w0 L ps) (hm:ps.length=m) (hm2:m≤9223372036854775807) (hl:bs.length≤10000000):
 Calls Tryz.prog 35 #[.pointer (some ⟨g,0,none⟩),.slice L m cL] w fun e w'=>(∃v,e=.returned v)∧WOut w0 w w' g A0 (bs++textsB ps) (bad || textsBad ps) (bs.length+100000):=by
 have Hm:=hide hm
 have HL:=hide hL
 have H:=hide h
 have hl0:=h.own.cap
 clear hm hL h
 go_enter Tryz.func35,Tryz.ntmps35
 go_wp2_with fail
 refine(wnum_any w0.heap.size g A0 l0 c0 (m:Int) 0 64 1 bs bad w H.out hE.size (by omega) (by omega)).mono ?_
 rintro e w1 ⟨⟨v,rfl⟩,A1,l1,c1,h1,hU1,hn1⟩
 obtain⟨b1,hb1⟩:∃b1,b1=(bad || decide ((m:Int)<0) || decide ((64:Int)<(m:Int))):=⟨_,rfl⟩
 rw[←hb1]at h1
 have hb1':b1=(bad || decide (64<m)):=by
  rw[hb1,decide_eq_false (show ¬(m:Int)<0 by omega),Bool.or_false]
  congr 1
  exact decide_eq_decide.2 (by omega)
 have hE1:=wu_ext H.out hg hE hU1
 have q1:=h1.cells.cell1
 have H1:=hide h1
 have Hn1:=hide hn1
 have Hb1:=hide hb1'
 clear hb1 hb1' h1 hn1
 cases b1 with
 | true=>
   go_wp2_with fail
   refine bodyPost_ret (results_none rfl _ _ _) rfl ?_
   have hbad:(bad || textsBad ps)=true:=by
    have:=Hb1.out
    unfold textsBad
    rw[Hm.out,←Bool.or_assoc,←this,Bool.true_or]
   exact⟨⟨_,rfl⟩,_,_,_,_,_,H1.out,hbad.symm,fun e=>by(rw[hbad]at e;cases e),by rw[List.length_append,be_length];omega,hU1,Hn1.out⟩
 | false=>
   have hb0:bad=false∧¬64<m:=by
    have:=Hb1.out
    cases bad with
    | true=>exact absurd this (by simp)
    | false=>exact⟨rfl,fun h=>by rw[decide_eq_true h]at this;cases this⟩
   obtain⟨rfl,h64⟩:=hb0
   go_wp2_with fail
   go_loopw [16] (fun i wr=>∃(j:Nat) (A':Option Addr) (l' c':Nat) (bs':List B8) (bd:Bool),j≤m∧i=.int .i64 (j:Int)∧WrA wr w0.heap.size g A' l' c' bs' bd∧bd=(ps.take j).any tLong∧(bd=false→bs'=bs++be (m:Int) 1++(ps.take j).flatMap (fun p=>txt p.bs))∧bs'.length≤bs.length+1+j*1026∧Upd (WU g A0) w wr∧∀k,inA A' k→inA A0 k∨w.heap.size≤k) (fun i _=>m - (intOf i).toNat)
   case atStart=>exact⟨0,_,_,_,_,_,Nat.zero_le _,rfl,H1.out,rfl,fun _=>(List.append_nil _).symm,by rw[List.length_append,be_length];omega,hU1,Hn1.out⟩
   case round=>
    obtain⟨j,A',l',c',bs',bd,hj,rfl,hW,hbd,hbs,hlen,hU,hnw⟩:=hrel
    have HW:=hide hW
    have Hbd:=hide hbd
    have Hbs:=hide hbs
    have Hnw:=hide hnw
    have Hlen:=hide hlen
    have hEr:=wu_ext H.out hg hE hU
    clear hW hbd hbs hnw hlen q1
    by_cases hlt:j<m
    · have hltI:(j:Int)<(m:Int):=by omega
      obtain⟨b,o,rfl,_,hc⟩:=(HL.out.1.ext hEr).open_ (by rw[Hm.out];omega)
      have hck:=hc j (by rw[Hm.out];exact hlt)
      have hpo:=HL.out.2 j (by rw[Hm.out];exact hlt)
      obtain⟨p,hp⟩:∃p,p=gat ps j:=⟨_,rfl⟩
      rw[←hp]at hck hpo
      obtain⟨P,lP,cP,pbs⟩:=p
      have hck:wr.cell? ⟨b,o+j,none⟩=some (.slice P lP cP):=hck
      obtain⟨hSp,hl3,hlc,hcm⟩:=hpo
      have hSp:Sl by8 w0 P pbs:=hSp
      have hl3:pbs.length=lP:=hl3
      have hcm:lP≤9223372036854775807:=Nat.le_trans hlc hcm
      have Hp:=hide hp
      clear hp hc
      go_wp2_with fail
      refine(wtext_any w0.heap.size g A' l' c' P lP cP 1024 pbs bs' bd wr HW.out hEr.size (hSp.ext hEr) hl3 (by omega) hcm (fun h0 k hk hk2=>by
        obtain⟨b3,o3,e3,hlt3, -⟩:=hSp.open_ (by omega)
        rw[e3]at hk
        simp[inA]at hk
        subst hk
        have:=wu_old HW.out hg hk2
        omega) (by have:=Hlen.out;omega)).mono ?_
      rintro e w4 ⟨⟨v4,rfl⟩,A4,l4,c4,hW4,hU4,hn4⟩
      have hU4':Upd (WU g A0) w w4:=hU.trans' hU4 (fun k hk h=>h.elim .inl (fun h=>(Hnw.out k h).elim .inr (fun h=>by omega)))
      have hn4':∀k,inA A4 k→inA A0 k∨w.heap.size≤k:=fun k hk=>(hn4 k hk).elim (Hnw.out k) (fun h=>.inr (by have:=hU.size;omega))
      have hany:(bd || decide (1024<lP))=(ps.take (j+1)).any tLong:=by
       rw[anyN_take _ (by rw[Hm.out];exact hlt),Hbd.out,←Hp.out];rfl
      have hbs2:(ps.take (j+1)).any tLong=false→putT bs' pbs 1024=bs++be (m:Int) 1++(ps.take (j+1)).flatMap (fun p=>txt p.bs):=fun e=>by
        rw[←hany,Bool.or_eq_false_iff]at e
        rw[putT_yes (by rw[hl3];exact decide_eq_false_iff_not.1 e.2),Hbs.out e.1,flatN_take _ (by rw[Hm.out];exact hlt),←Hp.out,List.append_assoc,List.append_assoc]
        try rfl
      rw[hany]at hW4
      have hlen4:(putT bs' pbs 1024).length≤bs.length+1+(j+1)*1026:=by
       have:=putT_le bs' pbs 1024
       have:=Hlen.out
       omega
      have HW4:=hide hW4
      have HU4:=hide hU4'
      have Hn4:=hide hn4'
      have Hbs2:=hide hbs2
      have Hl4:=hide hlen4
      clear hW4 hU4 hU4' hn4 hn4' hany hbs2 hlen4 hck hSp hl3 hlc
      go_wp2_with fail
      go_roundw
      case rel=>exact⟨j+1,_,_,_,_,_,by omega,by go_num,HW4.out,rfl,Hbs2.out,Hl4.out,HU4.out,Hn4.out⟩
      case measure=>simp[intOf];omega
    · obtain rfl:j=m:=by omega
      have hltI:¬(j:Int)<(j:Int):=by omega
      have htk:ps.take j=ps:=List.take_of_length_le (by rw[Hm.out];exact Nat.le_refl _)
      go_wp2_with fail
      go_end0
      have hbd:=Hbd.out
      have hbs:=Hbs.out
      rw[htk]at hbd hbs
      refine⟨⟨_,rfl⟩,_,_,_,_,_,HW.out,?_,fun e=>?_,by have:=Hlen.out;omega,hU,Hnw.out⟩
      · unfold textsBad
        rw[Hm.out,decide_eq_false h64,Bool.false_or]
        exact hbd
      · have:bd=false:=by
         rw[hbd]
         unfold textsBad at e
         rw[Hm.out,decide_eq_false h64,Bool.false_or]at e
         exact e
        rw[hbs this]
        unfold textsB
        rw[Hm.out,List.append_assoc]
end Go.Proofs.YtbhhjfhepkbfgaaGreat
