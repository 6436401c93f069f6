/- The writer of bytes, walked: num, text. -/
import Derived.Test.YtbhhjfhepkbfgaaGreatWsShas
import Derived.Test.YtbhhjfhepkbfgaaGreatWsMods
import Derived.Test.YtbhhjfhepkbfgaaGreatWsBlk
import Derived.Deep.DeepCutAuto
namespace Go.Proofs.YtbhhjfhepkbfgaaGreat
set_option linter.unusedSimpArgs false
set_option linter.unusedVariables false
open Go.RowKit
open Nt Sha
attribute [local go_sem] steady steadyUpon Cls same_cell
attribute [local irreducible] wpHead wpTree
def wby (n:Int) (i:Nat):B8:=BitVec.ofNat 8 ((IntKind.u64.wrap n).toNat / 2^(8*i))
def be (n:Int):Nat→List B8
 | 0=>[]
 | s+1=>wby n s :: be n s
theorem be_length (n:Int):∀s,(be n s).length=s
 | 0=>rfl
 | s+1=>by show(be n s).length+1=_;rw[be_length n s]
def WU (g:Nat) (A:Option Addr):Nat→Prop:=fun k=>k=g∨inA A k
structure WrA (w:World) (B g:Nat) (A:Option Addr) (l c:Nat) (bs:List B8) (bad:Bool):Prop where
 cells:Two w g 91 (.slice A l c) (.bool bad)
 own:Own w B 5 A c (bs.map by8)
 len:bs.length=l
theorem WrA.ext {w w':World} {B g:Nat} {A:Option Addr} {l c:Nat} {bs:List B8} {bad:Bool} (h:WrA w B g A l c bs bad) (hu:Ext w w'):WrA w' B g A l c bs bad:=⟨h.cells.ext hu,h.own.ext hu,h.len⟩
theorem own_two {w:World} {B:Nat} {e t:TypeId} {A:Option Addr} {c g:Nat} {xs:List Value} {x y:Value} (h:Own w B e A c xs) (h':Two w g t x y) (hne:e≠t):¬inA A g:=fun hk=>by
  rcases h.2 with ⟨h0,_⟩ | ⟨g',cap,cur,hv,hb,hg,_⟩
  · injection h0 with h0;subst h0;simp[inA]at hk
  · injection hv with hA
    rw[hA]at hk
    simp[inA]at hk
    subst hk
    unfold Two at h'
    rw[hg]at h'
    injection h' with h'
    injection h' with _ h'
    exact hne h'
theorem Two.put0 {w:World} {g:Nat} {t:TypeId} {a b:Value} (h:Two w g t a b) (u:Value):Two (w.setCell ⟨g,0,none⟩ u) g t u b:=by
 unfold Two at*;simp[World.setCell,Array.getElem?_modify,h]
theorem WrA.bytes {w w3:World} {B g:Nat} {A A2:Option Addr} {l c l2 c2:Nat} {bs bs2:List B8} {bad:Bool} (h:WrA w B g A l c bs bad) (hO:Own w3 B 5 A2 c2 (bs2.map by8)) (hl:bs2.length=l2) (hU:Upd (inA A) w w3):
 WrA (w3.setCell ⟨g,0,none⟩ (.slice A2 l2 c2)) B g A2 l2 c2 bs2 bad∧Upd (WU g A) w (w3.setCell ⟨g,0,none⟩ (.slice A2 l2 c2)):=by
 have n1:=own_two h.own h.cells (by decide)
 have t3:=h.cells.upd hU n1
 have m2:¬inA A2 g:=own_two hO t3 (by decide)
 have hU4:Upd (only g) w3 (w3.setCell ⟨g,0,none⟩ (.slice A2 l2 c2)):=(Upd.refl _ _).setCell (T:=only g) (p:=⟨g,0,none⟩) (.inl rfl) _
 exact⟨⟨t3.put0 _,hO.upd hU4 (fun k hk e=>by have:k=g:=e;subst this;exact m2 hk),hl⟩,(hU.mono (fun k _ hk=>.inr hk)).trans' hU4 (fun k _ hk=>.inl hk)⟩
theorem by8_of (q:Nat):by8 (BitVec.ofNat 8 q)=.int .u8 (IntKind.u8.wrap (q:Int)):=by
 unfold by8 n8
 rw[BitVec.toNat_ofNat,IntKind.wrap_u8]
 congr 1
set_option maxRecDepth 100000 in
set_option maxHeartbeats 2000000 in
theorem wnum_any (B g:Nat) (A:Option Addr) (l c:Nat) (n least most:Int) (size:Nat) (bs:List B8) (bad:Bool) (w:World) (h:WrA w B g A l c bs bad) (hB:B≤w.heap.size) (hs:size≤8) (hl:bs.length≤1000000000):
 Calls Tryz.prog 33 #[.pointer (some ⟨g,0,none⟩),.int .i64 n,.int .i64 least,.int .i64 most,.int .i64 (size:Int)] w fun e w'=>(∃v,e=.returned v)∧∃A' l' c',WrA w' B g A' l' c' (bs++be n size) (bad || decide (n<least) || decide (most<n))∧Upd (WU g A) w w'∧∀k,inA A' k→inA A k∨w.heap.size≤k:=by
 obtain⟨m,hm⟩:∃m:Nat,IntKind.u64.wrap n=(m:Int):=⟨(IntKind.u64.wrap n).toNat,by rw[IntKind.wrap_u64];omega⟩
 have hm64:(m:Int)≤18446744073709551615:=by rw[←hm,IntKind.wrap_u64];omega
 have hwb:∀i,wby n i=BitVec.ofNat 8 (m / 2^(8*i)):=fun i=>by unfold wby;rw[hm];rfl
 have Hwb:=hide hwb
 obtain⟨bd,hbd⟩:∃bd,bd=(bad || decide (n<least) || decide (most<n)):=⟨_,rfl⟩
 rw[←hbd]
 have Hbd:=hide hbd
 have q1:=h.cells.cell1
 have f1:=h.cells.frozen 1
 have H:=hide h
 have Hl:=hide h.len
 have Hl2:=hide hl
 clear h hwb hbd hl
 go_enter Tryz.func33,Tryz.ntmps33
 have hset:∀b',b'=bd→WrA (w.setCell ⟨g,1,none⟩ (.bool b')) B g A l c bs bd∧Upd (WU g A) w (w.setCell ⟨g,1,none⟩ (.bool b')):=fun b' e=>by
   have n1:=own_two H.out.own H.out.cells (by decide)
   have hU:Upd (only g) w (w.setCell ⟨g,1,none⟩ (.bool b')):=(Upd.refl _ _).setCell (T:=only g) (p:=⟨g,1,none⟩) (.inl rfl) _
   exact⟨⟨by rw[←e];exact H.out.cells.set1 _,H.out.own.upd hU (fun k hk hk2=>by have:k=g:=hk2;subst this;exact n1 hk),H.out.len⟩,hU.mono fun k _ hk=>.inl hk⟩
 go_upto_region 0 with fail
 go_cut [] (fun wx=>WrA wx B g A l c bs bd∧Upd (WU g A) w wx)
 case first=>
  go_wp2_with fail
  all_goals (go_meet;exact hset _ (by rw[Hbd.out];simp_all))
 case rest=>
  obtain⟨hW,hU⟩:=hcut
  have hlI:bs.length≤1000000000:=Hl2.out
  clear hset H q1 f1 Hl
  go_wp2_with fail
  go_loopw [10] (fun i wr=>∃(j:Nat) (cc:Int) (xs:List B8) (A':Option Addr) (l' c':Nat),j≤size∧cc=(j:Int) - 1∧i=.int .i64 cc∧xs.length+j=size∧xs++be n j=be n size∧WrA wr B g A' l' c' (bs++xs) bd∧Upd (WU g A) w wr∧∀k,inA A' k→inA A k∨w.heap.size≤k) (fun i _=>(intOf i+1).toNat)
  case atStart=>exact⟨size,_,[],_,_,_,Nat.le_refl _,rfl,rfl,Nat.zero_add _,rfl,by rw[List.append_nil];exact hW,hU,fun k hk=>.inl hk⟩
  case round=>
   clear hW hU
   obtain⟨j,cc,xs,A1,l1,c1,hj,hcc,rfl,hxl,hx,hA,hU,hnw⟩:=hrel
   have Hx:=hide hx
   clear hx
   rcases j with _ | j
   · obtain rfl:cc= -1:=by omega
     clear hcc
     go_wp2_with fail
     go_end0
     exact⟨⟨_,rfl⟩,_,_,_,by rw[←Hx.out,show be n 0=[] from rfl,List.append_nil];exact hA,hU,hnw⟩
   · obtain rfl:cc=(j:Int):=by omega
     clear hcc
     have hj0:(0:Int)≤(j:Int):=by omega
     have Hnw:=hide hnw
     have HA:=hide hA
     have Hll:=hide hA.len
     have hlb:l1≤1000000008:=by rw[←hA.len,List.length_append];omega
     have n1:=own_two hA.own hA.cells (by decide)
     have hBr:B≤wr.heap.size:=Nat.le_trans hB hU.size
     obtain⟨q,hq⟩:∃q,q=m / 2^(8*j):=⟨_,rfl⟩
     obtain⟨x,hxx⟩:∃x:B8,x=wby n j:=⟨_,rfl⟩
     have hx8:by8 x=.int .u8 (IntKind.u8.wrap (q:Int)):=by rw[hxx,Hwb.out,←hq];exact by8_of q
     have hx8':(q:Int) % (256:Int)=n8 x:=by unfold by8 at hx8;injection hx8 with _ hx8;rw[hx8,IntKind.wrap_u8]
     obtain⟨e8,he8⟩:∃e8,e8=8*j:=⟨_,rfl⟩
     have h8:IntKind.i64.wrap (8*(j:Int))=(e8:Int):=by rw[IntKind.wrap_i64];omega
     have h8b:e8≤56:=by omega
     have hsh:(m:Int) / 2^min e8 64=(q:Int):=by rw[Nat.min_eq_left (by omega),hq,he8];push_cast;rfl
     have hsh2:(m:Int) / 2^e8=(q:Int):=by rw[hq,he8];push_cast;rfl
     have He8:=hide he8
     clear he8
     have Hq:=hide hq
     have Hxx:=hide hxx
     have k4:=fun z:Wd (Upd (inA A1) wr.drew)=>(z.ok.cell (p:=⟨g,0,none⟩) hA.cells.drew.lt n1).trans hA.cells.drew.cell0
     clear hq hxx hA hnw
     go_wp2_with fail
     refine wp_region_plan (Upd (inA A1) _) 15 [(false,0),(false,1),(false,2),(false,3),(false,4),(false,5),(false,6),(false,7),(false,8),(false,9),(false,10),(true,11),(true,12),(false,13),(false,14)] (by kernel_rfl) (by kernel_rfl) (Upd.refl _ _) (fun hne=>?_)
     repeat (refine head_q rfl (fun K hK=>?_);have hK2:=hide hK;clear hK;go_simp;refine hK2.out _ ?_;clear hK2 K)
     clear hx8
     refine head_l rfl ?_
     go_wp2_with fail
     refine⟨_,fun _ h=>h,⟨⟨_,(Upd.refl _ _).alloc _⟩,rfl⟩,?_⟩
     repeat (refine head_q rfl (fun K hK=>?_);have hK2:=hide hK;clear hK;go_simp;refine hK2.out _ ?_;clear hK2 K)
     simp only[hx8']
     have hEw:Ext wr (wr.alloc (.cells #[by8 x] 5)).drew:=((Upd.refl _ _).alloc _).drew
     have hSx:Sl by8 (wr.alloc (.cells #[by8 x] 5)).drew (some ⟨wr.heap.size,0,none⟩) [x]:=(Sl.new by8 wr 5 [x]).ext ((Upd.refl _ _).drew)
     refine head_l rfl ?_
     refine wpList_apd by8 one8 Tryz.n_el8 (bs++xs) [x] (bs++xs++[x]) (l1+1) rfl (by rw[List.length_append,Hll.out];rfl) (by omega) (by unfold maxLen;omega) rfl rfl rfl Hll.out (HA.out.own.ext hEw) rfl rfl hSx (Nat.le_trans hBr hEw.size) ?_
     intro A2 c2 w3 hO3 hU3 hin3
     go_wp2_with fail
     refine⟨_,fun _ h=>h,⟨⟨_,((Upd.refl _ _).alloc _).trans hU3⟩,rfl⟩,?_⟩
     repeat (refine head_q rfl (fun K hK=>?_);have hK2:=hide hK;clear hK;go_simp;refine hK2.out _ ?_;clear hK2 K)
     have r0:=((HA.out.cells.ext hEw).upd hU3 n1).cell0
     have z0:=((HA.out.cells.ext hEw).upd hU3 n1).frozen 0
     obtain⟨hW4,hU4⟩:=(HA.out.ext hEw).bytes hO3 (by rw[List.length_append,Hll.out];try rfl) hU3
     have hU5:=(hU.ext hEw).trans' hU4 (fun k hk h=>h.elim .inl (fun h=>(Hnw.out k h).elim .inr (fun h=>by omega)))
     have hin4:∀k,inA A2 k→inA A k∨w.heap.size≤k:=fun k hk=>(hin3 k hk).elim (Hnw.out k) (fun e=>.inr (by rw[e];exact Nat.le_trans hU.size hEw.size))
     have HW4:=hide hW4
     have HU5:=hide hU5
     have Hin4:=hide hin4
     clear k4 hSx hU3 hin3 hO3 hEw hW4 hU5 hU4 hin4
     refine head_nil ?_
     try simp only[List.drop_succ_cons,List.drop_zero]
     go_wp2_with fail
     go_roundw
     case rel=>exact⟨j,_,xs++[x],_,_,_,by omega,rfl,rfl,by rw[List.length_append];show xs.length+1+j=size;omega,by rw[←Hx.out,List.append_assoc,Hxx.out];rfl,by rw[←List.append_assoc];exact HW4.out,HU5.out,Hin4.out⟩
     case measure=>simp[intOf]
theorem WrA.setBad {w:World} {B g:Nat} {A:Option Addr} {l c:Nat} {bs:List B8} {bad:Bool} (h:WrA w B g A l c bs bad) (b':Bool):WrA (w.setCell ⟨g,1,none⟩ (.bool b')) B g A l c bs b'∧Upd (WU g A) w (w.setCell ⟨g,1,none⟩ (.bool b')):=by
 have n1:=own_two h.own h.cells (by decide)
 have hU:Upd (only g) w (w.setCell ⟨g,1,none⟩ (.bool b')):=(Upd.refl _ _).setCell (T:=only g) (p:=⟨g,1,none⟩) (.inl rfl) _
 exact⟨⟨h.cells.set1 _,h.own.upd hU (fun k hk hk2=>by have:k=g:=hk2;subst this;exact n1 hk),h.len⟩,hU.mono fun k _ hk=>.inl hk⟩
def putT (bs t:List B8) (most:Nat):List B8:=if most<t.length then bs else bs++(be (t.length:Int) 2++t)
theorem putT_le (bs t:List B8) (most:Nat):(putT bs t most).length≤bs.length+2+most:=by
 unfold putT
 split
 · omega
 · rw[List.length_append,List.length_append,be_length];omega
set_option maxRecDepth 100000 in
set_option maxHeartbeats 2000000 in
theorem wtext_any (B g:Nat) (A0:Option Addr) (l0 c0:Nat) (A:Option Addr) (n c most:Nat) (t bs:List B8) (bad:Bool) (w:World) (h:WrA w B g A0 l0 c0 bs bad) (hB:B≤w.heap.size) (hS:Sl by8 w A t) (hn:t.length=n) (hm:most≤100000) (hn2:n≤9223372036854775807) (hA:0<n→∀k,inA A k→¬WU g A0 k) (hl:bs.length≤100000000):
 Calls Tryz.prog 36 #[.pointer (some ⟨g,0,none⟩),.slice A n c,.int .i64 (most:Int)] w fun e w'=>(∃v,e=.returned v)∧∃A' l' c',WrA w' B g A' l' c' (putT bs t most) (bad || decide (most<n))∧Upd (WU g A0) w w'∧∀k,inA A' k→inA A0 k∨w.heap.size≤k:=by
 have q1:=h.cells.cell1
 have f1:=h.cells.frozen 1
 have H:=hide h
 have Hn:=hide hn
 have HS:=hide hS
 have Hl:=hide hl
 obtain⟨r,hr⟩:∃r,r=putT bs t most:=⟨_,rfl⟩
 rw[←hr]
 have Hr:=hide hr
 clear h hn hS hl hr
 go_enter Tryz.func36,Tryz.ntmps36
 by_cases hlt:most<n
 · rw[decide_eq_true hlt]
   have hI:(most:Int)<(n:Int):=by omega
   have hres:=H.out.setBad true
   have Hres:=hide hres
   have e:r=bs:=by rw[Hr.out];unfold putT;rw[if_pos (by rw[Hn.out];exact hlt)]
   subst e
   clear hres hlt
   go_wp2_with fail
   refine bodyPost_ret (results_none rfl _ _ _) rfl ?_
   exact⟨⟨_,rfl⟩,_,_,_,by rw[Bool.or_true];exact Hres.out.1,Hres.out.2,fun k hk=>.inl hk⟩
 · rw[decide_eq_false hlt]
   have hI:¬(most:Int)<(n:Int):=by omega
   have hz:decide ((n:Int)<0)=false:=decide_eq_false (by omega)
   have hz2:decide ((most:Int)<(n:Int))=false:=decide_eq_false hI
   have Hlt:=hide hlt
   clear hlt q1 f1
   go_wp2_with fail
   refine(wnum_any B g A0 l0 c0 (n:Int) 0 (most:Int) 2 bs bad w H.out hB (by omega) (by have:=Hl.out;omega)).mono ?_
   rintro e w1 ⟨⟨v,rfl⟩,A1,l1,c1,h1',hU,hnw⟩
   rw[hz,hz2]at h1'
   have h1:WrA w1 B g A1 l1 c1 (bs++be (n:Int) 2) (bad || false):=by simpa using h1'
   have p0:=h1.cells.cell0
   have hl1:l1≤100000002:=by rw[←h1.len,List.length_append,be_length];have:=Hl.out;omega
   have H1:=hide h1
   have Hnw:=hide hnw
   have hBw:B≤w1.heap.size:=Nat.le_trans hB hU.size
   have hS1:Sl by8 w1 A t:=by
    rcases Nat.eq_zero_or_pos n with h0 | h0
    · rw[List.eq_nil_of_length_eq_zero (Hn.out.trans h0)]
      exact Sl.nil
    · exact HS.out.upd hU (fun b o e=>hA h0 b (by rw[e];simp[inA]))
   clear h1 h1' hz hz2 hnw
   go_wp2_with (at_builtin;go_must (refine wpList_apd by8 one8 Tryz.n_el8 (bs++be (n:Int) 2) t (bs++be (n:Int) 2++t) (l1+n) rfl (by rw[List.length_append,H1.out.len,Hn.out]) (by omega) (by unfold maxLen;omega) rfl rfl rfl H1.out.len H1.out.own rfl Hn.out hS1 hBw ?_);intro A2 c2 w2 hO2 hU2 hin2;have n1:=own_two H1.out.own H1.out.cells (by decide);have p2:=(H1.out.cells.upd hU2 n1).cell0;have f2:=(H1.out.cells.upd hU2 n1).frozen 0;obtain⟨hW2,hU3⟩:=H1.out.bytes hO2 (by rw[List.length_append,H1.out.len,Hn.out]) hU2;have HW2:=hide hW2;have HU3:=hide hU3;have Hin2:=hide hin2;clear hW2 hU3 hO2 hU2 hin2 hS1 n1)
   go_end0
   have e:r=bs++be (n:Int) 2++t:=by rw[Hr.out];unfold putT;rw[if_neg (by rw[Hn.out];exact Hlt.out),Hn.out,List.append_assoc]
   exact⟨⟨_,rfl⟩,_,_,_,by rw[e];exact HW2.out,hU.trans' HU3.out (fun k hk h=>h.elim .inl (fun h=>(Hnw.out k h).elim .inr (fun h=>by omega))),fun k hk=>(Hin2.out k hk).elim (Hnw.out k) (fun e=>.inr (by have:=hU.size;omega))⟩
end Go.Proofs.YtbhhjfhepkbfgaaGreat
