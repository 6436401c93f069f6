/- The reader of package wire, walked: texts, nats. -/
import Derived.Test.YtbhhjfhepkbfgaaGreatWsWirG
import Derived.Test.YtbhhjfhepkbfgaaGreatWsWirM
namespace Go.Proofs.YtbhhjfhepkbfgaaGreat
set_option linter.unusedSimpArgs false
set_option linter.unusedVariables false
open Go.RowKit
open Nt Sha
attribute [local go_sem] steady steadyUpon Cls same_cell
attribute [local irreducible] wpHead wpTree
theorem Tryz.w_elT :ElemI Tryz.prog 23 24 (.slice none 0 0) 24:=⟨by kernel_rfl,by kernel_rfl,rfl⟩
theorem pt_one (p:Pt):(Pt.val p).oneCell'=true:=rfl
structure LT (w:World) (B:Nat) (D:Option Addr) (cD:Nat) (ps:List Pt):Prop where
 row:Own w B 24 D cD (ps.map Pt.val)
 each:∀i,i<ps.length→(gat ps i).bs.length=(gat ps i).n∧Own w B 5 (gat ps i).A (gat ps i).c ((gat ps i).bs.map by8)
section lt
variable {w w' w3 : World} {B : Nat} {D D2 : Option Addr} {cD c2 : Nat} {ps : List Pt} {T : Nat → Prop}
theorem LT.nil :LT w B none 0 []:=⟨Own.nil,fun i hi=>absurd hi (by simp)⟩
theorem LT.keep (h:LT w B D cD ps) (hu:Upd T w w') (hT:∀k,B≤k→¬T k):LT w' B D cD ps:=
 ⟨h.row.upd hu (fun k hk=>hT k (h.row.in_ hk).1),fun i hi=>⟨(h.each i hi).1,(h.each i hi).2.upd hu (fun k hk=>hT k ((h.each i hi).2.in_ hk).1)⟩⟩
theorem LT.ext (h:LT w B D cD ps) (hu:Ext w w'):LT w' B D cD ps:=h.keep hu (fun _ _ h=>h)
theorem LT.mono {B':Nat} (h:LT w B D cD ps) (hB:B'≤B):LT w B' D cD ps:=⟨h.row.mono hB,fun i hi=>⟨(h.each i hi).1,(h.each i hi).2.mono hB⟩⟩
theorem LT.pts (h:LT w B D cD ps):Pts w D ps:=⟨h.row.sl,fun i hi=>⟨(h.each i hi).2.sl,(h.each i hi).1,by
  have h1:=(h.each i hi).2.cap
  rw[List.length_map,(h.each i hi).1]at h1
  exact h1⟩⟩
theorem LT.push {p:Pt} (h:LT w B D cD ps) (h1:p.bs.length=p.n) (h2:Own w B 5 p.A p.c (p.bs.map by8)) (hO:Own w3 B 24 D2 c2 ((ps++[p]).map Pt.val)) (hU:Upd (inA D) w w3):LT w3 B D2 c2 (ps++[p]):=by
 refine⟨hO,fun i hi=>?_⟩
 by_cases hlt:i<ps.length
 · rw[gat_app_l hlt]
   exact⟨(h.each i hlt).1,(h.each i hlt).2.upd hU (fun k hk=>own_apart' (h.each i hlt).2 h.row (by decide) hk)⟩
 · have e:i=ps.length:=by rw[List.length_append]at hi;simp at hi;omega
   rw[gat_app_r e]
   exact⟨h1,h2.upd hU (fun k hk=>own_apart' h2 h.row (by decide) hk)⟩
end lt
def RetTs (w:World) (O g:Nat) (xs:List (List B8)) (s:RdS) (e:Ending) (w':World):Prop:=
 ∃D cD n ps,e=.returned (.slice D n cD)∧ps.length=n∧ps.map (·.bs)=xs∧LT w' w.heap.size D cD ps∧Rd w' O g s∧Upd (only g) w w'
def textsM (s:RdS):List (List B8) × RdS:=textsR (numR 1 s).1 (numR 1 s).2
theorem textsR_bad (k:Nat) {s:RdS} (h:s.2=true):textsR k s=([],s):=by
 cases k with
 | zero=>rfl
 | succ k=>show(if s.2 then _ else _)=_;rw[if_pos h]
theorem textsR_ok (k:Nat) {s:RdS} (h:s.2=false):textsR (k+1) s=((textR s).1 :: (textsR k (textR s).2).1,(textsR k (textR s).2).2):=by
 show(if s.2 then _ else _)=_
 rw[if_neg (by rw[h];simp)]
theorem num1_lt (s:RdS):(numR 1 s).1<256:=by
 have h1:=beN_lt (takeR 1 s).1
 rw[takeR_length]at h1
 exact h1
theorem name_l2'' {P:Program} {ops:Array Oper} {l:List Oper} {Q:Exit→Act→World→Prop} {a:Act} {W:World} (h:∀W',W'=W→wpList P ops Q l a W'):wpList P ops Q l a W:=h W rfl
set_option maxRecDepth 100000 in
set_option maxHeartbeats 2000000 in
theorem rdtexts_any (O g:Nat) (s:RdS) (w:World) (h:Rd w O g s):
 Calls Tryz.prog 82 #[.pointer (some ⟨g,0,none⟩)] w (RetTs w O g (textsM s).1 (textsM s).2):=by
 obtain⟨r,hr⟩:∃r,r=textsM s:=⟨_,rfl⟩
 rw[←hr]
 obtain⟨N,hN⟩:∃N,N=(numR 1 s).1:=⟨_,rfl⟩
 obtain⟨t,ht⟩:∃t,t=(numR 1 s).2:=⟨_,rfl⟩
 have hr2:r=textsR N t:=by rw[hr,hN,ht];rfl
 have hNb:N<256:=by rw[hN];exact num1_lt s
 have hgw:g<w.heap.size:=h.lt.2
 have H:=hide h
 have Hn:=hide hN
 have Ht:=hide ht
 have Hr:=hide hr2
 clear h hr hN ht hr2
 go_enter Tryz.func82,Tryz.ntmps82
 go_wp2_with fail
 refine(rdnum_any O g 1 s w H.out (by omega)).mono ?_
 rintro e w1 ⟨rfl,hRd,hU⟩
 rw[←Ht.out]at hRd
 rw[←Hn.out]
 go_wp2_with fail
 go_loopw [3,6] (fun v i wr=>∃(j:Nat) (ps:List Pt) (z:RdS) (D:Option Addr) (cD:Nat),j≤N∧ps.length=j∧v=.slice D j cD∧i=.int .i64 (j:Int)∧LT wr w.heap.size D cD ps∧Rd wr O g z∧r=(ps.map (·.bs)++(textsR (N - j) z).1,(textsR (N - j) z).2)∧Upd (only g) w wr) (fun _ i _=>N - (intOf i).toNat)
 case atStart=>exact⟨0,[],t,none,0,Nat.zero_le _,rfl,rfl,rfl,LT.nil,hRd,by rw[Hr.out];rfl,hU⟩
 case round=>
  clear hRd hU
  obtain⟨j,ps,z,D,cD,hj,hps,rfl,rfl,hL,hRd,hrr,hU⟩:=hrel
  have HL:=hide hL
  have Hps:=hide hps
  have Hrr:=hide hrr
  have HRd:=hide hRd
  have HU:=hide hU
  have hR0:=hRd
  obtain⟨hO,A,l,c,hA⟩:=hR0
  obtain⟨rest,bad⟩:=z
  have p1:wr.cell? ⟨g,1,none⟩=some (.bool bad):=hA.cells.cell1
  clear hL hps hrr hRd hU hA
  by_cases hlt:j<N
  · have hltI:(j:Int)<(N:Int):=by omega
    cases bad with
    | true=>
      have e:r=(ps.map (·.bs),(rest,true)):=by rw[Hrr.out,textsR_bad _ rfl,List.append_nil]
      go_wp2_with fail
      go_ret
      rw[e]
      exact⟨_,_,_,_,rfl,Hps.out,rfl,HL.out,HRd.out,HU.out⟩
    | false=>
      obtain⟨m,hm⟩:∃m,N - j=m+1:=⟨N - j - 1,by omega⟩
      have e:r=((ps.map (·.bs)++[(textR (rest,false)).1])++(textsR m (textR (rest,false)).2).1,(textsR m (textR (rest,false)).2).2):=by
       rw[Hrr.out,hm,textsR_ok _ rfl,List.append_assoc]
       rfl
      have He:=hide e
      have Hm:=hide hm
      clear e hm Hrr
      go_wp2_with fail
      refine(rdtext_any O g (rest,false) wr HRd.out).mono ?_
      rintro e w2 ⟨A2,l2,c2,rfl,hl2,hO2,hR2,hU2⟩
      have hB2:w.heap.size≤w2.heap.size:=Nat.le_trans HU.out.size hU2.size
      have HO2:=hide (hO2.mono HU.out.size)
      have HR2:=hide hR2
      have HU2:=hide hU2
      have Hl2:=hide hl2
      have HL2:=hide (HL.out.keep hU2 (fun k hk e=>by
        have h1:k=g:=e
        omega))
      clear hO2 hR2 hU2 hl2
      go_wp2_with (at_builtin;refine name_l2'' (fun Wa hWa=>?_);have hEa:Ext w2 Wa:=(by rw[hWa];exact(Upd.refl _ _).alloc _);have hSa:Sl Pt.val Wa (some ⟨w2.heap.size,0,none⟩) [(⟨A2,l2,c2,(textR (rest,false)).1⟩:Pt)]:=(by rw[hWa];exact Sl.new Pt.val w2 24 [(⟨A2,l2,c2,(textR (rest,false)).1⟩:Pt)]);have HWa:=hide hWa;clear hWa;go_must (refine wpList_apd Pt.val pt_one Tryz.w_elT ps [(⟨A2,l2,c2,(textR (rest,false)).1⟩:Pt)] (ps++[(⟨A2,l2,c2,(textR (rest,false)).1⟩:Pt)]) (j+1) rfl (by rw[List.length_append,Hps.out];rfl) (by omega) (by unfold maxLen;omega) rfl rfl rfl Hps.out (HL2.out.row.ext hEa) rfl rfl hSa (by have:=hEa.size;omega) ?_);intro D3 c3 w3 hO3 hU3 hin3)
      have hL3:=(HL2.out.ext hEa).push (p:=⟨A2,l2,c2,(textR (rest,false)).1⟩) Hl2.out (HO2.out.ext hEa) hO3 hU3
      have hD:∀k,k<w.heap.size→¬inA D k:=fun k hk hd=>by
        have h1:=(HL2.out.row.in_ hd).1
        omega
      have hR3:Rd w3 O g (textR (rest,false)).2:=(HR2.out.ext hEa).keep hU3 (hD g hgw) (fun k hk=>hD k (by omega))
      have hU4:Upd (only g) w w3:=((HU.out.trans HU2.out).ext hEa).trans' hU3 (fun k hk h=>absurd h (hD k hk))
      have HL3:=hide hL3
      have HR3:=hide hR3
      have HU4:=hide hU4
      clear hL3 hR3 hU4 hO3 hU3 hin3 hSa hEa HWa hD p1
      go_roundw
      case rel=>exact⟨j+1,_,_,_,_,hlt,by rw[List.length_append,Hps.out];rfl,rfl,by go_num,HL3.out,HR3.out,by
        have e1:N - (j+1)=m:=by have:=Hm.out;omega
        rw[e1,List.map_append]
        exact He.out,HU4.out⟩
      case measure=>simp[intOf];omega
  · obtain rfl:j=N:=by omega
    have hltI:¬(j:Int)<(j:Int):=by omega
    have e:r=(ps.map (·.bs),(rest,bad)):=by rw[Hrr.out,Nat.sub_self];show(_++[],_)=_;rw[List.append_nil];rfl
    clear hlt hj
    go_wp2_with fail
    go_ret
    exact⟨_,_,_,_,rfl,Hps.out,rfl,HL.out,HRd.out,HU.out⟩
structure LN (w:World) (B:Nat) (D:Option Addr) (cD:Nat) (ts:List Tri) (ns:List Nat):Prop where
 row:Own w B 39 D cD (ts.map svt)
 len:ts.length=ns.length
 each:∀i,i<ns.length→NatV w (.agg #[svt (gat ts i)]) (gat ns i)∧(0<(gat ts i).2.1→∀k,inA (gat ts i).1 k→B≤k∧k<w.heap.size∧¬inA D k)
section ln
variable {w w' w3 : World} {B : Nat} {D D2 : Option Addr} {cD c2 : Nat} {ts : List Tri} {ns : List Nat} {T : Nat → Prop}
theorem LN.nil :LN w B none 0 [] []:=⟨Own.nil,rfl,fun i hi=>absurd hi (by simp)⟩
theorem LN.keep (h:LN w B D cD ts ns) (hu:Upd T w w') (hT:∀k,B≤k→¬T k):LN w' B D cD ts ns:=
 ⟨h.row.upd hu (fun k hk=>hT k (h.row.in_ hk).1),h.len,fun i hi=>⟨NatV.apartL (h.each i hi).1 hu (fun h0 k hk=>hT k ((h.each i hi).2 h0 k hk).1),fun h0 k hk=>
   ⟨((h.each i hi).2 h0 k hk).1,Nat.lt_of_lt_of_le ((h.each i hi).2 h0 k hk).2.1 hu.size,((h.each i hi).2 h0 k hk).2.2⟩⟩⟩
theorem LN.ext (h:LN w B D cD ts ns) (hu:Ext w w'):LN w' B D cD ts ns:=h.keep hu (fun _ _ h=>h)
theorem LN.mono {B':Nat} (h:LN w B D cD ts ns) (hB:B'≤B):LN w B' D cD ts ns:=⟨h.row.mono hB,h.len,fun i hi=>⟨(h.each i hi).1,fun h0 k hk=>by
  obtain⟨a,b,c⟩:=(h.each i hi).2 h0 k hk
  exact⟨Nat.le_trans hB a,b,c⟩⟩⟩
theorem LN.nats (h:LN w B D cD ts ns):NatL w D ns:=⟨ts,h.len,h.row.sl,fun i hi=>(h.each i hi).1⟩
theorem LN.push {A:Option Addr} {l c p:Nat} (h:LN w B D cD ts ns) (hV:NatV w (.agg #[.slice A l c]) p) (hA:0<l→∀k,inA A k→B≤k∧k<w.heap.size∧¬inA D k) (hO:Own w3 B 39 D2 c2 ((ts++[((A,l,c):Tri)]).map svt)) (hU:Upd (inA D) w w3) (hin:∀k,inA D2 k→inA D k∨k=w.heap.size):LN w3 B D2 c2 (ts++[((A,l,c):Tri)]) (ns++[p]):=by
 have sz:=hU.size
 have off:∀k,(B≤k∧k<w.heap.size∧¬inA D k)→B≤k∧k<w3.heap.size∧¬inA D2 k:=fun k ⟨a,b,c⟩=>⟨a,by omega,fun hd=>(hin k hd).elim c (fun e=>by omega)⟩
 refine⟨hO,by rw[List.length_append,List.length_append,h.len];rfl,fun i hi=>?_⟩
 by_cases hlt:i<ns.length
 · rw[gat_app_l (by rw[h.len];exact hlt),gat_app_l hlt]
   exact⟨NatV.apartL (h.each i hlt).1 hU (fun h0 k hk=>((h.each i hlt).2 h0 k hk).2.2),fun h0 k hk=>off k ((h.each i hlt).2 h0 k hk)⟩
 · have e:i=ns.length:=by rw[List.length_append]at hi;simp at hi;omega
   rw[gat_app_r (by rw[h.len];exact e),gat_app_r e]
   exact⟨NatV.apartL hV hU (fun h0 k hk=>(hA h0 k hk).2.2),fun h0 k hk=>off k (hA h0 k hk)⟩
end ln
def RetNs (w:World) (O g:Nat) (xs:List Nat) (s:RdS) (e:Ending) (w':World):Prop:=
 ∃D cD n ts,e=.returned (.slice D n cD)∧xs.length=n∧LN w' w.heap.size D cD ts xs∧Rd w' O g s∧Upd (only g) w w'
def natsM (s:RdS):List Nat × RdS:=natsR (numR 1 s).1 (numR 1 s).2
theorem natsR_bad (k:Nat) {s:RdS} (h:s.2=true):natsR k s=([],s):=by
 cases k with
 | zero=>rfl
 | succ k=>show(if s.2 then _ else _)=_;rw[if_pos h]
theorem natsR_ok (k:Nat) {s:RdS} (h:s.2=false):natsR (k+1) s=((fromR (textR s).1).1 :: (natsR k ((textR s).2.1,(textR s).2.2 || (fromR (textR s).1).2)).1,(natsR k ((textR s).2.1,(textR s).2.2 || (fromR (textR s).1).2)).2):=by
 show(if s.2 then _ else _)=_
 rw[if_neg (by rw[h];simp)]
theorem from_all (A:Option Addr) (n c:Nat) (bs:List B8) (w:World) (hn:bs.length=n) (hS:Sl by8 w A bs):
 Calls Tryz.prog 73 #[.slice A n c] w (RetE1 w (fromR bs).1 (if (fromR bs).2 then 4 else 0)):=by
 unfold fromR
 by_cases h:128<n
 · rw[if_pos (by rw[hn];exact h)]
   exact from_long1 A n c w h
 · rw[if_neg (by rw[hn];exact h)]
   exact from_new A n c bs w hn (by omega) hS
set_option maxRecDepth 100000 in
set_option maxHeartbeats 2000000 in
theorem rdnats_any (O g:Nat) (s:RdS) (w:World) (h:Rd w O g s):
 Calls Tryz.prog 81 #[.pointer (some ⟨g,0,none⟩)] w (RetNs w O g (natsM s).1 (natsM s).2):=by
 obtain⟨r,hr⟩:∃r,r=natsM s:=⟨_,rfl⟩
 rw[←hr]
 obtain⟨N,hN⟩:∃N,N=(numR 1 s).1:=⟨_,rfl⟩
 obtain⟨t,ht⟩:∃t,t=(numR 1 s).2:=⟨_,rfl⟩
 have hr2:r=natsR N t:=by rw[hr,hN,ht];rfl
 have hNb:N<256:=by rw[hN];exact num1_lt s
 have hgw:g<w.heap.size:=h.lt.2
 have H:=hide h
 have Hn:=hide hN
 have Ht:=hide ht
 have Hr:=hide hr2
 clear h hr hN ht hr2
 go_enter Tryz.func81,Tryz.ntmps81
 go_wp2_with fail
 refine(rdnum_any O g 1 s w H.out (by omega)).mono ?_
 rintro e w1 ⟨rfl,hRd,hU⟩
 rw[←Ht.out]at hRd
 rw[←Hn.out]
 go_wp2_with fail
 go_loopw [3,8] (fun v i wr=>∃(j:Nat) (ts:List Tri) (ns:List Nat) (z:RdS) (D:Option Addr) (cD:Nat),j≤N∧ns.length=j∧v=.slice D j cD∧i=.int .i64 (j:Int)∧LN wr w.heap.size D cD ts ns∧Rd wr O g z∧r=(ns++(natsR (N - j) z).1,(natsR (N - j) z).2)∧Upd (only g) w wr) (fun _ i _=>N - (intOf i).toNat)
 case atStart=>exact⟨0,[],[],t,none,0,Nat.zero_le _,rfl,rfl,rfl,LN.nil,hRd,by rw[Hr.out];rfl,hU⟩
 case round=>
  clear hRd hU
  obtain⟨j,ts,ns,z,D,cD,hj,hns,rfl,rfl,hL,hRd,hrr,hU⟩:=hrel
  have HL:=hide hL
  have Hns:=hide hns
  have Hrr:=hide hrr
  have HRd:=hide hRd
  have HU:=hide hU
  have hR0:=hRd
  obtain⟨hO,A,l,c,hA⟩:=hR0
  obtain⟨rest,bad⟩:=z
  have p1:wr.cell? ⟨g,1,none⟩=some (.bool bad):=hA.cells.cell1
  clear hL hns hrr hRd hU hA
  by_cases hlt:j<N
  · have hltI:(j:Int)<(N:Int):=by omega
    cases bad with
    | true=>
      have e:r=(ns,(rest,true)):=by rw[Hrr.out,natsR_bad _ rfl,List.append_nil]
      go_wp2_with fail
      go_ret
      rw[e]
      exact⟨_,_,_,_,rfl,Hns.out,HL.out,HRd.out,HU.out⟩
    | false=>
      obtain⟨m,hm⟩:∃m,N - j=m+1:=⟨N - j - 1,by omega⟩
      obtain⟨x,hx⟩:∃x,x=textR (rest,false):=⟨_,rfl⟩
      obtain⟨v,hv⟩:∃v,v=(fromR x.1).1:=⟨_,rfl⟩
      obtain⟨b,hb⟩:∃b,b=(fromR x.1).2:=⟨_,rfl⟩
      have e:r=((ns++[v])++(natsR m (x.2.1,x.2.2 || b)).1,(natsR m (x.2.1,x.2.2 || b)).2):=by
       rw[Hrr.out,hm,natsR_ok _ rfl,List.append_assoc,hb,hv,hx]
       rfl
      have He:=hide e
      have Hm:=hide hm
      have Hx:=hide hx
      have Hv:=hide hv
      have Hb:=hide hb
      clear e hm Hrr hx hv hb
      go_wp2_with fail
      refine(rdtext_any O g (rest,false) wr HRd.out).mono ?_
      rintro e w2 ⟨A2,l2,c2,rfl,hl2,hO2,hR2,hU2⟩
      rw[←Hx.out]at hl2 hO2 hR2
      have hB2:w.heap.size≤w2.heap.size:=Nat.le_trans HU.out.size hU2.size
      have hBr:w.heap.size≤wr.heap.size:=HU.out.size
      have HR2:=hide hR2
      have HU2:=hide hU2
      have Hl2:=hide hl2
      have HS2:=hide hO2.sl
      have HL2:=hide (HL.out.keep hU2 (fun k hk e=>by
        have h1:k=g:=e
        omega))
      clear hO2 hR2 hU2 hl2 p1
      go_wp2_with fail
      refine(from_all A2 l2 c2 x.1 w2 Hl2.out HS2.out).mono ?_
      rintro e w3 ⟨A3,l3,c3,rfl,hV3,hU3,hn3⟩
      rw[←Hv.out]at hV3
      rw[←Hb.out]
      have HV3:=hide hV3
      have HU3:=hide hU3
      have Hn3:=hide hn3
      clear hV3 hn3
      obtain⟨hO2',A4,l4,c4,hA4⟩:=HR2.out.ext hU3
      have hR3:=HR2.out.ext hU3
      obtain⟨⟨rest2,bad2⟩,hx2⟩:∃q,q=x.2:=⟨_,rfl⟩
      rw[←hx2]at hA4 hR3
      have Hx2:=hide hx2
      obtain⟨ec,hec⟩:∃ec:Int,ec=if b then 4 else 0:=⟨_,rfl⟩
      rw[←hec]
      have Hec:=hide hec
      clear hec
      have hg3:g<w3.heap.size:=hR3.lt.2
      have HR3:=hide hR3
      clear hx2 hA4 hU3 hR3
      go_upto_region 6 with fail
      refine name_w (fun S hS=>?_)
      have hES:Ext w3 S:=by rw[hS];exact(Upd.refl _ _).alloc _
      have b4:Box S w3.heap.size 39 (.slice A3 l3 c3):=by rw[hS];exact Box.new _ _ _
      clear hS
      have hRS:=HR3.out.ext hES
      obtain⟨-,A5,l5,c5,hA5⟩:=hRS
      have p1:S.cell? ⟨g,1,none⟩=some (.bool bad2):=hA5.cells.cell1
      have f1:=hA5.cells.frozen 1
      have hne4:w3.heap.size≠g:=by omega
      have hset:∀b',Rd (S.setCell ⟨g,1,none⟩ (.bool b')) O g (rest2,b')∧Upd (only g) S (S.setCell ⟨g,1,none⟩ (.bool b')):=fun b'=>by
        have hU1:Upd (only g) S (S.setCell ⟨g,1,none⟩ (.bool b')):=(Upd.refl _ _).setCell (T:=only g) (p:=⟨g,1,none⟩) (.inl rfl) _
        exact⟨⟨hO2',A5,l5,c5,hA5.cells.set1 _,hA5.sl.keep hU1 (fun h0 k hk e=>by
          have h1:=hA5.old h0 k hk
          have:k=g:=e
          omega),hA5.len,hA5.cap,hA5.max,hA5.old⟩,hU1⟩
      have Hset:=hide hset
      clear hA5 hset
      go_cut [] (fun wx=>Rd wx O g (rest2,bad2 || b)∧Upd (only g) S wx)
      case first=>
       cases bad2 with
       | true=>
         go_wp2_with fail
         go_meet
         exact Hset.out true
       | false=>
         cases b with
         | true=>
           obtain rfl:ec=4:=Hec.out
           go_wp2_with fail
           go_meet
           exact Hset.out true
         | false=>
           obtain rfl:ec=0:=Hec.out
           go_wp2_with fail
           go_meet
           exact Hset.out false
      case rest=>
       obtain⟨hRc,hUc⟩:=hcut
       have c4:=(b4.upd hUc (fun h=>hne4 h)).cell
       have hV4:NatV wc (.agg #[.slice A3 l3 c3]) v:=NatV.apartL (HV3.out.ext hES) hUc (fun h0 k hk e=>by
         have h1:k=g:=e
         have h2:=Hn3.out k hk
         have h3:=HU2.out.size
         omega)
       have hL4:=((HL2.out.ext HU3.out).ext hES).keep hUc (fun k hk e=>by
         have h1:k=g:=e
         omega)
       have hU4:Upd (only g) w wc:=(((HU.out.trans HU2.out).ext HU3.out).ext hES).trans hUc
       have hB4:w.heap.size≤wc.heap.size:=hU4.size
       have hA4:0<l3→∀k,inA A3 k→w.heap.size≤k∧k<wc.heap.size∧¬inA D k:=fun h0 k hk=>by
         have h1:=nat_lt hV4 h0 k hk
         have h2:=Hn3.out k hk
         exact⟨by omega,h1,fun hd=>by
           have h3:=(HL2.out.row.in_ hd).2
           omega⟩
       have HRc:=hide hRc
       have HV4:=hide hV4
       have HL4:=hide hL4
       have HU4:=hide hU4
       have HA4:=hide hA4
       clear hRc hV4 hL4 hU4 hA4 hUc p1 f1
       go_wp2_with (at_builtin;refine name_l2'' (fun Wa hWa=>?_);have hEa:Ext wc Wa:=(by rw[hWa];exact(Upd.refl _ _).alloc _);have hSa:Sl svt Wa (some ⟨wc.heap.size,0,none⟩) [((A3,l3,c3):Tri)]:=(by rw[hWa];exact Sl.new svt wc 39 [((A3,l3,c3):Tri)]);have hza:Wa.heap.size=wc.heap.size+1:=(by rw[hWa];simp);have HWa:=hide hWa;clear hWa;go_must (refine wpList_apd svt svt_one' Tryz.w_elN ts [((A3,l3,c3):Tri)] (ts++[((A3,l3,c3):Tri)]) (j+1) rfl (by rw[List.length_append,HL4.out.len,Hns.out];rfl) (by omega) (by unfold maxLen;omega) rfl rfl rfl (HL4.out.len.trans Hns.out) (HL4.out.row.ext hEa) rfl rfl hSa (by omega) ?_);intro D3 c3' w5 hO3 hU3' hin3)
       have hL5:=(HL4.out.ext hEa).push (HV4.out.ext hEa) (fun h0 k hk=>⟨(HA4.out h0 k hk).1,by have:=(HA4.out h0 k hk).2.1;omega,(HA4.out h0 k hk).2.2⟩) hO3 hU3' hin3
       have hD:∀k,k<w.heap.size→¬inA D k:=fun k hk hd=>by
         have h1:=(HL4.out.row.in_ hd).1
         omega
       have hR5:Rd w5 O g (rest2,bad2 || b):=(HRc.out.ext hEa).keep hU3' (hD g hgw) (fun k hk=>hD k (by omega))
       have hU5:Upd (only g) w w5:=(HU4.out.ext hEa).trans' hU3' (fun k hk h=>absurd h (hD k hk))
       have HL5:=hide hL5
       have HR5:=hide hR5
       have HU5:=hide hU5
       clear hL5 hR5 hU5 hO3 hU3' hin3 hSa hEa HWa hD c4
       go_roundw
       case rel=>exact⟨j+1,_,_,_,_,_,hlt,by rw[List.length_append,Hns.out];rfl,rfl,by go_num,HL5.out,HR5.out,by
         have e1:N - (j+1)=m:=by have:=Hm.out;omega
         rw[e1]
         have h:=He.out
         rw[←Hx2.out]at h
         exact h,HU5.out⟩
       case measure=>simp[intOf];omega
  · obtain rfl:j=N:=by omega
    have hltI:¬(j:Int)<(j:Int):=by omega
    have e:r=(ns,(rest,bad)):=by rw[Hrr.out,Nat.sub_self];show(_++[],_)=_;rw[List.append_nil];rfl
    clear hlt hj
    go_wp2_with fail
    go_ret
    exact⟨_,_,_,_,rfl,Hns.out,HL.out,HRd.out,HU.out⟩
end Go.Proofs.YtbhhjfhepkbfgaaGreat
