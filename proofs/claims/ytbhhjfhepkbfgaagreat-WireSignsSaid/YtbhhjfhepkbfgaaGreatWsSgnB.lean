/- Signatures, walked: a member's bytes, the challenge. -/
import Derived.Test.YtbhhjfhepkbfgaaGreatWsSgnA
namespace Go.Proofs.YtbhhjfhepkbfgaaGreat
set_option linter.unusedSimpArgs false
set_option linter.unusedVariables false
open Go.RowKit
open Nt Sha
attribute [local go_sem] steady steadyUpon Cls same_cell
attribute [local irreducible] wpHead wpTree sum
def chalBs (bss:List (List (BitVec 8))):List (BitVec 8):=bss.flatMap fun b=>leK b.length 8++b
def chalOf (bss:List (List (BitVec 8))) (Q:Nat):Nat:=ofB (sum (chalBs bss)) % Q
theorem chalB_bs :∀(ps:List Pt),(∀p∈ps,p.bs.length=p.n)→chalB ps=chalBs (ps.map (·.bs))
 | [],_=>rfl
 | p :: r,h=>by
   have h1:=chalB_bs r (fun q hq=>h q (List.mem_cons_of_mem _ hq))
   unfold chalB chalBs at*
   rw[List.map_cons,List.flatMap_cons,List.flatMap_cons,←h1,h p (List.mem_cons_self ..)]
theorem chalOf_lt {bss:List (List (BitVec 8))} {Q:Nat} (h:0<Q):chalOf bss Q<Q:=Nat.mod_lt _ h
theorem chalN_bs {ps:List Pt} {Q:Nat} (h:∀p∈ps,p.bs.length=p.n):chalN ps Q=chalOf (ps.map (·.bs)) Q:=by unfold chalN chalOf;rw[chalB_bs ps h]
def memBy (P Q a:Nat):List (BitVec 8):=if memB P Q a=true then toB a (byteSz P) else []
def memE (P Q a:Nat):Int:=if memB P Q a=true then 0 else 3
theorem memBy_len (P Q a:Nat):(memBy P Q a).length≤byteSz P:=by
 unfold memBy
 split
 · rw[toB_length];exact Nat.le_refl _
 · exact Nat.zero_le _
def RetMB (w:World) (P Q a:Nat) (e:Ending) (w':World):Prop:=
 ∃A l c,e=.returned (.tuple #[.slice A l c,.int .i64 (memE P Q a)])∧(memBy P Q a).length=l∧l≤c∧c≤maxLen∧Sl by8 w' A (memBy P Q a)∧(∀k,inA A k→w.heap.size≤k)∧Ext w w'
theorem memB_lt {P Q a:Nat} (h:memB P Q a=true):0<a∧a<P∧a^Q % P=1:=by
 unfold memB at h
 simp only[Bool.and_eq_true,decide_eq_true_eq]at h
 exact⟨h.1,h.2.1,h.2.2⟩
section
variable (gr P Q G H k : Nat) (w : World)
set_option maxRecDepth 100000 in
set_option maxHeartbeats 2000000 in
theorem gBytes_any (va:Value) (a:Nat) (h:GrpV w gr P Q G H) (hV:NatV w va a) (hF:Fit k a) (hP:Fit k P) (hQ:Fit k Q) (hk:k≤50000) (hk1:1≤k):
 Calls Tryz.prog 100 #[.pointer (some ⟨gr,0,none⟩),va] w (RetMB w P Q a):=by
 obtain⟨A,la,ca,xs,rfl, -⟩:=hV.open_
 by_cases hm:memB P Q a=true
 · have hlt:=(memB_lt hm).2.1
   have hbl:bytelen a≤byteSz P:=byteSz_mono (Nat.le_of_lt hlt)
   have hsz:=byteSz_le hP
   have hby:memBy P Q a=toB a (byteSz P):=by unfold memBy;rw[if_pos hm]
   have hme:memE P Q a=0:=by unfold memE;rw[if_pos hm]
   obtain⟨z,hz⟩:∃z,z=byteSz P:=⟨_,rfl⟩
   rw[←hz]at hbl hsz hby
   have Hby:=hide hby
   have Hme:=hide hme
   have Hz:=hide hz
   clear hby hme hz
   go_enter Tryz.func100,Tryz.ntmps100
   have b3:Box (w.alloc (.cells #[.slice A la ca] 39)) w.heap.size 39 (.slice A la ca):=Box.new _ _ _
   have q3:=b3.cell
   go_wp2_with fail
   clear q3
   refine name_c (fun W hW=>?_)
   rw[←hW]at b3
   have hE:Ext w W:=by rw[hW];exact(Upd.refl _ w).alloc _
   clear hW
   refine(gMember_any gr P Q G H k W _ a (h.ext hE) (hV.ext hE) hF hP hQ hk hk1).mono ?_
   rw[hm]
   rintro e w1 ⟨rfl,hU1⟩
   have hE1:=hE.trans hU1
   have b3':=b3.ext hU1
   clear hU1 hE b3
   go_wp2_with fail
   refine name_w (fun X hX=>?_)
   subst hX
   obtain⟨gp,gq,A1,l1,c1,A2,l2,c2,h1, -, -, -, -⟩:=h.ext hE1
   rw[←Hz.out]at h1
   have q0:=fun y:Wd (Ext X.drew)=>y.ok.cellv (show X.drew.cell? ⟨gr,4,none⟩=some (.int .i64 (z:Nat)) from(h1.ext (Upd.refl _ _).drew).at 4 rfl)
   have q1:=fun y:Wd (Ext X.drew)=>y.ok.cellv b3'.drew.cell
   refine wp_region_plan (Ext _) 9 [(false,0),(false,1),(false,2),(false,3),(false,4),(true,5),(false,6),(false,7),(false,8)] (by kernel_rfl) (by kernel_rfl) (Upd.refl _ _) (fun hne=>?_)
   repeat (refine head_q rfl (fun K hK=>?_);have hK2:=hide hK;clear hK;go_simp;refine hK2.out _ ?_;clear hK2 K)
   refine head_l rfl ?_
   go_wp2_with (go_at_call 74;go_must (refine(bytes_any _ a k z _ (hV.ext (hE1.trans (Upd.refl _ _).drew)) hF (by omega) hbl (by omega)).mono ?_);rintro e w2 ⟨A9,c9,rfl,hl9,hO9,hU9⟩)
   refine⟨Cls (Ext _),fun _ h=>h,⟨⟨_,hU9⟩,rfl⟩,?_⟩
   repeat (refine head_q rfl (fun K hK=>?_);have hK2:=hide hK;clear hK;go_simp;refine hK2.out _ ?_;clear hK2 K)
   have hG:=hE1.trans hU9.undrew
   clear q0 q1
   refine head_nil ?_
   try simp only[List.drop_succ_cons,List.drop_zero]
   have hpt:=Own.pt hO9 hl9
   have hin:∀q,inA A9 q→w.heap.size≤q:=fun q hq=>Nat.le_trans hE1.size (hO9.in_ hq).1
   rw[←Hby.out]at hpt
   have hz0:(0:Int)=memE P Q a:=Hme.out.symm
   have Hpt:=hide hpt
   have Hz0:=hide hz0
   clear hpt hz0 hO9 hl9
   go_wp2_with fail
   refine bodyPost_ret (v:=.tuple #[.slice A9 z c9,.int .i64 0]) (by simp[results,Tryz.results100,go_sem]) rfl ⟨A9,z,c9,by rw[Hz0.out],Hpt.out.1,Hpt.out.2.1,Hpt.out.2.2.1,Hpt.out.2.2.2,hin,hG⟩
 · have hm:memB P Q a=false:=by simpa using hm
   have hby:memBy P Q a=[]:=by unfold memBy;rw[if_neg (by rw[hm];decide)]
   have hme:memE P Q a=3:=by unfold memE;rw[if_neg (by rw[hm];decide)]
   have Hby:=hide hby
   have Hme:=hide hme
   clear hby hme
   go_enter Tryz.func100,Tryz.ntmps100
   have b3:Box (w.alloc (.cells #[.slice A la ca] 39)) w.heap.size 39 (.slice A la ca):=Box.new _ _ _
   have q3:=b3.cell
   go_wp2_with fail
   clear q3
   refine name_c (fun W hW=>?_)
   have hE:Ext w W:=by rw[hW];exact(Upd.refl _ w).alloc _
   clear hW
   refine(gMember_any gr P Q G H k W _ a (h.ext hE) (hV.ext hE) hF hP hQ hk hk1).mono ?_
   rw[hm]
   rintro e w1 ⟨rfl,hU1⟩
   have hE1:=hE.trans hU1
   go_wp2_with fail
   refine bodyPost_ret (v:=.tuple #[.slice none 0 0,.int .i64 3]) (by simp[results,Tryz.results100,go_sem]) rfl ⟨none,0,0,by rw[Hme.out],by rw[Hby.out];rfl,Nat.le_refl _,Nat.zero_le _,by rw[Hby.out];exact Sl.nil,fun q hq=>absurd hq (by simp[inA]),hE1⟩
def sgnB :List (BitVec 8):=[115,105,103,110]
set_option maxRecDepth 100000 in
set_option maxHeartbeats 4000000 in
theorem schal_any (va vy:Value) (a y:Nat) (A:Option Addr) (n c:Nat) (msg:List (BitVec 8)) (h:GrpV w gr P Q G H) (hV:NatV w va a) (hVy:NatV w vy y) (hM:Pt.ok w ⟨A,n,c,msg⟩) (hF:Fit k a) (hFy:Fit k y) (hP:Fit k P) (hQ:Fit k Q) (hk:k≤50000) (hk8:8≤k) (hn:n≤10000000):
 Calls Tryz.prog 77 #[.pointer (some ⟨gr,0,none⟩),va,vy,.slice A n c] w (RetN w (chalOf [sgnB,memBy P Q a,memBy P Q y,msg] Q)):=by
 obtain⟨A1,l1,c1,xs,rfl, -⟩:=hV.open_
 obtain⟨A2,l2,c2,ys,rfl, -⟩:=hVy.open_
 have hsz:=byteSz_le hP
 have hmb1:=memBy_len P Q a
 have hmb2:=memBy_len P Q y
 obtain⟨bs3,hb3⟩:∃b,b=memBy P Q a:=⟨_,rfl⟩
 obtain⟨bs4,hb4⟩:∃b,b=memBy P Q y:=⟨_,rfl⟩
 rw[←hb3]at hmb1 ⊢
 rw[←hb4]at hmb2 ⊢
 have Hb3:=hide hb3
 have Hb4:=hide hb4
 clear hb3 hb4
 have hc1:=fun w=>Lib.run_convert_bytes_const (P:=Tryz.prog) w 24 5 #[.int .u8 115,.int .u8 105,.int .u8 103,.int .u8 110] 4 4 Tryz.under_bs Tryz.under8
 have HM:=hide hM
 clear hM
 go_enter Tryz.func77,Tryz.ntmps77
 have b5:Box (((w.alloc (.cells #[.slice A1 l1 c1] 39)).alloc (.cells #[.slice A2 l2 c2] 39)).alloc (.cells #[.slice none 0 0] 39)) w.heap.size 39 (.slice A1 l1 c1):=((Box.new _ _ _).alloc _).alloc _
 have q5:=b5.cell
 go_wp2_with fail
 clear q5
 refine name_c (fun W hW=>?_)
 rw[←hW]at b5
 have b6:Box W (w.heap.size+1) 39 (.slice A2 l2 c2):=by rw[hW];exact(Box.new_at (by simp)).alloc _
 have b8:Box W (w.heap.size+1+1) 39 (.slice none 0 0):=by rw[hW];exact Box.new_at (by simp)
 have hE:Ext w W:=by rw[hW];exact(((Upd.refl _ w).alloc _).alloc _).alloc _
 clear hW b5
 refine(gBytes_any gr P Q G H k W _ a (h.ext hE) (hV.ext hE) hF hP hQ hk (by omega)).mono ?_
 rintro e w1 ⟨A3,l3,c3,rfl,hl3,hlc3,hm3,hS3, -,hU1⟩
 have b6':=b6.ext hU1
 have b8':=b8.ext hU1
 have hE1:=hE.trans hU1
 have q6:=b6'.cell
 clear hE hU1 b6 b8
 go_wp2_with fail
 clear q6
 refine(gBytes_any gr P Q G H k w1 _ y (h.ext hE1) (hVy.ext hE1) hFy hP hQ hk (by omega)).mono ?_
 rintro e w2 ⟨A4,l4,c4,rfl,hl4,hlc4,hm4,hS4, -,hU2⟩
 have b8:=b8'.ext hU2
 have hE2:=hE1.trans hU2
 have hS3':=hS3.ext hU2
 clear hE1 hU2 b8' hS3 b6'
 rw[←Hb3.out]at hS3' hl3
 rw[←Hb4.out]at hS4 hl4
 have P3:Pt.ok w2 ⟨A3,l3,c3,bs3⟩:=⟨hS3',hl3,hlc3,hm3⟩
 have P4:Pt.ok w2 ⟨A4,l4,c4,bs4⟩:=⟨hS4,hl4,hlc4,hm4⟩
 have PM:=HM.out.ext hE2
 have HP3:=hide P3
 have HP4:=hide P4
 have HPM:=hide PM
 have hlen:(chalB [⟨some ⟨w2.heap.size,0,none⟩,4,4,sgnB⟩,⟨A3,l3,c3,bs3⟩,⟨A4,l4,c4,bs4⟩,⟨A,n,c,msg⟩]).length≤100000000:=by
  have h4:msg.length=n:=HM.out.2.1
  simp only[chalB,List.flatMap_cons,List.flatMap_nil,List.length_append,leK_length,List.length_nil,sgnB,List.length_cons]
  omega
 have hall:∀p∈[(⟨some ⟨w2.heap.size,0,none⟩,4,4,sgnB⟩:Pt),⟨A3,l3,c3,bs3⟩,⟨A4,l4,c4,bs4⟩,⟨A,n,c,msg⟩],p.bs.length=p.n:=by
  intro p hp
  simp only[List.mem_cons,List.mem_nil_iff,or_false]at hp
  rcases hp with rfl | rfl | rfl | rfl
  · rfl
  · exact hl3
  · exact hl4
  · exact HM.out.2.1
 have hcN:chalN [⟨some ⟨w2.heap.size,0,none⟩,4,4,sgnB⟩,⟨A3,l3,c3,bs3⟩,⟨A4,l4,c4,bs4⟩,⟨A,n,c,msg⟩] Q=chalOf [sgnB,bs3,bs4,msg] Q:=chalN_bs hall
 have Hlen:=hide hlen
 have HcN:=hide hcN
 have hEa:Ext w2 (w2.alloc (.cells #[.int .u8 115,.int .u8 105,.int .u8 103,.int .u8 110] 5 (4,5))):=(Upd.refl _ _).alloc _
 have P0:Pt.ok (w2.alloc (.cells #[.int .u8 115,.int .u8 105,.int .u8 103,.int .u8 110] 5 (4,5))) ⟨some ⟨w2.heap.size,0,none⟩,4,4,sgnB⟩:=⟨Sl.mark by8 w2 5 (4,5) sgnB,rfl,Nat.le_refl _,by simp[maxLen]⟩
 have hPs:=Pts.lit (w2.alloc (.cells #[.int .u8 115,.int .u8 105,.int .u8 103,.int .u8 110] 5 (4,5))) 24 [(⟨some ⟨w2.heap.size,0,none⟩,4,4,sgnB⟩:Pt),⟨A3,l3,c3,bs3⟩,⟨A4,l4,c4,bs4⟩,⟨A,n,c,msg⟩] (by
  intro p hp
  simp only[List.mem_cons,List.mem_nil_iff,or_false]at hp
  rcases hp with rfl | rfl | rfl | rfl
  · exact P0
  · exact HP3.out.ext hEa
  · exact HP4.out.ext hEa
  · exact HPM.out.ext hEa)
 rw[show(w2.alloc (.cells #[.int .u8 115,.int .u8 105,.int .u8 103,.int .u8 110] 5 (4,5))).heap.size=w2.heap.size+1 by simp]at hPs
 have HPs:=hide hPs
 have HEa:=hide hEa
 clear hS3' hS4 hlc3 hm3 hlc4 hm4 P3 P4 PM hlen hall hcN hEa P0 hPs
 go_wp2_with fail
 have hEw:=hE2.trans (HEa.out.alloc (.cells #[.slice (some ⟨w2.heap.size,0,none⟩) 4 4,.slice A3 l3 c3,.slice A4 l4 c4,.slice A n c] 24))
 refine(gChal_any gr P Q G H k _ 4 4 _ _ (h.ext hEw) HPs.out rfl (by omega) Hlen.out hQ hk8 (by omega)).mono ?_
 rw[HcN.out]
 rintro e w3 ⟨A9,l9,c9,rfl,hV9,hU9⟩
 have hEE:=hEw.trans hU9
 have b8n:=(b8.ext (HEa.out.alloc (.cells #[.slice (some ⟨w2.heap.size,0,none⟩) 4 4,.slice A3 l3 c3,.slice A4 l4 c4,.slice A n c] 24))).ext hU9
 have z2:=b8n.cell
 have z3:=b8n.frozen
 clear hEw hU9
 go_wp2_with fail
 have q:=(b8n.set (.slice A9 l9 c9)).cell
 exact bodyPost_ret (v:=.agg #[.slice A9 l9 c9]) (by simp[results,Tryz.results77,go_sem,q]) rfl ⟨_,_,_,rfl,hV9.far z2,hEE.setCell (p:=⟨w.heap.size+1+1,0,none⟩) (.inr (by simp;omega)) _⟩
end
end Go.Proofs.YtbhhjfhepkbfgaaGreat
