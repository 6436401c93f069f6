/- Entries and votes out of bytes, walked: bytes.Equal, DecodeEntry. -/
import Derived.Test.YtbhhjfhepkbfgaaGreatWsWirJ
namespace Go.Proofs.YtbhhjfhepkbfgaaGreat
set_option linter.unusedSimpArgs false
set_option linter.unusedVariables false
open Go.RowKit
open Nt Sha
attribute [local go_sem] steady steadyUpon Cls same_cell str_eq
attribute [local irreducible] wpHead wpTree entryR numR textR
set_option maxRecDepth 100000 in
set_option maxHeartbeats 1000000 in
theorem bequal_any (A:Option Addr) (n c:Nat) (B:Option Addr) (m d:Nat) (a b:List B8) (w:World) (hA:Sl by8 w A a) (ha:a.length=n) (hB:Sl by8 w B b) (hb:b.length=m):
 Calls Tryz.prog 44 #[.slice A n c,.slice B m d] w fun e w'=>e=.returned (.bool (decide (a=b)))∧w'=w:=by
 have h1:=run_str (c:=c) (P:=Tryz.prog) (S:=9) Tryz.n_under_bs Tryz.n_under8 Tryz.n_underS hA ha
 have h2:=run_str (c:=d) (P:=Tryz.prog) (S:=9) Tryz.n_under_bs Tryz.n_under8 Tryz.n_underS hB hb
 clear hA hB ha hb
 go_enter Tryz.func44,Tryz.ntmps44
 go_wp2_with fail
 go_ret
 exact⟨rfl,rfl⟩
def Ev.en (v:Ev) (L1:Option Addr) (c1:Nat) (L2:Option Addr) (c2:Nat) (ps:List Pt) (P:Option Addr) (c3:Nat):En:=
 ⟨(v.K:Int),(v.au:Int),(v.ep:Int),(v.mode:Int),(v.peer:Int),(v.phase:Int),L1,v.ns.length,c1,v.ns,L2,v.ts.length,c2,ps,P,v.pr.length,c3,v.pr⟩
def goodE (b:List B8) (x:En):Bool:=!(entryR (b,false)).2.2 && (x.ok && decide (x.bytes=b))
def RetDec (w:World) (b:List B8) (e:Ending) (w':World):Prop:=
 ∃ L1 c1 L2 c2 ps P c3,EnOk w' ((entryR (b,false)).1.en L1 c1 L2 c2 ps P c3)∧ps.map (·.bs)=(entryR (b,false)).1.ts∧Ext w w'∧
   (goodE b ((entryR (b,false)).1.en L1 c1 L2 c2 ps P c3)=true→e=.returned (.tuple #[.agg ((entryR (b,false)).1.en L1 c1 L2 c2 ps P c3).cs,.int .i64 0]))∧
   (goodE b ((entryR (b,false)).1.en L1 c1 L2 c2 ps P c3)=false→e=.returned (.tuple #[.agg (ecl 0 0 0 0 0 0 (.slice none 0 0) (.slice none 0 0) (.slice none 0 0)),.int .i64 3]))
theorem fromR_fit (xs:List B8):Fit 32 (fromR xs).1:=by
 unfold fromR
 split
 · exact Nat.pow_pos (by decide)
 · rename_i h
   have h1:=ofB_lt xs
   unfold Fit
   refine Nat.lt_of_lt_of_le h1 ?_
   rw[show W32^32=256^128 by decide]
   exact Nat.pow_le_pow_right (by omega) (by omega)
theorem natsR_fit :∀(k:Nat) (s:RdS),∀n∈(natsR k s).1,Fit 32 n
 | 0,s,n,h=>by cases h
 | k+1,s,n,h=>by
   cases hb:s.2 with
   | true=>rw[natsR_bad _ hb]at h;cases h
   | false=>
     rw[natsR_ok _ hb]at h
     rcases List.mem_cons.1 h with rfl | h
     · exact fromR_fit _
     · exact natsR_fit k _ n h
theorem entryR_fit (s:RdS):∀k∈(entryR s).1.ns,Fit 32 k:=by
 rw[entryR_eq rfl rfl rfl rfl rfl rfl rfl rfl rfl rfl]
 exact natsR_fit _ _
set_option maxRecDepth 100000 in
set_option maxHeartbeats 1000000 in
theorem decE_any (A:Option Addr) (n c:Nat) (b:List B8) (w:World) (hS:Sl by8 w A b) (hn:b.length=n) (hnc:n≤c) (hcm:c≤maxLen):
 Calls Tryz.prog 18 #[.slice A n c] w (RetDec w b):=by
 have HS:=hide hS
 have Hn:=hide hn
 have Hc:=hide (And.intro hnc hcm)
 obtain⟨v,hv⟩:∃v,v=(entryR (b,false)).1:=⟨_,rfl⟩
 obtain⟨s',hs⟩:∃s',s'=(entryR (b,false)).2:=⟨_,rfl⟩
 obtain⟨rest,bad⟩:=s'
 have hF:∀k∈v.ns,Fit 32 k:=by rw[hv];exact entryR_fit _
 have hgood:∀y,goodE b y=(!bad && (y.ok && decide (y.bytes=b))):=fun y=>by unfold goodE;rw[←hs]
 unfold RetDec
 rw[←hv]
 have Hv:=hide hv
 have Hs:=hide hs
 have HF:=hide hF
 have Hg:=hide hgood
 clear hS hn hnc hcm hv hs hF hgood
 go_enter Tryz.func18,Tryz.ntmps18
 go_upto_region 2 with fail
 refine name_w (fun W hW=>?_)
 have b2:Blk W w.heap.size 48 (ecl 0 0 0 0 0 0 (.slice none 0 0) (.slice none 0 0) (.slice none 0 0)):=by rw[hW];exact(Blk.new _ _ _).ext ((Upd.refl _ _).alloc _)
 have hE:Ext w W:=by rw[hW];exact((Upd.refl _ _).alloc _).alloc _
 have hT:Two W (w.heap.size+1) 102 (.slice A n c) (.bool false):=by rw[hW];exact Two.mk_at (by simp)
 have hR:Rd W w.heap.size (w.heap.size+1) (b,false):=⟨Nat.le_succ _,A,n,c,hT,HS.out.ext hE,Hn.out,Hc.out.1,Hc.out.2,fun h0 k hk=>HS.out.inA_lt h0 hk⟩
 have hsz:w.heap.size+1<W.heap.size:=hT.lt
 have HR:=hide hR
 clear hW hT hR
 go_wp2_with fail
 refine(rdentry_any w.heap.size (w.heap.size+1) (b,false) W HR.out).mono ?_
 rintro e w1 ⟨L1,l1,c1,L2,l2,c2,P,lp,c3,ts,ps,rfl,hl1,hL1,hl2,hps,hL2,hlp,hO,hR1,hU1⟩
 rw[←Hv.out]at hl1 hL1 hps hlp hO
 rw[←Hs.out]at hR1
 rw[←Hv.out]
 obtain rfl:v.ns.length=l1:=hl1
 obtain rfl:v.pr.length=lp:=hlp
 have hl2':v.ts.length=l2:=by rw[←hps,List.length_map];exact hl2
 subst hl2'
 obtain⟨x,hx⟩:∃x,x=v.en L1 c1 L2 c2 ps P c3:=⟨_,rfl⟩
 have hmk:∀(X:World) (T:Nat→Prop),Upd T w1 X→(∀k,W.heap.size≤k→¬T k)→EnOk X x:=fun X T hu hT=>by
   rw[hx]
   have k1:=hL1.row.cap
   have k2:=hL2.row.cap
   have k3:=hO.cap
   rw[List.length_map]at k1 k2 k3
   have k4:=hL1.len
   unfold maxLen at k1 k2 k3
   exact⟨(hL1.keep hu hT).nats,rfl,by show v.ns.length≤_;omega,(hL2.keep hu hT).pts,hl2,by show v.ts.length≤_;omega,(hO.upd hu (fun k hk=>hT k (hO.in_ hk).1)).sl,rfl,by show v.pr.length≤_;omega⟩
 have hxk:EnOk w1 x:=hmk w1 (fun _=>False) (Upd.refl _ _) (fun _ _ h=>h)
 have Hmk:=hide hmk
 have hxf:FitL 32 x.ns:=fun i hi=>by
   rw[hx]at hi ⊢
   rw[gat_lt hi]
   exact HF.out _ (List.getElem_mem _)
 have c2':=b2.upd hU1 (fun e=>by have:w.heap.size=w.heap.size+1:=e;omega)
 have hE1:Ext w w1:=Upd.fresh hU1 hE (fun k hk=>by have:k=w.heap.size+1:=hk;omega)
 obtain⟨-,A1,l1,d1,hA1⟩:=hR1
 have hw1:W.heap.size≤w1.heap.size:=hU1.size
 have HX:=hide hxk
 have HXf:=hide hxf
 have Hx:=hide hx
 have HA:=hide hA1.cells
 have Hps:=hide hps
 clear hmk hL1 hL2 hO hxk hxf hx hA1 hps hl2 b2 hU1 hE
 unfold ecl
 go_upto_region 3 with fail
 refine name_w (fun V hV=>?_)
 have b5:Blk V w1.heap.size 48 (ecl v.K v.au v.ep v.mode v.peer v.phase (.slice L1 v.ns.length c1) (.slice L2 v.ts.length c2) (.slice P v.pr.length c3)):=by rw[hV];exact Blk.new _ _ _
 have hEV:Ext w1 V:=by rw[hV];exact(Upd.refl _ _).alloc _
 clear hV
 have q0:V.cell? ⟨w1.heap.size,0,none⟩=some (.int .i64 (v.K:Int)):=b5.at 0 rfl
 have q1:V.cell? ⟨w1.heap.size,1,none⟩=some (.int .i64 (v.au:Int)):=b5.at 1 rfl
 have q2:V.cell? ⟨w1.heap.size,2,none⟩=some (.int .i64 (v.ep:Int)):=b5.at 2 rfl
 have q3:V.cell? ⟨w1.heap.size,3,none⟩=some (.int .i64 (v.mode:Int)):=b5.at 3 rfl
 have q4:V.cell? ⟨w1.heap.size,4,none⟩=some (.int .i64 (v.peer:Int)):=b5.at 4 rfl
 have q5:V.cell? ⟨w1.heap.size,5,none⟩=some (.int .i64 (v.phase:Int)):=b5.at 5 rfl
 have q6:V.cell? ⟨w1.heap.size,6,none⟩=some (.slice L1 v.ns.length c1):=b5.at 6 rfl
 have q7:V.cell? ⟨w1.heap.size,7,none⟩=some (.slice L2 v.ts.length c2):=b5.at 7 rfl
 have q8:V.cell? ⟨w1.heap.size,8,none⟩=some (.slice P v.pr.length c3):=b5.at 8 rfl
 have hcs:(Value.agg x.cs)=.agg #[.int .i64 (v.K:Int),.int .i64 (v.au:Int),.int .i64 (v.ep:Int),.int .i64 (v.mode:Int),.int .i64 (v.peer:Int),.int .i64 (v.phase:Int),.slice L1 v.ns.length c1,.slice L2 v.ts.length c2,.slice P v.pr.length c3]:=by rw[Hx.out];rfl
 have Hcs:=hide hcs
 clear hcs
 go_wp2_with fail
 rw[←Hcs.out]
 refine(encE_any x 32 V (HX.out.ext hEV) HXf.out (by omega)).mono ?_
 rintro e w2 ⟨A2,l2,d2,m,rfl,hU2,hy,hnn⟩
 have hEV2:=hEV.trans hU2
 have hTw:=HA.out.ext hEV2
 have p1:w2.cell? ⟨w.heap.size+1,1,none⟩=some (.bool bad):=hTw.cell1
 have b5':=b5.ext hU2
 have hkeep:∀X,Upd (only w.heap.size) w2 X→EnOk X x:=fun X hu=>Hmk.out X _ ((Upd.ofExt hEV2).trans hu) (fun k hk e=>by have:k=w.heap.size:=e;omega)
 have HKeep:=hide hkeep
 have b2':=c2'.ext hEV2
 have hE2:=hE1.trans hEV2
 have HX2:=hide (HX.out.ext hEV2)
 have HS2:=hide (HS.out.ext hE2)
 have Hy:=hide hy
 have Hnn:=hide hnn
 have HE2:=hide hE2
 have hw2:w1.heap.size<w2.heap.size:=b5'.lt
 clear hkeep Hmk q0 q1 q2 q3 q4 q5 q6 q7 q8 hy hnn hTw b5 c2' hEV hEV2 hE2 HX HXf HA hU2 hE1
 have q0:w2.cell? ⟨w1.heap.size,0,none⟩=some (.int .i64 (v.K:Int)):=b5'.at 0 rfl
 have q1:w2.cell? ⟨w1.heap.size,1,none⟩=some (.int .i64 (v.au:Int)):=b5'.at 1 rfl
 have q2:w2.cell? ⟨w1.heap.size,2,none⟩=some (.int .i64 (v.ep:Int)):=b5'.at 2 rfl
 have q3:w2.cell? ⟨w1.heap.size,3,none⟩=some (.int .i64 (v.mode:Int)):=b5'.at 3 rfl
 have q4:w2.cell? ⟨w1.heap.size,4,none⟩=some (.int .i64 (v.peer:Int)):=b5'.at 4 rfl
 have q5:w2.cell? ⟨w1.heap.size,5,none⟩=some (.int .i64 (v.phase:Int)):=b5'.at 5 rfl
 have q6:w2.cell? ⟨w1.heap.size,6,none⟩=some (.slice L1 v.ns.length c1):=b5'.at 6 rfl
 have q7:w2.cell? ⟨w1.heap.size,7,none⟩=some (.slice L2 v.ts.length c2):=b5'.at 7 rfl
 have q8:w2.cell? ⟨w1.heap.size,8,none⟩=some (.slice P v.pr.length c3):=b5'.at 8 rfl
 have a0:w2.cell? ⟨w.heap.size,0,none⟩=some (.int .i64 0):=b2'.at 0 rfl
 have a1:w2.cell? ⟨w.heap.size,1,none⟩=some (.int .i64 0):=b2'.at 1 rfl
 have a2:w2.cell? ⟨w.heap.size,2,none⟩=some (.int .i64 0):=b2'.at 2 rfl
 have a3:w2.cell? ⟨w.heap.size,3,none⟩=some (.int .i64 0):=b2'.at 3 rfl
 have a4:w2.cell? ⟨w.heap.size,4,none⟩=some (.int .i64 0):=b2'.at 4 rfl
 have a5:w2.cell? ⟨w.heap.size,5,none⟩=some (.int .i64 0):=b2'.at 5 rfl
 have a6:w2.cell? ⟨w.heap.size,6,none⟩=some (.slice none 0 0):=b2'.at 6 rfl
 have a7:w2.cell? ⟨w.heap.size,7,none⟩=some (.slice none 0 0):=b2'.at 7 rfl
 have a8:w2.cell? ⟨w.heap.size,8,none⟩=some (.slice none 0 0):=b2'.at 8 rfl
 have f0:=b2'.frozen 0
 have f1:=b2'.frozen 1
 have f2:=b2'.frozen 2
 have f3:=b2'.frozen 3
 have f4:=b2'.frozen 4
 have f5:=b2'.frozen 5
 have f6:=b2'.frozen 6
 have f7:=b2'.frozen 7
 have f8:=b2'.frozen 8
 have B2:=hide b2'
 clear b5' b2'
 cases bad with
 | true=>
   have hG:goodE b x=false:=by rw[Hg.out];rfl
   go_wp2_with fail
   clear q0 a0 f0 q1 a1 f1 q2 a2 f2 q3 a3 f3 q4 a4 f4 q5 a5 f5 q6 a6 f6 q7 a7 f7 q8 a8 f8
   obtain⟨X,hX,hb,hU⟩:=store9e B2.out rfl (.int .i64 0) (.int .i64 0) (.int .i64 0) (.int .i64 0) (.int .i64 0) (.int .i64 0) (.slice none 0 0) (.slice none 0 0) (.slice none 0 0)
   rw[←hX]
   clear hX
   have hEX:Ext w X:=Upd.fresh hU HE2.out (fun k hk=>by have:k=w.heap.size:=hk;omega)
   have hXX:EnOk X x:=HKeep.out X hU
   rw[Hx.out]at hXX
   have q0:X.cell? ⟨w.heap.size,0,none⟩=some (.int .i64 0):=hb.at 0 rfl
   have q1:X.cell? ⟨w.heap.size,1,none⟩=some (.int .i64 0):=hb.at 1 rfl
   have q2:X.cell? ⟨w.heap.size,2,none⟩=some (.int .i64 0):=hb.at 2 rfl
   have q3:X.cell? ⟨w.heap.size,3,none⟩=some (.int .i64 0):=hb.at 3 rfl
   have q4:X.cell? ⟨w.heap.size,4,none⟩=some (.int .i64 0):=hb.at 4 rfl
   have q5:X.cell? ⟨w.heap.size,5,none⟩=some (.int .i64 0):=hb.at 5 rfl
   have q6:X.cell? ⟨w.heap.size,6,none⟩=some (.slice none 0 0):=hb.at 6 rfl
   have q7:X.cell? ⟨w.heap.size,7,none⟩=some (.slice none 0 0):=hb.at 7 rfl
   have q8:X.cell? ⟨w.heap.size,8,none⟩=some (.slice none 0 0):=hb.at 8 rfl
   refine bodyPost_ret (v:=.tuple #[.agg (ecl 0 0 0 0 0 0 (.slice none 0 0) (.slice none 0 0) (.slice none 0 0)),.int .i64 3]) ?_ rfl ⟨L1,c1,L2,c2,ps,P,c3,hXX,Hps.out,hEX,fun h=>(by rw[←Hx.out,hG]at h;cases h),fun _=>rfl⟩
   simp[results,Tryz.results18,go_sem,ecl,q0,q1,q2,q3,q4,q5,q6,q7,q8]
 | false=>
   cases hok:x.ok with
   | false=>
     obtain⟨rfl,rfl,rfl⟩:=Hnn.out hok
     have hG:goodE b x=false:=by rw[Hg.out,hok];rfl
     go_wp2_with fail
     clear q0 a0 f0 q1 a1 f1 q2 a2 f2 q3 a3 f3 q4 a4 f4 q5 a5 f5 q6 a6 f6 q7 a7 f7 q8 a8 f8
     obtain⟨X,hX,hb,hU⟩:=store9e B2.out rfl (.int .i64 0) (.int .i64 0) (.int .i64 0) (.int .i64 0) (.int .i64 0) (.int .i64 0) (.slice none 0 0) (.slice none 0 0) (.slice none 0 0)
     rw[←hX]
     clear hX
     have hEX:Ext w X:=Upd.fresh hU HE2.out (fun k hk=>by have:k=w.heap.size:=hk;omega)
     have hXX:EnOk X x:=HKeep.out X hU
     rw[Hx.out]at hXX
     have q0:X.cell? ⟨w.heap.size,0,none⟩=some (.int .i64 0):=hb.at 0 rfl
     have q1:X.cell? ⟨w.heap.size,1,none⟩=some (.int .i64 0):=hb.at 1 rfl
     have q2:X.cell? ⟨w.heap.size,2,none⟩=some (.int .i64 0):=hb.at 2 rfl
     have q3:X.cell? ⟨w.heap.size,3,none⟩=some (.int .i64 0):=hb.at 3 rfl
     have q4:X.cell? ⟨w.heap.size,4,none⟩=some (.int .i64 0):=hb.at 4 rfl
     have q5:X.cell? ⟨w.heap.size,5,none⟩=some (.int .i64 0):=hb.at 5 rfl
     have q6:X.cell? ⟨w.heap.size,6,none⟩=some (.slice none 0 0):=hb.at 6 rfl
     have q7:X.cell? ⟨w.heap.size,7,none⟩=some (.slice none 0 0):=hb.at 7 rfl
     have q8:X.cell? ⟨w.heap.size,8,none⟩=some (.slice none 0 0):=hb.at 8 rfl
     refine bodyPost_ret (v:=.tuple #[.agg (ecl 0 0 0 0 0 0 (.slice none 0 0) (.slice none 0 0) (.slice none 0 0)),.int .i64 3]) ?_ rfl ⟨L1,c1,L2,c2,ps,P,c3,hXX,Hps.out,hEX,fun h=>(by rw[←Hx.out,hG]at h;cases h),fun _=>rfl⟩
     simp[results,Tryz.results18,go_sem,ecl,q0,q1,q2,q3,q4,q5,q6,q7,q8]
   | true=>
     obtain⟨rfl,hl2,hO2⟩:=Hy.out hok
     have HO2:=hide hO2.sl
     have Hl2:=hide hl2
     have Hok:=hide hok
     clear hok hl2 hO2
     obtain⟨bts,hbts⟩:∃bts,bts=x.bytes:=⟨_,rfl⟩
     rw[←hbts]at HO2 Hl2
     have Hbts:=hide hbts
     clear hbts
     by_cases hbb:bts=b
     · have hG:goodE b x=true:=by rw[Hg.out,Hok.out,←Hbts.out,decide_eq_true hbb];rfl
       have hd:decide (bts=b)=true:=decide_eq_true hbb
       have HG:=hide hG
       clear hG hbb
       go_wp2_with (go_at_call 44;go_must (refine(bequal_any A2 l2 d2 A n c bts b _ HO2.out Hl2.out HS2.out Hn.out).mono ?_);rintro e w3 ⟨rfl,rfl⟩;rw[hd])
       clear q0 a0 f0 q1 a1 f1 q2 a2 f2 q3 a3 f3 q4 a4 f4 q5 a5 f5 q6 a6 f6 q7 a7 f7 q8 a8 f8
       obtain⟨X,hX,hb,hU⟩:=store9e B2.out rfl (.int .i64 (v.K:Int)) (.int .i64 (v.au:Int)) (.int .i64 (v.ep:Int)) (.int .i64 (v.mode:Int)) (.int .i64 (v.peer:Int)) (.int .i64 (v.phase:Int)) (.slice L1 v.ns.length c1) (.slice L2 v.ts.length c2) (.slice P v.pr.length c3)
       rw[←hX]
       clear hX
       have hEX:Ext w X:=Upd.fresh hU HE2.out (fun k hk=>by have:k=w.heap.size:=hk;omega)
       have hXX:EnOk X x:=HKeep.out X hU
       rw[Hx.out]at hXX
       have hG:=HG.out
       have q0:X.cell? ⟨w.heap.size,0,none⟩=some (.int .i64 (v.K:Int)):=hb.at 0 rfl
       have q1:X.cell? ⟨w.heap.size,1,none⟩=some (.int .i64 (v.au:Int)):=hb.at 1 rfl
       have q2:X.cell? ⟨w.heap.size,2,none⟩=some (.int .i64 (v.ep:Int)):=hb.at 2 rfl
       have q3:X.cell? ⟨w.heap.size,3,none⟩=some (.int .i64 (v.mode:Int)):=hb.at 3 rfl
       have q4:X.cell? ⟨w.heap.size,4,none⟩=some (.int .i64 (v.peer:Int)):=hb.at 4 rfl
       have q5:X.cell? ⟨w.heap.size,5,none⟩=some (.int .i64 (v.phase:Int)):=hb.at 5 rfl
       have q6:X.cell? ⟨w.heap.size,6,none⟩=some (.slice L1 v.ns.length c1):=hb.at 6 rfl
       have q7:X.cell? ⟨w.heap.size,7,none⟩=some (.slice L2 v.ts.length c2):=hb.at 7 rfl
       have q8:X.cell? ⟨w.heap.size,8,none⟩=some (.slice P v.pr.length c3):=hb.at 8 rfl
       refine bodyPost_ret (v:=.tuple #[.agg (v.en L1 c1 L2 c2 ps P c3).cs,.int .i64 0]) ?_ rfl ⟨L1,c1,L2,c2,ps,P,c3,hXX,Hps.out,hEX,fun _=>rfl,fun h=>(by rw[←Hx.out,hG]at h;cases h)⟩
       simp[results,Tryz.results18,go_sem,En.cs,Ev.en,q0,q1,q2,q3,q4,q5,q6,q7,q8]
     · have hG:goodE b x=false:=by rw[Hg.out,Hok.out,←Hbts.out,decide_eq_false hbb];rfl
       have hd:decide (bts=b)=false:=decide_eq_false hbb
       have HG:=hide hG
       clear hG hbb
       go_wp2_with (go_at_call 44;go_must (refine(bequal_any A2 l2 d2 A n c bts b _ HO2.out Hl2.out HS2.out Hn.out).mono ?_);rintro e w3 ⟨rfl,rfl⟩;rw[hd])
       clear q0 a0 f0 q1 a1 f1 q2 a2 f2 q3 a3 f3 q4 a4 f4 q5 a5 f5 q6 a6 f6 q7 a7 f7 q8 a8 f8
       obtain⟨X,hX,hb,hU⟩:=store9e B2.out rfl (.int .i64 0) (.int .i64 0) (.int .i64 0) (.int .i64 0) (.int .i64 0) (.int .i64 0) (.slice none 0 0) (.slice none 0 0) (.slice none 0 0)
       rw[←hX]
       clear hX
       have hEX:Ext w X:=Upd.fresh hU HE2.out (fun k hk=>by have:k=w.heap.size:=hk;omega)
       have hXX:EnOk X x:=HKeep.out X hU
       rw[Hx.out]at hXX
       have hG:=HG.out
       have q0:X.cell? ⟨w.heap.size,0,none⟩=some (.int .i64 0):=hb.at 0 rfl
       have q1:X.cell? ⟨w.heap.size,1,none⟩=some (.int .i64 0):=hb.at 1 rfl
       have q2:X.cell? ⟨w.heap.size,2,none⟩=some (.int .i64 0):=hb.at 2 rfl
       have q3:X.cell? ⟨w.heap.size,3,none⟩=some (.int .i64 0):=hb.at 3 rfl
       have q4:X.cell? ⟨w.heap.size,4,none⟩=some (.int .i64 0):=hb.at 4 rfl
       have q5:X.cell? ⟨w.heap.size,5,none⟩=some (.int .i64 0):=hb.at 5 rfl
       have q6:X.cell? ⟨w.heap.size,6,none⟩=some (.slice none 0 0):=hb.at 6 rfl
       have q7:X.cell? ⟨w.heap.size,7,none⟩=some (.slice none 0 0):=hb.at 7 rfl
       have q8:X.cell? ⟨w.heap.size,8,none⟩=some (.slice none 0 0):=hb.at 8 rfl
       refine bodyPost_ret (v:=.tuple #[.agg (ecl 0 0 0 0 0 0 (.slice none 0 0) (.slice none 0 0) (.slice none 0 0)),.int .i64 3]) ?_ rfl ⟨L1,c1,L2,c2,ps,P,c3,hXX,Hps.out,hEX,fun h=>(by rw[←Hx.out,hG]at h;cases h),fun _=>rfl⟩
       simp[results,Tryz.results18,go_sem,ecl,q0,q1,q2,q3,q4,q5,q6,q7,q8]
end Go.Proofs.YtbhhjfhepkbfgaaGreat
