/- Votes out of bytes, walked: DecodeVote; Same. -/
import Derived.Test.YtbhhjfhepkbfgaaGreatWsWirK
namespace Go.Proofs.YtbhhjfhepkbfgaaGreat
set_option linter.unusedSimpArgs false
set_option linter.unusedVariables false
open Go.RowKit
open Nt Sha
attribute [local go_sem] steady steadyUpon Cls same_cell str_eq
attribute [local irreducible] wpHead wpTree
structure VB (w0 w:World) (t:TypeId) (g g2 g3:Nat) (zs cs:Array Value) (s:RdS):Prop where
 rd:Rd w w0.heap.size g s
 res:Blk w g2 t zs
 x:Blk w g3 t cs
 up:Ext w0 w
 l2:w0.heap.size≤g2
 l3:w0.heap.size≤g3
 n2:g2≠g
 n3:g3≠g
 n23:g2≠g3
section vb
variable {w0 w w' : World} {t : TypeId} {g g2 g3 : Nat} {zs cs : Array Value} {s s' : RdS}
theorem VB.step (h:VB w0 w t g g2 g3 zs cs s) (hR:Rd w' w0.heap.size g s') (hU:Upd (only g) w w'):VB w0 w' t g g2 g3 zs cs s':=
 ⟨hR,h.res.upd hU (fun e=>h.n2 e),h.x.upd hU (fun e=>h.n3 e),Upd.fresh hU h.up (fun k hk=>by have h1:k=g:=hk;have:=h.rd.lt.1;omega),h.l2,h.l3,h.n2,h.n3,h.n23⟩
theorem VB.put (h:VB w0 w t g g2 g3 zs cs s) (i:Nat) (v:Value):VB w0 (w.setCell ⟨g3,i,none⟩ v) t g g2 g3 zs (cs.set! i v) s:=by
 have hU:Upd (only g3) w (w.setCell ⟨g3,i,none⟩ v):=(Upd.refl _ _).setCell (T:=only g3) (p:=⟨g3,i,none⟩) (.inl rfl) _
 have h3:=h.l3
 exact⟨h.rd.keep hU (fun e=>h.n3 e.symm) (fun k hk e=>by have:k=g3:=e;omega),h.res.upd hU (fun e=>h.n23 e),h.x.set i v,Upd.fresh hU h.up (fun k hk=>by have:k=g3:=hk;omega),h.l2,h3,h.n2,h.n3,h.n23⟩
end vb
def vcl (k f s v:Nat) (va:Int) (x:Value):Array Value:=#[.int .i64 (k:Int),.int .i64 (f:Int),.int .i64 (s:Int),.int .i64 (v:Int),.int .i64 va,x]
theorem store6e {w:World} {g:Nat} {t:TypeId} {cs:Array Value} (h:Blk w g t cs) (hs:cs.size=6) (a b c d e f:Value):∃w',w'=((((((w.setCell ⟨g,0,none⟩ a).setCell ⟨g,1,none⟩ b).setCell ⟨g,2,none⟩ c).setCell ⟨g,3,none⟩ d).setCell ⟨g,4,none⟩ e).setCell ⟨g,5,none⟩ f)∧Blk w' g t #[a,b,c,d,e,f]∧Upd (Go.Proofs.YtbhhjfhepkbfgaaGreat.only g) w w':=
 ⟨_,rfl,setAll_all [a,b,c,d,e,f] h hs rfl⟩
section
attribute [local irreducible] numR textR
theorem voteR_eq {s s1 s2 s3 s4 s5 s6 s7:RdS} (h1:s1=(numR 1 s).2) (h2:s2=(numR 1 s1).2) (h3:s3=(numR 1 s2).2) (h4:s4=(numR 4 s3).2) (h5:s5=(numR 4 s4).2) (h6:s6=(numR 4 s5).2) (h7:s7=(textR s6).2):
 voteR s=(⟨(numR 1 s1).1,(numR 1 s2).1,(numR 4 s3).1,(numR 4 s4).1,(numR 4 s5).1,(textR s6).1⟩,s7):=by
 subst h1 h2 h3 h4 h5 h6 h7
 rfl
end
def Vv.vo (v:Vv) (P:Option Addr) (c:Nat):Vo:=⟨(v.K:Int),(v.from_:Int),(v.slot:Int),(v.view:Int),(v.valid1:Int) - 1,P,v.pr.length,c,v.pr⟩
def goodV (b:List B8) (x:Vo):Bool:=!(voteR (b,false)).2.2 && (x.ok && decide (x.bytes=b))
def RetDecV (w:World) (b:List B8) (e:Ending) (w':World):Prop:=
 ∃ P c,VoOk w' ((voteR (b,false)).1.vo P c)∧Ext w w'∧
   (goodV b ((voteR (b,false)).1.vo P c)=true→e=.returned (.tuple #[.agg ((voteR (b,false)).1.vo P c).cs,.int .i64 0]))∧
   (goodV b ((voteR (b,false)).1.vo P c)=false→e=.returned (.tuple #[.agg (vcl 0 0 0 0 0 (.slice none 0 0)),.int .i64 3]))
theorem num4_lt (s:RdS):(numR 4 s).1<4294967296:=by
 have h1:=beN_lt (takeR 4 s).1
 rw[takeR_length]at h1
 exact h1
attribute [local irreducible] numR textR
set_option maxRecDepth 100000 in
set_option maxHeartbeats 1000000 in
theorem decV_any (A:Option Addr) (n c:Nat) (b:List B8) (w:World) (hS:Sl by8 w A b) (hn:b.length=n) (hnc:n≤c) (hcm:c≤maxLen):
 Calls Tryz.prog 19 #[.slice A n c] w (RetDecV w b):=by
 have HS:=hide hS
 have Hn:=hide hn
 have Hc:=hide (And.intro hnc hcm)
 obtain⟨s1,h1⟩:∃s1,s1=(numR 1 (b,false)).2:=⟨_,rfl⟩
 obtain⟨s2,h2⟩:∃s2,s2=(numR 1 s1).2:=⟨_,rfl⟩
 obtain⟨s3,h3⟩:∃s3,s3=(numR 1 s2).2:=⟨_,rfl⟩
 obtain⟨s4,h4⟩:∃s4,s4=(numR 4 s3).2:=⟨_,rfl⟩
 obtain⟨s5,h5⟩:∃s5,s5=(numR 4 s4).2:=⟨_,rfl⟩
 obtain⟨s6,h6⟩:∃s6,s6=(numR 4 s5).2:=⟨_,rfl⟩
 obtain⟨s7,h7⟩:∃s7,s7=(textR s6).2:=⟨_,rfl⟩
 have hgood:∀y,goodV b y=(!s7.2 && (y.ok && decide (y.bytes=b))):=fun y=>by unfold goodV;rw[voteR_eq h1 h2 h3 h4 h5 h6 h7]
 unfold RetDecV
 rw[voteR_eq h1 h2 h3 h4 h5 h6 h7]
 dsimp only
 obtain⟨n2,m2⟩:∃n,n=(numR 1 s1).1:=⟨_,rfl⟩
 obtain⟨n3,m3⟩:∃n,n=(numR 1 s2).1:=⟨_,rfl⟩
 obtain⟨n4,m4⟩:∃n,n=(numR 4 s3).1:=⟨_,rfl⟩
 obtain⟨n5,m5⟩:∃n,n=(numR 4 s4).1:=⟨_,rfl⟩
 obtain⟨n6,m6⟩:∃n,n=(numR 4 s5).1:=⟨_,rfl⟩
 obtain⟨x7,m7⟩:∃x,x=(textR s6).1:=⟨_,rfl⟩
 have hn6:n6<4294967296:=by rw[m6];exact num4_lt _
 rw[←m2,←m3,←m4,←m5,←m6,←m7]
 have Hs1:=hide h1
 have Hs2:=hide h2
 have Hs3:=hide h3
 have Hs4:=hide h4
 have Hs5:=hide h5
 have Hs6:=hide h6
 have Hs7:=hide h7
 have Hn2:=hide m2
 have Hn3:=hide m3
 have Hn4:=hide m4
 have Hn5:=hide m5
 have Hn6:=hide m6
 have Hx7:=hide m7
 have Hg:=hide hgood
 clear hS hn hnc hcm h1 h2 h3 h4 h5 h6 h7 m2 m3 m4 m5 m6 m7 hgood
 go_enter Tryz.func19,Tryz.ntmps19
 go_upto_region 2 with fail
 refine name_w (fun W hW=>?_)
 have b2:Blk W w.heap.size 63 (vcl 0 0 0 0 0 (.slice none 0 0)):=by rw[hW];exact(Blk.new _ _ _).ext ((Upd.refl _ _).alloc _)
 have hE:Ext w W:=by rw[hW];exact((Upd.refl _ _).alloc _).alloc _
 have hT:Two W (w.heap.size+1) 102 (.slice A n c) (.bool false):=by rw[hW];exact Two.mk_at (by simp)
 have hR:Rd W w.heap.size (w.heap.size+1) (b,false):=⟨Nat.le_succ _,A,n,c,hT,HS.out.ext hE,Hn.out,Hc.out.1,Hc.out.2,fun h0 k hk=>HS.out.inA_lt h0 hk⟩
 have hsz:w.heap.size+1<W.heap.size:=hT.lt
 have HR:=hide hR
 clear hW hT hR
 go_wp2_with fail
 refine(rdnum_any w.heap.size (w.heap.size+1) 1 (b,false) W HR.out (by omega)).mono ?_
 rintro e w1 ⟨rfl,hR1,hU1⟩
 rw[←Hs1.out]at hR1
 have c2':=b2.upd hU1 (fun e=>by have:w.heap.size=w.heap.size+1:=e;omega)
 have hE1:Ext w w1:=Upd.fresh hU1 hE (fun k hk=>by have:k=w.heap.size+1:=hk;omega)
 have hw1:w.heap.size+1<w1.heap.size:=Nat.lt_of_lt_of_le hsz hU1.size
 clear b2 hU1 hE
 go_wp2_with fail
 refine name_cc (fun V1 hV1=>?_)
 have hE1':VB w V1 63 (w.heap.size+1) w.heap.size w1.heap.size (vcl 0 0 0 0 0 (.slice none 0 0)) (vcl 0 0 0 0 0 (.slice none 0 0)) s1:=by
  rw[hV1]
  exact⟨hR1.ext ((Upd.refl _ _).alloc _),c2'.ext ((Upd.refl _ _).alloc _),Blk.new _ _ _,hE1.alloc _,Nat.le_refl _,by omega,by omega,by omega,by omega⟩
 obtain⟨g3,hg3⟩:∃g3,g3=w1.heap.size:=⟨_,rfl⟩
 rw[←hg3]at hE1' hw1
 rw[←hg3]
 clear hV1 c2' hR1 hE1 hg3 HR
 have hE1:=hE1'
 clear hE1'
 refine(rdnum_any w.heap.size (w.heap.size+1) 1 s1 _ hE1.rd (by omega)).mono ?_
 rintro e w2 ⟨rfl,hR2,hU2⟩
 rw[←Hs2.out]at hR2
 rw[←Hn2.out]
 have hF2:=hE1.step hR2 hU2
 clear hE1 hR2 hU2
 have q:=hF2.x.at 0 (v:=.int .i64 0) rfl
 have f:=hF2.x.frozen 0
 go_wp2_with fail
 refine name_cc (fun V2 hV2=>?_)
 have hE2':=hF2.put 0 (.int .i64 (n2:Int))
 rw[←hV2]at hE2'
 have hE2:VB w V2 63 (w.heap.size+1) w.heap.size g3 (vcl 0 0 0 0 0 (.slice none 0 0)) (vcl n2 0 0 0 0 (.slice none 0 0)) s2:=hE2'
 clear hV2 hF2 q f hE2'
 refine(rdnum_any w.heap.size (w.heap.size+1) 1 s2 _ hE2.rd (by omega)).mono ?_
 rintro e w3 ⟨rfl,hR3,hU3⟩
 rw[←Hs3.out]at hR3
 rw[←Hn3.out]
 have hF3:=hE2.step hR3 hU3
 clear hE2 hR3 hU3
 have q:=hF3.x.at 1 (v:=.int .i64 0) rfl
 have f:=hF3.x.frozen 1
 go_wp2_with fail
 refine name_cc (fun V3 hV3=>?_)
 have hE3':=hF3.put 1 (.int .i64 (n3:Int))
 rw[←hV3]at hE3'
 have hE3:VB w V3 63 (w.heap.size+1) w.heap.size g3 (vcl 0 0 0 0 0 (.slice none 0 0)) (vcl n2 n3 0 0 0 (.slice none 0 0)) s3:=hE3'
 clear hV3 hF3 q f hE3'
 refine(rdnum_any w.heap.size (w.heap.size+1) 4 s3 _ hE3.rd (by omega)).mono ?_
 rintro e w4 ⟨rfl,hR4,hU4⟩
 rw[←Hs4.out]at hR4
 rw[←Hn4.out]
 have hF4:=hE3.step hR4 hU4
 clear hE3 hR4 hU4
 have q:=hF4.x.at 2 (v:=.int .i64 0) rfl
 have f:=hF4.x.frozen 2
 go_wp2_with fail
 refine name_cc (fun V4 hV4=>?_)
 have hE4':=hF4.put 2 (.int .i64 (n4:Int))
 rw[←hV4]at hE4'
 have hE4:VB w V4 63 (w.heap.size+1) w.heap.size g3 (vcl 0 0 0 0 0 (.slice none 0 0)) (vcl n2 n3 n4 0 0 (.slice none 0 0)) s4:=hE4'
 clear hV4 hF4 q f hE4'
 refine(rdnum_any w.heap.size (w.heap.size+1) 4 s4 _ hE4.rd (by omega)).mono ?_
 rintro e w5 ⟨rfl,hR5,hU5⟩
 rw[←Hs5.out]at hR5
 rw[←Hn5.out]
 have hF5:=hE4.step hR5 hU5
 clear hE4 hR5 hU5
 have q:=hF5.x.at 3 (v:=.int .i64 0) rfl
 have f:=hF5.x.frozen 3
 go_wp2_with fail
 refine name_cc (fun V5 hV5=>?_)
 have hE5':=hF5.put 3 (.int .i64 (n5:Int))
 rw[←hV5]at hE5'
 have hE5:VB w V5 63 (w.heap.size+1) w.heap.size g3 (vcl 0 0 0 0 0 (.slice none 0 0)) (vcl n2 n3 n4 n5 0 (.slice none 0 0)) s5:=hE5'
 clear hV5 hF5 q f hE5'
 refine(rdnum_any w.heap.size (w.heap.size+1) 4 s5 _ hE5.rd (by omega)).mono ?_
 rintro e w6 ⟨rfl,hR6,hU6⟩
 rw[←Hs6.out]at hR6
 rw[←Hn6.out]
 have hF6:=hE5.step hR6 hU6
 clear hE5 hR6 hU6
 have q:=hF6.x.at 4 (v:=.int .i64 0) rfl
 have f:=hF6.x.frozen 4
 go_wp2_with fail
 refine name_cc (fun V6 hV6=>?_)
 have hE6':=hF6.put 4 (.int .i64 ((n6:Int) - 1))
 rw[←hV6]at hE6'
 have hE6:VB w V6 63 (w.heap.size+1) w.heap.size g3 (vcl 0 0 0 0 0 (.slice none 0 0)) (vcl n2 n3 n4 n5 ((n6:Int) - 1) (.slice none 0 0)) s6:=hE6'
 clear hV6 hF6 q f hE6'
 refine(rdtext_any w.heap.size (w.heap.size+1) s6 _ hE6.rd).mono ?_
 rintro e w7 ⟨P,lp,c3,rfl,hlp,hO,hR7,hU7⟩
 rw[←Hs7.out]at hR7
 rw[←Hx7.out]at hlp hO
 obtain rfl:x7.length=lp:=hlp
 have hF7:=hE6.step hR7 hU7
 have hg6:g3<V6.heap.size:=hE6.x.lt
 clear hE6 hR7 hU7
 have q:=hF7.x.at 5 (v:=.slice none 0 0) rfl
 have f:=hF7.x.frozen 5
 go_upto_region 10 with fail
 refine name_w (fun V hV=>?_)
 have hE7':=hF7.put 5 (.slice P x7.length c3)
 have hU7:Upd (only g3) w7 (w7.setCell ⟨g3,5,none⟩ (.slice P x7.length c3)):=(Upd.refl _ _).setCell (T:=only g3) (p:=⟨g3,5,none⟩) (.inl rfl) _
 rw[←hV]at hE7' hU7
 have hE7:VB w V 63 (w.heap.size+1) w.heap.size g3 (vcl 0 0 0 0 0 (.slice none 0 0)) (vcl n2 n3 n4 n5 ((n6:Int) - 1) (.slice P x7.length c3)) s7:=hE7'
 have hO7:=hO.upd hU7 (fun k hk e=>by have:k=g3:=e;have:=(hO.in_ hk).1;omega)
 clear hV hF7 q f hE7' hO hU7
 obtain⟨x,hx⟩:∃x,x=(⟨n2,n3,n4,n5,n6,x7⟩:Vv).vo P c3:=⟨_,rfl⟩
 have hmk:∀(X:World) (T:Nat→Prop),Upd T V X→(∀k,V6.heap.size≤k→¬T k)→VoOk X x:=fun X T hu hT=>by
   rw[hx]
   have k3:=hO7.cap
   rw[List.length_map]at k3
   exact⟨(hO7.upd hu (fun k hk=>hT k (hO7.in_ hk).1)).sl,rfl,k3.1,k3.2⟩
 have Hmk:=hide hmk
 have Hx:=hide hx
 have hcs:(Value.agg x.cs)=.agg #[.int .i64 (n2:Int),.int .i64 (n3:Int),.int .i64 (n4:Int),.int .i64 (n5:Int),.int .i64 ((n6:Int) - 1),.slice P x7.length c3]:=by rw[hx];rfl
 have Hcs:=hide hcs
 obtain⟨rest,bad⟩:=s7
 have HE7:=hide hE7
 obtain⟨-,A1,l1,d1,hA1⟩:=hE7.rd
 have HA:=hide hA1.cells
 clear hmk hx hcs hO7 hE7 hA1
 have q0:V.cell? ⟨g3,0,none⟩=some (.int .i64 (n2:Int)):=HE7.out.x.at 0 rfl
 have q1:V.cell? ⟨g3,1,none⟩=some (.int .i64 (n3:Int)):=HE7.out.x.at 1 rfl
 have q2:V.cell? ⟨g3,2,none⟩=some (.int .i64 (n4:Int)):=HE7.out.x.at 2 rfl
 have q3:V.cell? ⟨g3,3,none⟩=some (.int .i64 (n5:Int)):=HE7.out.x.at 3 rfl
 have q4:V.cell? ⟨g3,4,none⟩=some (.int .i64 ((n6:Int) - 1)):=HE7.out.x.at 4 rfl
 have q5:V.cell? ⟨g3,5,none⟩=some (.slice P x7.length c3):=HE7.out.x.at 5 rfl
 go_wp2_with fail
 rw[←Hcs.out]
 refine(encV_any x V (Hmk.out V (fun _=>False) (Upd.refl _ _) (fun _ _ h=>h))).mono ?_
 rintro e w2 ⟨A2,l2,d2,m,rfl,hU2,hy,hnn⟩
 have hTw:=HA.out.ext hU2
 have p1:w2.cell? ⟨w.heap.size+1,1,none⟩=some (.bool bad):=hTw.cell1
 have b5':=HE7.out.x.ext hU2
 have b2':=HE7.out.res.ext hU2
 have hkeep:∀X,Upd (only w.heap.size) w2 X→VoOk X x:=fun X hu=>Hmk.out X _ ((Upd.ofExt hU2).trans hu) (fun k hk e=>by have:k=w.heap.size:=e;omega)
 have HKeep:=hide hkeep
 have HE2:=hide (HE7.out.up.trans hU2)
 have HS2:=hide (HS.out.ext HE2.out)
 have Hy:=hide hy
 have Hnn:=hide hnn
 clear hkeep Hmk q0 q1 q2 q3 q4 q5 hy hnn hTw HA hU2 HE7
 have q0:w2.cell? ⟨g3,0,none⟩=some (.int .i64 (n2:Int)):=b5'.at 0 rfl
 have a0:w2.cell? ⟨w.heap.size,0,none⟩=some (.int .i64 0):=b2'.at 0 rfl
 have f0:=b2'.frozen 0
 have q1:w2.cell? ⟨g3,1,none⟩=some (.int .i64 (n3:Int)):=b5'.at 1 rfl
 have a1:w2.cell? ⟨w.heap.size,1,none⟩=some (.int .i64 0):=b2'.at 1 rfl
 have f1:=b2'.frozen 1
 have q2:w2.cell? ⟨g3,2,none⟩=some (.int .i64 (n4:Int)):=b5'.at 2 rfl
 have a2:w2.cell? ⟨w.heap.size,2,none⟩=some (.int .i64 0):=b2'.at 2 rfl
 have f2:=b2'.frozen 2
 have q3:w2.cell? ⟨g3,3,none⟩=some (.int .i64 (n5:Int)):=b5'.at 3 rfl
 have a3:w2.cell? ⟨w.heap.size,3,none⟩=some (.int .i64 0):=b2'.at 3 rfl
 have f3:=b2'.frozen 3
 have q4:w2.cell? ⟨g3,4,none⟩=some (.int .i64 ((n6:Int) - 1)):=b5'.at 4 rfl
 have a4:w2.cell? ⟨w.heap.size,4,none⟩=some (.int .i64 0):=b2'.at 4 rfl
 have f4:=b2'.frozen 4
 have q5:w2.cell? ⟨g3,5,none⟩=some (.slice P x7.length c3):=b5'.at 5 rfl
 have a5:w2.cell? ⟨w.heap.size,5,none⟩=some (.slice none 0 0):=b2'.at 5 rfl
 have f5:=b2'.frozen 5
 have B2:=hide b2'
 clear b5' b2'
 cases bad with
 | true=>
   have HG:Hid (goodV b x=false):=hide (by rw[Hg.out];rfl)
   go_wp2_with fail
   clear q0 a0 f0 q1 a1 f1 q2 a2 f2 q3 a3 f3 q4 a4 f4 q5 a5 f5
   obtain⟨X,hX,hb,hU⟩:=store6e B2.out rfl (.int .i64 0) (.int .i64 0) (.int .i64 0) (.int .i64 0) (.int .i64 0) (.slice none 0 0)
   rw[←hX]
   clear hX
   have hEX:Ext w X:=Upd.fresh hU HE2.out (fun k hk=>by have:k=w.heap.size:=hk;omega)
   have hXX:VoOk X x:=HKeep.out X hU
   rw[Hx.out]at hXX
   have hG:=HG.out
   have q0:X.cell? ⟨w.heap.size,0,none⟩=some (.int .i64 0):=hb.at 0 rfl
   have q1:X.cell? ⟨w.heap.size,1,none⟩=some (.int .i64 0):=hb.at 1 rfl
   have q2:X.cell? ⟨w.heap.size,2,none⟩=some (.int .i64 0):=hb.at 2 rfl
   have q3:X.cell? ⟨w.heap.size,3,none⟩=some (.int .i64 0):=hb.at 3 rfl
   have q4:X.cell? ⟨w.heap.size,4,none⟩=some (.int .i64 0):=hb.at 4 rfl
   have q5:X.cell? ⟨w.heap.size,5,none⟩=some (.slice none 0 0):=hb.at 5 rfl
   refine bodyPost_ret (v:=.tuple #[.agg (vcl 0 0 0 0 0 (.slice none 0 0)),.int .i64 3]) ?_ rfl ⟨P,c3,hXX,hEX,fun h=>(by rw[←Hx.out,hG]at h;cases h),fun _=>rfl⟩
   simp[results,Tryz.results19,go_sem,vcl,q0,q1,q2,q3,q4,q5]
 | false=>
   cases hok:x.ok with
   | false=>
     obtain⟨rfl,rfl,rfl⟩:=Hnn.out hok
     have HG:Hid (goodV b x=false):=hide (by rw[Hg.out,hok];rfl)
     clear hok
     go_wp2_with fail
     clear q0 a0 f0 q1 a1 f1 q2 a2 f2 q3 a3 f3 q4 a4 f4 q5 a5 f5
     obtain⟨X,hX,hb,hU⟩:=store6e B2.out rfl (.int .i64 0) (.int .i64 0) (.int .i64 0) (.int .i64 0) (.int .i64 0) (.slice none 0 0)
     rw[←hX]
     clear hX
     have hEX:Ext w X:=Upd.fresh hU HE2.out (fun k hk=>by have:k=w.heap.size:=hk;omega)
     have hXX:VoOk X x:=HKeep.out X hU
     rw[Hx.out]at hXX
     have hG:=HG.out
     have q0:X.cell? ⟨w.heap.size,0,none⟩=some (.int .i64 0):=hb.at 0 rfl
     have q1:X.cell? ⟨w.heap.size,1,none⟩=some (.int .i64 0):=hb.at 1 rfl
     have q2:X.cell? ⟨w.heap.size,2,none⟩=some (.int .i64 0):=hb.at 2 rfl
     have q3:X.cell? ⟨w.heap.size,3,none⟩=some (.int .i64 0):=hb.at 3 rfl
     have q4:X.cell? ⟨w.heap.size,4,none⟩=some (.int .i64 0):=hb.at 4 rfl
     have q5:X.cell? ⟨w.heap.size,5,none⟩=some (.slice none 0 0):=hb.at 5 rfl
     refine bodyPost_ret (v:=.tuple #[.agg (vcl 0 0 0 0 0 (.slice none 0 0)),.int .i64 3]) ?_ rfl ⟨P,c3,hXX,hEX,fun h=>(by rw[←Hx.out,hG]at h;cases h),fun _=>rfl⟩
     simp[results,Tryz.results19,go_sem,vcl,q0,q1,q2,q3,q4,q5]
   | true=>
     obtain⟨rfl,hl2,hO2⟩:=Hy.out hok
     have HO2:=hide hO2.sl
     have Hl2:=hide hl2
     have Hok:=hide hok
     clear hok hl2 hO2
     obtain⟨bts,hbts⟩:∃bts,bts=x.bytes:=⟨_,rfl⟩
     rw[←hbts]at HO2 Hl2
     have Hbts:=hide hbts
     clear hbts
     by_cases hbb:bts=b
     · have HG:Hid (goodV b x=true):=hide (by rw[Hg.out,Hok.out,←Hbts.out,decide_eq_true hbb];rfl)
       have hd:decide (bts=b)=true:=decide_eq_true hbb
       clear hbb
       go_wp2_with (go_at_call 44;go_must (refine(bequal_any A2 l2 d2 A n c bts b _ HO2.out Hl2.out HS2.out Hn.out).mono ?_);rintro e w3 ⟨rfl,rfl⟩;rw[hd])
       clear q0 a0 f0 q1 a1 f1 q2 a2 f2 q3 a3 f3 q4 a4 f4 q5 a5 f5
       obtain⟨X,hX,hb,hU⟩:=store6e B2.out rfl (.int .i64 (n2:Int)) (.int .i64 (n3:Int)) (.int .i64 (n4:Int)) (.int .i64 (n5:Int)) (.int .i64 ((n6:Int) - 1)) (.slice P x7.length c3)
       rw[←hX]
       clear hX
       have hEX:Ext w X:=Upd.fresh hU HE2.out (fun k hk=>by have:k=w.heap.size:=hk;omega)
       have hXX:VoOk X x:=HKeep.out X hU
       rw[Hx.out]at hXX
       have hG:=HG.out
       have q0:X.cell? ⟨w.heap.size,0,none⟩=some (.int .i64 (n2:Int)):=hb.at 0 rfl
       have q1:X.cell? ⟨w.heap.size,1,none⟩=some (.int .i64 (n3:Int)):=hb.at 1 rfl
       have q2:X.cell? ⟨w.heap.size,2,none⟩=some (.int .i64 (n4:Int)):=hb.at 2 rfl
       have q3:X.cell? ⟨w.heap.size,3,none⟩=some (.int .i64 (n5:Int)):=hb.at 3 rfl
       have q4:X.cell? ⟨w.heap.size,4,none⟩=some (.int .i64 ((n6:Int) - 1)):=hb.at 4 rfl
       have q5:X.cell? ⟨w.heap.size,5,none⟩=some (.slice P x7.length c3):=hb.at 5 rfl
       refine bodyPost_ret (v:=.tuple #[.agg ((⟨n2,n3,n4,n5,n6,x7⟩:Vv).vo P c3).cs,.int .i64 0]) ?_ rfl ⟨P,c3,hXX,hEX,fun _=>rfl,fun h=>(by rw[←Hx.out,hG]at h;cases h)⟩
       simp[results,Tryz.results19,go_sem,Vo.cs,Vv.vo,q0,q1,q2,q3,q4,q5]
     · have HG:Hid (goodV b x=false):=hide (by rw[Hg.out,Hok.out,←Hbts.out,decide_eq_false hbb];rfl)
       have hd:decide (bts=b)=false:=decide_eq_false hbb
       clear hbb
       go_wp2_with (go_at_call 44;go_must (refine(bequal_any A2 l2 d2 A n c bts b _ HO2.out Hl2.out HS2.out Hn.out).mono ?_);rintro e w3 ⟨rfl,rfl⟩;rw[hd])
       clear q0 a0 f0 q1 a1 f1 q2 a2 f2 q3 a3 f3 q4 a4 f4 q5 a5 f5
       obtain⟨X,hX,hb,hU⟩:=store6e B2.out rfl (.int .i64 0) (.int .i64 0) (.int .i64 0) (.int .i64 0) (.int .i64 0) (.slice none 0 0)
       rw[←hX]
       clear hX
       have hEX:Ext w X:=Upd.fresh hU HE2.out (fun k hk=>by have:k=w.heap.size:=hk;omega)
       have hXX:VoOk X x:=HKeep.out X hU
       rw[Hx.out]at hXX
       have hG:=HG.out
       have q0:X.cell? ⟨w.heap.size,0,none⟩=some (.int .i64 0):=hb.at 0 rfl
       have q1:X.cell? ⟨w.heap.size,1,none⟩=some (.int .i64 0):=hb.at 1 rfl
       have q2:X.cell? ⟨w.heap.size,2,none⟩=some (.int .i64 0):=hb.at 2 rfl
       have q3:X.cell? ⟨w.heap.size,3,none⟩=some (.int .i64 0):=hb.at 3 rfl
       have q4:X.cell? ⟨w.heap.size,4,none⟩=some (.int .i64 0):=hb.at 4 rfl
       have q5:X.cell? ⟨w.heap.size,5,none⟩=some (.slice none 0 0):=hb.at 5 rfl
       refine bodyPost_ret (v:=.tuple #[.agg (vcl 0 0 0 0 0 (.slice none 0 0)),.int .i64 3]) ?_ rfl ⟨P,c3,hXX,hEX,fun h=>(by rw[←Hx.out,hG]at h;cases h),fun _=>rfl⟩
       simp[results,Tryz.results19,go_sem,vcl,q0,q1,q2,q3,q4,q5]
end Go.Proofs.YtbhhjfhepkbfgaaGreat
