/- The reader of package wire, walked: entry. -/
import Derived.Test.YtbhhjfhepkbfgaaGreatWsWirI
namespace Go.Proofs.YtbhhjfhepkbfgaaGreat
set_option linter.unusedSimpArgs false
set_option linter.unusedVariables false
open Go.RowKit
open Nt Sha
attribute [local go_sem] steady steadyUpon Cls same_cell
attribute [local irreducible] wpHead wpTree
structure EB (w0 w:World) (t:TypeId) (O g g2 g3:Nat) (zs cs:Array Value) (s:RdS):Prop where
 rd:Rd w O g s
 res:Blk w g2 t zs
 x:Blk w g3 t cs
 up:Upd (only g) w0 w
 old:g<w0.heap.size
 l2:w0.heap.size≤g2
 l3:g2<g3
section eb
variable {w0 w w' : World} {t : TypeId} {O g g2 g3 : Nat} {zs cs : Array Value} {s s' : RdS}
theorem EB.size (h:EB w0 w t O g g2 g3 zs cs s):w0.heap.size≤w.heap.size:=h.up.size
theorem EB.step (h:EB w0 w t O g g2 g3 zs cs s) (hR:Rd w' O g s') (hU:Upd (only g) w w'):EB w0 w' t O g g2 g3 zs cs s':=
 ⟨hR,h.res.upd hU (fun e=>by have h1:g2=g:=e;have:=h.old;have:=h.l2;omega),h.x.upd hU (fun e=>by have h1:g3=g:=e;have:=h.old;have:=h.l2;have:=h.l3;omega),h.up.trans hU,h.old,h.l2,h.l3⟩
theorem EB.put (h:EB w0 w t O g g2 g3 zs cs s) (i:Nat) (v:Value):EB w0 (w.setCell ⟨g3,i,none⟩ v) t O g g2 g3 zs (cs.set! i v) s∧Upd (only g3) w (w.setCell ⟨g3,i,none⟩ v):=by
 have hU:Upd (only g3) w (w.setCell ⟨g3,i,none⟩ v):=(Upd.refl _ _).setCell (T:=only g3) (p:=⟨g3,i,none⟩) (.inl rfl) _
 have h1:=h.old
 have h2:=h.l2
 have h3:=h.l3
 have h4:=h.rd.lt.1
 refine⟨⟨h.rd.keep hU (fun e=>by have:g=g3:=e;omega) (fun k hk e=>by have:k=g3:=e;omega),h.res.upd hU (fun e=>by have:g2=g3:=e;omega),h.x.set i v,h.up.trans' hU (fun k hk e=>by have:k=g3:=e;omega),h1,h2,h3⟩,hU⟩
end eb
def ecl (k a e m p h:Nat) (x y z:Value):Array Value:=#[.int .i64 (k:Int),.int .i64 (a:Int),.int .i64 (e:Int),.int .i64 (m:Int),.int .i64 (p:Int),.int .i64 (h:Int),x,y,z]
section
attribute [local irreducible] numR textR natsR textsR
theorem entryR_eq {s s1 s2 s3 s4 s5 s6 s7 s8 s9 s10:RdS} (h1:s1=(numR 1 s).2) (h2:s2=(numR 1 s1).2) (h3:s3=(numR 1 s2).2) (h4:s4=(numR 4 s3).2) (h5:s5=(numR 1 s4).2) (h6:s6=(numR 1 s5).2) (h7:s7=(numR 1 s6).2) (h8:s8=(natsM s7).2) (h9:s9=(textsM s8).2) (h10:s10=(textR s9).2):
 entryR s=(⟨(numR 1 s1).1,(numR 1 s2).1,(numR 4 s3).1,(numR 1 s4).1,(numR 1 s5).1,(numR 1 s6).1,(natsM s7).1,(textsM s8).1,(textR s9).1⟩,s10):=by
 subst h1 h2 h3 h4 h5 h6 h7 h8 h9 h10
 rfl
end
def RetEv (w:World) (O g:Nat) (v:Ev) (s:RdS) (e:Ending) (w':World):Prop:=
 ∃L1 l1 c1 L2 l2 c2 P lp c3 ts ps,e=.returned (.agg (ecl v.K v.au v.ep v.mode v.peer v.phase (.slice L1 l1 c1) (.slice L2 l2 c2) (.slice P lp c3)))∧v.ns.length=l1∧LN w' w.heap.size L1 c1 ts v.ns∧ps.length=l2∧ps.map (·.bs)=v.ts∧LT w' w.heap.size L2 c2 ps∧v.pr.length=lp∧Own w' w.heap.size 5 P c3 (v.pr.map by8)∧Rd w' O g s∧Upd (only g) w w'
theorem name_cc {P:Program} {f:Nat} {vs:Array Value} {Q:Ending→World→Prop} {W:World} (h:∀W',W'=W→Calls P f vs W' Q):Calls P f vs W Q:=h W rfl
set_option maxRecDepth 100000 in
set_option maxHeartbeats 4000000 in
theorem rdentry_any (O g:Nat) (s:RdS) (w:World) (h:Rd w O g s):
 Calls Tryz.prog 43 #[.pointer (some ⟨g,0,none⟩)] w (RetEv w O g (entryR s).1 (entryR s).2):=by
 obtain⟨s1,h1⟩:∃s1,s1=(numR 1 s).2:=⟨_,rfl⟩
 obtain⟨s2,h2⟩:∃s2,s2=(numR 1 s1).2:=⟨_,rfl⟩
 obtain⟨s3,h3⟩:∃s3,s3=(numR 1 s2).2:=⟨_,rfl⟩
 obtain⟨s4,h4⟩:∃s4,s4=(numR 4 s3).2:=⟨_,rfl⟩
 obtain⟨s5,h5⟩:∃s5,s5=(numR 1 s4).2:=⟨_,rfl⟩
 obtain⟨s6,h6⟩:∃s6,s6=(numR 1 s5).2:=⟨_,rfl⟩
 obtain⟨s7,h7⟩:∃s7,s7=(numR 1 s6).2:=⟨_,rfl⟩
 obtain⟨s8,h8⟩:∃s8,s8=(natsM s7).2:=⟨_,rfl⟩
 obtain⟨s9,h9⟩:∃s9,s9=(textsM s8).2:=⟨_,rfl⟩
 obtain⟨s10,h10⟩:∃s10,s10=(textR s9).2:=⟨_,rfl⟩
 rw[entryR_eq h1 h2 h3 h4 h5 h6 h7 h8 h9 h10]
 obtain⟨n2,m2⟩:∃n,n=(numR 1 s1).1:=⟨_,rfl⟩
 obtain⟨n3,m3⟩:∃n,n=(numR 1 s2).1:=⟨_,rfl⟩
 obtain⟨n4,m4⟩:∃n,n=(numR 4 s3).1:=⟨_,rfl⟩
 obtain⟨n5,m5⟩:∃n,n=(numR 1 s4).1:=⟨_,rfl⟩
 obtain⟨n6,m6⟩:∃n,n=(numR 1 s5).1:=⟨_,rfl⟩
 obtain⟨n7,m7⟩:∃n,n=(numR 1 s6).1:=⟨_,rfl⟩
 obtain⟨x8,m8⟩:∃x,x=(natsM s7).1:=⟨_,rfl⟩
 obtain⟨x9,m9⟩:∃x,x=(textsM s8).1:=⟨_,rfl⟩
 obtain⟨x10,m10⟩:∃x,x=(textR s9).1:=⟨_,rfl⟩
 rw[←m2,←m3,←m4,←m5,←m6,←m7,←m8,←m9,←m10]
 have Hs1:=hide h1
 have Hs2:=hide h2
 have Hs3:=hide h3
 have Hs4:=hide h4
 have Hs5:=hide h5
 have Hs6:=hide h6
 have Hs7:=hide h7
 have Hs8:=hide h8
 have Hs9:=hide h9
 have Hs10:=hide h10
 have Hn2:=hide m2
 have Hn3:=hide m3
 have Hn4:=hide m4
 have Hn5:=hide m5
 have Hn6:=hide m6
 have Hn7:=hide m7
 have Hx8:=hide m8
 have Hx9:=hide m9
 have Hx10:=hide m10
 have H:=hide h
 have hgw:=h.lt.2
 clear h h1 h2 h3 h4 h5 h6 h7 h8 h9 h10 m2 m3 m4 m5 m6 m7 m8 m9 m10
 go_enter Tryz.func43,Tryz.ntmps43
 go_wp2_with fail
 refine(rdnum_any O g 1 s _ (H.out.ext ((Upd.refl _ _).alloc _)) (by omega)).mono ?_
 rintro e w1 ⟨rfl,hR1,hU1⟩
 rw[←Hs1.out]at hR1
 have b2:Blk w1 w.heap.size 48 (ecl 0 0 0 0 0 0 (.slice none 0 0) (.slice none 0 0) (.slice none 0 0)):=(Blk.new w 48 _).upd hU1 (fun e=>by have:w.heap.size=g:=e;omega)
 have hU1':Upd (only g) w w1:=((Upd.refl (only g) w).alloc _).trans hU1
 have hsz:w.heap.size+1≤w1.heap.size:=by have:=hU1.size;simp at this;omega
 clear hU1
 go_wp2_with fail
 refine name_cc (fun V1 hV1=>?_)
 have hE1:EB w V1 48 O g w.heap.size w1.heap.size (ecl 0 0 0 0 0 0 (.slice none 0 0) (.slice none 0 0) (.slice none 0 0)) (ecl 0 0 0 0 0 0 (.slice none 0 0) (.slice none 0 0) (.slice none 0 0)) s1:=by
  rw[hV1]
  exact⟨hR1.ext ((Upd.refl _ _).alloc _),b2.ext ((Upd.refl _ _).alloc _),Blk.new _ _ _,hU1'.alloc _,hgw,Nat.le_refl _,hsz⟩
 obtain⟨g3,hg3⟩:∃g3,g3=w1.heap.size:=⟨_,rfl⟩
 rw[←hg3]at hE1
 rw[←hg3]
 have hg3b:g3<V1.heap.size:=hE1.x.lt
 clear hV1 b2 hR1 hU1' hsz hg3
 refine(rdnum_any O g 1 s1 _ hE1.rd (by omega)).mono ?_
 rintro e w2 ⟨rfl,hR2,hU2⟩
 rw[←Hs2.out]at hR2
 rw[←Hn2.out]
 have hF2:=hE1.step hR2 hU2
 clear hE1 hR2 hU2
 have q:=hF2.x.at 0 rfl
 have f:=hF2.x.frozen 0
 go_wp2_with fail
 refine name_cc (fun V2 hV2=>?_)
 have hE2:=(hF2.put 0 (.int .i64 (n2:Int))).1
 rw[←hV2]at hE2
 clear hV2 hF2 q f
 refine(rdnum_any O g 1 s2 _ hE2.rd (by omega)).mono ?_
 rintro e w3 ⟨rfl,hR3,hU3⟩
 rw[←Hs3.out]at hR3
 rw[←Hn3.out]
 have hF3:=hE2.step hR3 hU3
 clear hE2 hR3 hU3
 have q:=hF3.x.at 1 rfl
 have f:=hF3.x.frozen 1
 go_wp2_with fail
 refine name_cc (fun V3 hV3=>?_)
 have hE3:=(hF3.put 1 (.int .i64 (n3:Int))).1
 rw[←hV3]at hE3
 clear hV3 hF3 q f
 refine(rdnum_any O g 4 s3 _ hE3.rd (by omega)).mono ?_
 rintro e w4 ⟨rfl,hR4,hU4⟩
 rw[←Hs4.out]at hR4
 rw[←Hn4.out]
 have hF4:=hE3.step hR4 hU4
 clear hE3 hR4 hU4
 have q:=hF4.x.at 2 rfl
 have f:=hF4.x.frozen 2
 go_wp2_with fail
 refine name_cc (fun V4 hV4=>?_)
 have hE4:=(hF4.put 2 (.int .i64 (n4:Int))).1
 rw[←hV4]at hE4
 clear hV4 hF4 q f
 refine(rdnum_any O g 1 s4 _ hE4.rd (by omega)).mono ?_
 rintro e w5 ⟨rfl,hR5,hU5⟩
 rw[←Hs5.out]at hR5
 rw[←Hn5.out]
 have hF5:=hE4.step hR5 hU5
 clear hE4 hR5 hU5
 have q:=hF5.x.at 3 rfl
 have f:=hF5.x.frozen 3
 go_wp2_with fail
 refine name_cc (fun V5 hV5=>?_)
 have hE5:=(hF5.put 3 (.int .i64 (n5:Int))).1
 rw[←hV5]at hE5
 clear hV5 hF5 q f
 refine(rdnum_any O g 1 s5 _ hE5.rd (by omega)).mono ?_
 rintro e w6 ⟨rfl,hR6,hU6⟩
 rw[←Hs6.out]at hR6
 rw[←Hn6.out]
 have hF6:=hE5.step hR6 hU6
 clear hE5 hR6 hU6
 have q:=hF6.x.at 4 rfl
 have f:=hF6.x.frozen 4
 go_wp2_with fail
 refine name_cc (fun V6 hV6=>?_)
 have hE6:=(hF6.put 4 (.int .i64 (n6:Int))).1
 rw[←hV6]at hE6
 clear hV6 hF6 q f
 refine(rdnum_any O g 1 s6 _ hE6.rd (by omega)).mono ?_
 rintro e w7 ⟨rfl,hR7,hU7⟩
 rw[←Hs7.out]at hR7
 rw[←Hn7.out]
 have hF7:=hE6.step hR7 hU7
 clear hE6 hR7 hU7
 have q:=hF7.x.at 5 rfl
 have f:=hF7.x.frozen 5
 go_wp2_with fail
 refine name_cc (fun V7 hV7=>?_)
 have hE7:=(hF7.put 5 (.int .i64 (n7:Int))).1
 rw[←hV7]at hE7
 clear hV7 hF7 q f
 have hE7':EB w V7 48 O g w.heap.size g3 (ecl 0 0 0 0 0 0 (.slice none 0 0) (.slice none 0 0) (.slice none 0 0)) (ecl n2 n3 n4 n5 n6 n7 (.slice none 0 0) (.slice none 0 0) (.slice none 0 0)) s7:=hE7
 clear hE7
 have hE7:=hE7'
 clear hE7'
 have hBg:w.heap.size≤V7.heap.size:=hE7.size
 have hg37:g3<V7.heap.size:=hE7.x.lt
 refine(rdnats_any O g s7 _ hE7.rd).mono ?_
 rintro e w8 ⟨L1,c1,l1,ts,rfl,hl1,hL8,hR8,hU8⟩
 rw[←Hs8.out]at hR8
 rw[←Hx8.out]at hL8 hl1
 have hF8:=hE7.step hR8 hU8
 have hz8:=hU8.size
 clear hE7 hR8 hU8
 have q:=hF8.x.at 6 (v:=.slice none 0 0) rfl
 have f:=hF8.x.frozen 6
 go_wp2_with fail
 refine name_cc (fun V8 hV8=>?_)
 obtain⟨hE8,hp8⟩:=hF8.put 6 (.slice L1 l1 c1)
 rw[←hV8]at hE8 hp8
 replace hE8:EB w V8 48 O g w.heap.size g3 (ecl 0 0 0 0 0 0 (.slice none 0 0) (.slice none 0 0) (.slice none 0 0)) (ecl n2 n3 n4 n5 n6 n7 (.slice L1 l1 c1) (.slice none 0 0) (.slice none 0 0)) s8:=hE8
 have HL8:=hide (hL8.keep hp8 (fun k hk e=>by have:k=g3:=e;omega))
 have hg38:g3<V8.heap.size:=hE8.x.lt
 have hB8:V7.heap.size≤V8.heap.size:=Nat.le_trans hz8 hp8.size
 clear hV8 hF8 q f hL8 hp8 hz8
 refine(rdtexts_any O g s8 _ hE8.rd).mono ?_
 rintro e w9 ⟨L2,c2,l2,ps,rfl,hl2,hps,hL9,hR9,hU9⟩
 rw[←Hs9.out]at hR9
 rw[←Hx9.out]at hps
 have hF9:=hE8.step hR9 hU9
 have hz9:=hU9.size
 have HL8':=hide (HL8.out.keep hU9 (fun k hk e=>by have:k=g:=e;omega))
 clear hE8 hR9 hU9 HL8
 have q:=hF9.x.at 7 (v:=.slice none 0 0) rfl
 have f:=hF9.x.frozen 7
 go_wp2_with fail
 refine name_cc (fun V9 hV9=>?_)
 obtain⟨hE9,hp9⟩:=hF9.put 7 (.slice L2 l2 c2)
 rw[←hV9]at hE9 hp9
 replace hE9:EB w V9 48 O g w.heap.size g3 (ecl 0 0 0 0 0 0 (.slice none 0 0) (.slice none 0 0) (.slice none 0 0)) (ecl n2 n3 n4 n5 n6 n7 (.slice L1 l1 c1) (.slice L2 l2 c2) (.slice none 0 0)) s9:=hE9
 have HL9:=hide (hL9.keep hp9 (fun k hk e=>by have:k=g3:=e;omega))
 have HL8:=hide (HL8'.out.keep hp9 (fun k hk e=>by have:k=g3:=e;omega))
 have hg39:g3<V9.heap.size:=hE9.x.lt
 have hB9:V8.heap.size≤V9.heap.size:=Nat.le_trans hz9 hp9.size
 clear hz9 hV9 hF9 q f hL9 hp9 HL8'
 refine(rdtext_any O g s9 _ hE9.rd).mono ?_
 rintro e w10 ⟨P,lp,c3,rfl,hlp,hO10,hR10,hU10⟩
 rw[←Hs10.out]at hR10
 rw[←Hx10.out]at hlp hO10
 have hF10:=hE9.step hR10 hU10
 have HL8':=hide (HL8.out.keep hU10 (fun k hk e=>by have:k=g:=e;omega))
 have HL9':=hide (HL9.out.keep hU10 (fun k hk e=>by have:k=g:=e;omega))
 clear hE9 hR10 hU10 HL8 HL9
 have q:=hF10.x.at 8 (v:=.slice none 0 0) rfl
 have f:=hF10.x.frozen 8
 go_upto_region 12 with fail
 refine name_w (fun V10 hV10=>?_)
 obtain⟨hE10,hp10⟩:=hF10.put 8 (.slice P lp c3)
 rw[←hV10]at hE10 hp10
 replace hE10:EB w V10 48 O g w.heap.size g3 (ecl 0 0 0 0 0 0 (.slice none 0 0) (.slice none 0 0) (.slice none 0 0)) (ecl n2 n3 n4 n5 n6 n7 (.slice L1 l1 c1) (.slice L2 l2 c2) (.slice P lp c3)) s10:=hE10
 have HL8:=hide (HL8'.out.keep hp10 (fun k hk e=>by have:k=g3:=e;omega))
 have HL9:=hide (HL9'.out.keep hp10 (fun k hk e=>by have:k=g3:=e;omega))
 have HO10:=hide (hO10.upd hp10 (fun k hk e=>by have:k=g3:=e;have:=(hO10.in_ hk).1;omega))
 clear hV10 hF10 q f hp10 HL8' HL9' hO10
 have q0:V10.cell? ⟨g3,0,none⟩=some (.int .i64 (n2:Int)):=hE10.x.at 0 rfl
 have a0:V10.cell? ⟨w.heap.size,0,none⟩=some (.int .i64 0):=hE10.res.at 0 rfl
 have f0:=hE10.res.frozen 0
 have q1:V10.cell? ⟨g3,1,none⟩=some (.int .i64 (n3:Int)):=hE10.x.at 1 rfl
 have a1:V10.cell? ⟨w.heap.size,1,none⟩=some (.int .i64 0):=hE10.res.at 1 rfl
 have f1:=hE10.res.frozen 1
 have q2:V10.cell? ⟨g3,2,none⟩=some (.int .i64 (n4:Int)):=hE10.x.at 2 rfl
 have a2:V10.cell? ⟨w.heap.size,2,none⟩=some (.int .i64 0):=hE10.res.at 2 rfl
 have f2:=hE10.res.frozen 2
 have q3:V10.cell? ⟨g3,3,none⟩=some (.int .i64 (n5:Int)):=hE10.x.at 3 rfl
 have a3:V10.cell? ⟨w.heap.size,3,none⟩=some (.int .i64 0):=hE10.res.at 3 rfl
 have f3:=hE10.res.frozen 3
 have q4:V10.cell? ⟨g3,4,none⟩=some (.int .i64 (n6:Int)):=hE10.x.at 4 rfl
 have a4:V10.cell? ⟨w.heap.size,4,none⟩=some (.int .i64 0):=hE10.res.at 4 rfl
 have f4:=hE10.res.frozen 4
 have q5:V10.cell? ⟨g3,5,none⟩=some (.int .i64 (n7:Int)):=hE10.x.at 5 rfl
 have a5:V10.cell? ⟨w.heap.size,5,none⟩=some (.int .i64 0):=hE10.res.at 5 rfl
 have f5:=hE10.res.frozen 5
 have q6:V10.cell? ⟨g3,6,none⟩=some (.slice L1 l1 c1):=hE10.x.at 6 rfl
 have a6:V10.cell? ⟨w.heap.size,6,none⟩=some (.slice none 0 0):=hE10.res.at 6 rfl
 have f6:=hE10.res.frozen 6
 have q7:V10.cell? ⟨g3,7,none⟩=some (.slice L2 l2 c2):=hE10.x.at 7 rfl
 have a7:V10.cell? ⟨w.heap.size,7,none⟩=some (.slice none 0 0):=hE10.res.at 7 rfl
 have f7:=hE10.res.frozen 7
 have q8:V10.cell? ⟨g3,8,none⟩=some (.slice P lp c3):=hE10.x.at 8 rfl
 have a8:V10.cell? ⟨w.heap.size,8,none⟩=some (.slice none 0 0):=hE10.res.at 8 rfl
 have f8:=hE10.res.frozen 8
 have HE10:=hide hE10
 clear hE10
 go_wp2_with fail
 clear q0 a0 f0 q1 a1 f1 q2 a2 f2 q3 a3 f3 q4 a4 f4 q5 a5 f5 q6 a6 f6 q7 a7 f7 q8 a8 f8
 obtain⟨X,hX,hb,hU⟩:=store9e HE10.out.res rfl (.int .i64 (n2:Int)) (.int .i64 (n3:Int)) (.int .i64 (n4:Int)) (.int .i64 (n5:Int)) (.int .i64 (n6:Int)) (.int .i64 (n7:Int)) (.slice L1 l1 c1) (.slice L2 l2 c2) (.slice P lp c3)
 rw[←hX]
 clear hX
 have hw:∀k,w.heap.size<k→¬only w.heap.size k:=fun k hk e=>by have:k=w.heap.size:=e;omega
 have hlo:=HE10.out.l3
 have hRX:Rd X O g s10:=HE10.out.rd.keep hU (fun e=>by have:g=w.heap.size:=e;omega) (fun k hk e=>by have:k=w.heap.size:=e;have:=HE10.out.rd.lt.1;omega)
 have hUX:Upd (only g) w X:=HE10.out.up.trans' hU (fun k hk e=>by have:k=w.heap.size:=e;omega)
 have q0:X.cell? ⟨w.heap.size,0,none⟩=some (.int .i64 (n2:Int)):=hb.at 0 rfl
 have q1:X.cell? ⟨w.heap.size,1,none⟩=some (.int .i64 (n3:Int)):=hb.at 1 rfl
 have q2:X.cell? ⟨w.heap.size,2,none⟩=some (.int .i64 (n4:Int)):=hb.at 2 rfl
 have q3:X.cell? ⟨w.heap.size,3,none⟩=some (.int .i64 (n5:Int)):=hb.at 3 rfl
 have q4:X.cell? ⟨w.heap.size,4,none⟩=some (.int .i64 (n6:Int)):=hb.at 4 rfl
 have q5:X.cell? ⟨w.heap.size,5,none⟩=some (.int .i64 (n7:Int)):=hb.at 5 rfl
 have q6:X.cell? ⟨w.heap.size,6,none⟩=some (.slice L1 l1 c1):=hb.at 6 rfl
 have q7:X.cell? ⟨w.heap.size,7,none⟩=some (.slice L2 l2 c2):=hb.at 7 rfl
 have q8:X.cell? ⟨w.heap.size,8,none⟩=some (.slice P lp c3):=hb.at 8 rfl
 refine bodyPost_ret (v:=.agg (ecl n2 n3 n4 n5 n6 n7 (.slice L1 l1 c1) (.slice L2 l2 c2) (.slice P lp c3))) ?_ rfl ⟨L1,l1,c1,L2,l2,c2,P,lp,c3,ts,ps,rfl,hl1,(HL8.out.keep hU (fun k hk=>hw k (by omega))).mono hBg,hl2,hps,(HL9.out.keep hU (fun k hk=>hw k (by omega))).mono (by omega),hlp,(HO10.out.upd hU (fun k hk=>hw k (by have:=(HO10.out.in_ hk).1;omega))).mono (by omega),hRX,hUX⟩
 simp[results,Tryz.results43,go_sem,ecl,q0,q1,q2,q3,q4,q5,q6,q7,q8]
end Go.Proofs.YtbhhjfhepkbfgaaGreat
