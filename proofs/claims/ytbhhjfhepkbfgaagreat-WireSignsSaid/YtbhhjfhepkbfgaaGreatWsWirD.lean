/- Entries as bytes, walked: EncodeEntry. -/
import Derived.Test.YtbhhjfhepkbfgaaGreatWsWirC
namespace Go.Proofs.YtbhhjfhepkbfgaaGreat
set_option linter.unusedSimpArgs false
set_option linter.unusedVariables false
open Go.RowKit
open Nt Sha
attribute [local go_sem] steady steadyUpon Cls same_cell
attribute [local irreducible] wpHead wpTree
structure En where
 K:Int
 au:Int
 ep:Int
 mode:Int
 peer:Int
 phase:Int
 L1:Option Addr
 ln:Nat
 c1:Nat
 ns:List Nat
 L2:Option Addr
 lt:Nat
 c2:Nat
 ps:List Pt
 P:Option Addr
 lp:Nat
 c3:Nat
 pr:List B8
def En.cs (x:En):Array Value:=#[.int .i64 x.K,.int .i64 x.au,.int .i64 x.ep,.int .i64 x.mode,.int .i64 x.peer,.int .i64 x.phase,.slice x.L1 x.ln x.c1,.slice x.L2 x.lt x.c2,.slice x.P x.lp x.c3]
structure EnOk (w:World) (x:En):Prop where
 nums:NatL w x.L1 x.ns
 nlen:x.ns.length=x.ln
 nmax:x.ln≤9223372036854775807
 texts:Pts w x.L2 x.ps
 tlen:x.ps.length=x.lt
 tmax:x.lt≤9223372036854775807
 proof:Sl by8 w x.P x.pr
 plen:x.pr.length=x.lp
 pmax:x.lp≤9223372036854775807
theorem EnOk.ext {w w':World} {x:En} (h:EnOk w x) (hu:Ext w w'):EnOk w' x:=⟨h.nums.ext hu,h.nlen,h.nmax,h.texts.ext hu,h.tlen,h.tmax,h.proof.ext hu,h.plen,h.pmax⟩
def En.bad (x:En):Bool:=off x.K 1 7 || (off x.au 1 64 || (off x.ep 0 1048576 || (off x.mode 0 255 || (off x.peer 0 255 || (off x.phase 0 255 || (natsBad x.ns || (textsBad x.ps || decide (1024<x.lp))))))))
def En.bytes (x:En):List B8:=[69#8]++be x.K 1++be x.au 1++be x.ep 4++be x.mode 1++be x.peer 1++be x.phase 1++natsB x.ns++textsB x.ps++txt x.pr
def En.ok (x:En):Bool:=!x.bad && (usesB x.K x.mode x.peer x.phase x.ln x.lt x.lp && !decide (4096<x.bytes.length))
theorem Own.lit_at' {α:Type} (f:α→Value) {w:World} {B g:Nat} (e:TypeId) (xs:List α) (hB:B≤w.heap.size) (hm:xs.length≤maxLen) (hg:w.heap.size=g):Own (w.alloc (.cells (xs.map f).toArray e)) B e (some ⟨g,0,none⟩) xs.length (xs.map f):=by
 subst hg
 exact Own.lit f w e xs hB hm
theorem Two.mk_at {w:World} {g:Nat} {t:TypeId} {a b:Value} (hg:w.heap.size=g):Two (w.alloc (.cells #[a,b] t)) g t a b:=by subst hg;exact Two.new _ _ _ _
def RetEnc (w:World) (ok:Bool) (bs:List B8) (e:Ending) (w':World):Prop:=
 ∃A l c m,e=.returned (.tuple #[.slice A l c,.int .i64 m])∧Ext w w'∧(ok=true→m=0∧bs.length=l∧Own w' w.heap.size 5 A c (bs.map by8))∧(ok=false→m=3∧A=none∧l=0)
set_option maxRecDepth 100000 in
set_option maxHeartbeats 4000000 in
theorem encE_any (x:En) (Kf:Nat) (w:World) (hx:EnOk w x) (hF:FitL Kf x.ns) (hK:Kf≤1000000):
 Calls Tryz.prog 14 #[.agg x.cs] w (RetEnc w x.ok x.bytes):=by
 obtain⟨ok,hok⟩:∃ok,ok=x.ok:=⟨_,rfl⟩
 rw[←hok]
 have Hok:=hide hok
 obtain⟨bts,hbts⟩:∃bts,bts=x.bytes:=⟨_,rfl⟩
 rw[←hbts]
 have Hbts:=hide hbts
 have HX:=hide hx
 clear hx hok hbts
 unfold En.cs
 go_enter Tryz.func14,Tryz.ntmps14
 go_upto_region 2 with fail
 refine name_w (fun W hW=>?_)
 have hb0:Blk W w.heap.size 48 x.cs:=by rw[hW];exact((Blk.new _ _ _).ext ((Upd.refl _ _).alloc _)).ext ((Upd.refl _ _).alloc _)
 have hE0:Ext w W:=by rw[hW];exact(((Upd.refl _ _).alloc _).alloc _).alloc _
 obtain⟨g,hg0⟩:∃g,g=w.heap.size+1+1:=⟨_,rfl⟩
 have hW0:WrA W w.heap.size g (some ⟨w.heap.size+1,0,none⟩) 1 1 [69#8] false:=by
  rw[hW,hg0]
  exact⟨Two.mk_at (by simp),(Own.lit_at' by8 5 [69#8] (by simp) (by unfold maxLen;decide) (by simp)).ext ((Upd.refl _ _).alloc _),rfl⟩
 have hg:w.heap.size≤g:=by omega
 have hge:¬w.heap.size=g:=by omega
 clear hW
 rw[←hg0]
 clear hg0
 have q:=hb0.at 0 rfl
 obtain⟨A0,hA0⟩:∃A0:Option Addr,A0=some ⟨w.heap.size+1,0,none⟩:=⟨_,rfl⟩
 rw[←hA0]at hW0
 obtain⟨l0,hl0⟩:∃l0,l0=1:=⟨_,rfl⟩
 obtain⟨k0,hk0⟩:∃k0,k0=1:=⟨_,rfl⟩
 have hW0:WrA W w.heap.size g A0 l0 k0 [69#8] false:=by rw[hl0,hk0];exact hW0
 clear hl0 hk0
 go_wp2_with fail
 refine(wnum_any w.heap.size g A0 l0 k0 x.K 1 7 1 ([69#8]) false _ hW0 (hE0).size (by omega) (by simp only[List.length_append,be_length,List.length_cons,List.length_nil];omega)).mono ?_
 rintro e w1 ⟨⟨v1,rfl⟩,A1,l1,k1,hW1,hU1,hn1⟩
 obtain⟨d1,hd1⟩:∃d,d=(false || decide (x.K<1) || decide (7<x.K)):=⟨_,rfl⟩
 rw[←hd1]at hW1
 have Hd1:=hide hd1
 have hE1:=wu_ext hW0 hg hE0 hU1
 have hb1:=hb0.upd hU1 (fun h=>h.elim hge (own_blk hW0.own hb0 (by decide)))
 clear hW0 hU1 hn1 hE0 hb0 hd1 q
 have q:=hb1.at 1 rfl
 go_wp2_with fail
 refine(wnum_any w.heap.size g A1 l1 k1 x.au 1 64 1 ([69#8]++be x.K 1) d1 _ hW1 (hE1).size (by omega) (by simp only[List.length_append,be_length,List.length_cons,List.length_nil];omega)).mono ?_
 rintro e w2 ⟨⟨v2,rfl⟩,A2,l2,k2,hW2,hU2,hn2⟩
 obtain⟨d2,hd2⟩:∃d,d=(d1 || decide (x.au<1) || decide (64<x.au)):=⟨_,rfl⟩
 rw[←hd2]at hW2
 have Hd2:=hide hd2
 have hE2:=wu_ext hW1 hg hE1 hU2
 have hb2:=hb1.upd hU2 (fun h=>h.elim hge (own_blk hW1.own hb1 (by decide)))
 clear hW1 hU2 hn2 hE1 hb1 hd2 q
 have q:=hb2.at 2 rfl
 go_wp2_with fail
 refine(wnum_any w.heap.size g A2 l2 k2 x.ep 0 1048576 4 ([69#8]++be x.K 1++be x.au 1) d2 _ hW2 (hE2).size (by omega) (by simp only[List.length_append,be_length,List.length_cons,List.length_nil];omega)).mono ?_
 rintro e w3 ⟨⟨v3,rfl⟩,A3,l3,k3,hW3,hU3,hn3⟩
 obtain⟨d3,hd3⟩:∃d,d=(d2 || decide (x.ep<0) || decide (1048576<x.ep)):=⟨_,rfl⟩
 rw[←hd3]at hW3
 have Hd3:=hide hd3
 have hE3:=wu_ext hW2 hg hE2 hU3
 have hb3:=hb2.upd hU3 (fun h=>h.elim hge (own_blk hW2.own hb2 (by decide)))
 clear hW2 hU3 hn3 hE2 hb2 hd3 q
 have q:=hb3.at 3 rfl
 go_wp2_with fail
 refine(wnum_any w.heap.size g A3 l3 k3 x.mode 0 255 1 ([69#8]++be x.K 1++be x.au 1++be x.ep 4) d3 _ hW3 (hE3).size (by omega) (by simp only[List.length_append,be_length,List.length_cons,List.length_nil];omega)).mono ?_
 rintro e w4 ⟨⟨v4,rfl⟩,A4,l4,k4,hW4,hU4,hn4⟩
 obtain⟨d4,hd4⟩:∃d,d=(d3 || decide (x.mode<0) || decide (255<x.mode)):=⟨_,rfl⟩
 rw[←hd4]at hW4
 have Hd4:=hide hd4
 have hE4:=wu_ext hW3 hg hE3 hU4
 have hb4:=hb3.upd hU4 (fun h=>h.elim hge (own_blk hW3.own hb3 (by decide)))
 clear hW3 hU4 hn4 hE3 hb3 hd4 q
 have q:=hb4.at 4 rfl
 go_wp2_with fail
 refine(wnum_any w.heap.size g A4 l4 k4 x.peer 0 255 1 ([69#8]++be x.K 1++be x.au 1++be x.ep 4++be x.mode 1) d4 _ hW4 (hE4).size (by omega) (by simp only[List.length_append,be_length,List.length_cons,List.length_nil];omega)).mono ?_
 rintro e w5 ⟨⟨v5,rfl⟩,A5,l5,k5,hW5,hU5,hn5⟩
 obtain⟨d5,hd5⟩:∃d,d=(d4 || decide (x.peer<0) || decide (255<x.peer)):=⟨_,rfl⟩
 rw[←hd5]at hW5
 have Hd5:=hide hd5
 have hE5:=wu_ext hW4 hg hE4 hU5
 have hb5:=hb4.upd hU5 (fun h=>h.elim hge (own_blk hW4.own hb4 (by decide)))
 clear hW4 hU5 hn5 hE4 hb4 hd5 q
 have q:=hb5.at 5 rfl
 go_wp2_with fail
 refine(wnum_any w.heap.size g A5 l5 k5 x.phase 0 255 1 ([69#8]++be x.K 1++be x.au 1++be x.ep 4++be x.mode 1++be x.peer 1) d5 _ hW5 (hE5).size (by omega) (by simp only[List.length_append,be_length,List.length_cons,List.length_nil];omega)).mono ?_
 rintro e w6 ⟨⟨v6,rfl⟩,A6,l6,k6,hW6,hU6,hn6⟩
 obtain⟨d6,hd6⟩:∃d,d=(d5 || decide (x.phase<0) || decide (255<x.phase)):=⟨_,rfl⟩
 rw[←hd6]at hW6
 have Hd6:=hide hd6
 have hE6:=wu_ext hW5 hg hE5 hU6
 have hb6:=hb5.upd hU6 (fun h=>h.elim hge (own_blk hW5.own hb5 (by decide)))
 clear hW5 hU6 hn6 hE5 hb5 hd6 q
 have q:=hb6.at 6 rfl
 go_wp2_with fail
 refine(wnats_any g A6 l6 k6 x.L1 x.ln x.c1 Kf x.ns ([69#8]++be x.K 1++be x.au 1++be x.ep 4++be x.mode 1++be x.peer 1++be x.phase 1) d6 w _ hW6 hg hE6 HX.out.nums HX.out.nlen HX.out.nmax hF hK (by simp only[List.length_append,be_length,List.length_cons,List.length_nil];omega)).mono ?_
 rintro e w7 ⟨⟨v7,rfl⟩,A7,l7,k7,b7,d7,hW7,hd7,hs7,hlen7,hU7,hn7⟩
 have Hd7:=hide hd7
 have Hs7:=hide hs7
 have hE7:=wu_ext hW6 hg hE6 hU7
 have hb7:=hb6.upd hU7 (fun h=>h.elim hge (own_blk hW6.own hb6 (by decide)))
 have hl7:b7.length≤20000:=by simp only[List.length_append,be_length,List.length_cons,List.length_nil]at hlen7;omega
 clear hW6 hU7 hn7 hE6 hb6 hd7 hs7 hlen7 q
 have q:=hb7.at 7 rfl
 go_wp2_with fail
 refine(wtexts_any g A7 l7 k7 x.L2 x.lt x.c2 x.ps b7 d7 w _ hW7 hg hE7 HX.out.texts HX.out.tlen HX.out.tmax (by omega)).mono ?_
 rintro e w8 ⟨⟨v8,rfl⟩,A8,l8,k8,b8,d8,hW8,hd8,hs8,hlen8,hU8,hn8⟩
 have Hd8:=hide hd8
 have Hs8:=hide hs8
 have hE8:=wu_ext hW7 hg hE7 hU8
 have hb8:=hb7.upd hU8 (fun h=>h.elim hge (own_blk hW7.own hb7 (by decide)))
 have hl8:b8.length≤200000:=by omega
 have hwo:=fun k (hk:WU g A8 k)=>wu_old hW8 hg hk
 clear hW7 hU8 hn8 hE7 hb7 hd8 hs8 hlen8 q
 have q:=hb8.at 8 rfl
 go_wp2_with fail
 refine(wtext_any w.heap.size g A8 l8 k8 x.P x.lp x.c3 1024 x.pr b8 d8 _ hW8 hE8.size (HX.out.proof.ext hE8) HX.out.plen (by omega) HX.out.pmax (fun h0 k hk hk2=>by
   obtain⟨b3,o3,e3,hlt3, -⟩:=HX.out.proof.open_ (by rw[HX.out.plen];exact h0)
   rw[e3]at hk
   simp[inA]at hk
   subst hk
   have:=hwo _ hk2
   omega) (by omega)).mono ?_
 rintro e w9 ⟨⟨v9,rfl⟩,A9,l9,k9,hW9,hU9,hn9⟩
 obtain⟨d9,hd9⟩:∃d,d=(d8 || decide (1024<x.lp)):=⟨_,rfl⟩
 rw[←hd9]at hW9
 have hE9:=wu_ext hW8 hg hE8 hU9
 have hb9:=hb8.upd hU9 (fun h=>h.elim hge (own_blk hW8.own hb8 (by decide)))
 have hbad:d9=x.bad:=by
  rw[hd9,Hd8.out,Hd7.out,Hd6.out,Hd5.out,Hd4.out,Hd3.out,Hd2.out,Hd1.out]
  unfold En.bad off
  simp only[Bool.or_assoc,Bool.false_or]
 have hbytes:d9=false→putT b8 x.pr 1024=bts:=fun h=>by
   rw[hd9,Bool.or_eq_false_iff]at h
   have h8:=h.1
   rw[Hd8.out,Bool.or_eq_false_iff]at h8
   have h7:=h8.1
   rw[Hd7.out]at h7
   rw[putT_yes (by rw[HX.out.plen];exact decide_eq_false_iff_not.1 h.2),Hs8.out (by rw[←Hd8.out];exact h.1),Hs7.out h7,Hbts.out]
   rfl
 have Hbad:=hide hbad
 have HB9:=hide hbytes
 have p0:=hW9.cells.cell0
 have p1:=hW9.cells.cell1
 have q0:=hb9.at 0 rfl
 have q1:=hb9.at 1 rfl
 have q2:=hb9.at 2 rfl
 have q3:=hb9.at 3 rfl
 have q4:=hb9.at 4 rfl
 have q5:=hb9.at 5 rfl
 have q6:=hb9.at 6 rfl
 have q7:=hb9.at 7 rfl
 have q8:=hb9.at 8 rfl
 have HW9:=hide hW9
 clear hW8 hW9 hU9 hn9 hE8 hb8 hd9 q hbad hbytes hwo hl8 hl7 Hd1 Hd2 Hd3 Hd4 Hd5 Hd6 Hd7 Hd8 Hs7 Hs8
 cases d9 with
 | true=>
   obtain rfl:ok=false:=Hok.out.trans (by unfold En.ok;rw[←Hbad.out];rfl)
   go_wp2_with fail
   refine bodyPost_ret (v:=.tuple #[.slice none 0 0,.int .i64 3]) ?_ rfl ⟨none,0,0,3,rfl,hE9,fun h=>(by cases h),fun _=>⟨rfl,rfl,rfl⟩⟩
   simp[results,Tryz.results14,go_sem]
 | false=>
   go_wp2_with fail
   refine(wuses_any x.K x.au x.ep x.mode x.peer x.phase x.L1 x.L2 x.P x.ln x.c1 x.lt x.c2 x.lp x.c3 _).mono ?_
   rintro e w10 ⟨rfl,hU10⟩
   obtain⟨us,hus⟩:∃us,us=usesB x.K x.mode x.peer x.phase x.ln x.lt x.lp:=⟨_,rfl⟩
   rw[←hus]
   have Hus:=hide hus
   clear hus q0 q1 q2 q3 q4 q5 q6 q7 q8
   replace p0:=hU10.cellv p0
   replace p1:=hU10.cellv p1
   have hlen:bts.length=l9:=by rw[←HB9.out trivial];exact HW9.out.len
   have Hlen:=hide hlen
   clear hlen
   cases us with
   | false=>
     obtain rfl:ok=false:=Hok.out.trans (by unfold En.ok;rw[←Hus.out,Bool.false_and,Bool.and_false])
     go_wp2_with fail
     refine bodyPost_ret (v:=.tuple #[.slice none 0 0,.int .i64 3]) ?_ rfl ⟨none,0,0,3,rfl,hE9.trans hU10,fun h=>(by cases h),fun _=>⟨rfl,rfl,rfl⟩⟩
     simp[results,Tryz.results14,go_sem]
   | true=>
     by_cases h4:4096<l9
     · have hI:(4096:Int)<(l9:Int):=by omega
       obtain rfl:ok=false:=Hok.out.trans (by
        unfold En.ok
        rw[←Hbts.out,Hlen.out,decide_eq_true h4]
        simp)
       clear h4
       go_wp2_with fail
       refine bodyPost_ret (v:=.tuple #[.slice none 0 0,.int .i64 3]) ?_ rfl ⟨none,0,0,3,rfl,hE9.trans hU10,fun h=>(by cases h),fun _=>⟨rfl,rfl,rfl⟩⟩
       simp[results,Tryz.results14,go_sem]
     · have hI:¬(4096:Int)<(l9:Int):=by omega
       obtain rfl:ok=true:=Hok.out.trans (by
        unfold En.ok
        rw[←Hbts.out,Hlen.out,decide_eq_false h4,←Hus.out,←Hbad.out]
        rfl)
       have hO:Own w10 w.heap.size 5 A9 k9 (bts.map by8):=by rw[←HB9.out trivial];exact HW9.out.own.ext hU10
       have HO:=hide hO
       clear h4 hO
       go_wp2_with fail
       refine bodyPost_ret (v:=.tuple #[.slice A9 l9 k9,.int .i64 0]) ?_ rfl ⟨A9,l9,k9,0,rfl,hE9.trans hU10,fun _=>⟨rfl,Hlen.out,HO.out⟩,fun h=>(by cases h)⟩
       simp[results,Tryz.results14,go_sem]
end Go.Proofs.YtbhhjfhepkbfgaaGreat
