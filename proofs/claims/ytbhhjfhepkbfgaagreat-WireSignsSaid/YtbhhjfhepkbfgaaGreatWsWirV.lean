/- Votes as bytes, walked: the program's and the document's EncodeVote. -/
import Derived.Test.YtbhhjfhepkbfgaaGreatWsWirD
import Derived.Test.YtbhhjfhepkbfgaaGreatWsMonoL
import Derived.Test.YtbhhjfhepkbfgaaGreatWsMacs
namespace Go.Proofs.YtbhhjfhepkbfgaaGreat
set_option linter.unusedSimpArgs false
set_option linter.unusedVariables false
open Go.RowKit
open Nt Sha
attribute [local go_sem] steady steadyUpon Cls same_cell
attribute [local irreducible] wpHead wpTree
structure Vo where
 K:Int
 from_:Int
 slot:Int
 view:Int
 valid:Int
 P:Option Addr
 lp:Nat
 c:Nat
 pr:List B8
def Vo.cs (x:Vo):Array Value:=#[.int .i64 x.K,.int .i64 x.from_,.int .i64 x.slot,.int .i64 x.view,.int .i64 x.valid,.slice x.P x.lp x.c]
structure VoOk (w:World) (x:Vo):Prop where
 val:Sl by8 w x.P x.pr
 len:x.pr.length=x.lp
 cap:x.lp≤x.c
 max:x.c≤maxLen
def Vo.bad (x:Vo):Bool:=off x.K 1 5 || (off x.from_ 1 64 || (off x.slot 0 256 || (off x.view 0 1048576 || (off x.valid (-1) 1048576 || decide (4096<x.lp)))))
def Vo.bytes (x:Vo):List B8:=[86#8]++be x.K 1++be x.from_ 1++be x.slot 4++be x.view 4++be (x.valid+1) 4++txt x.pr
def Vo.ok (x:Vo):Bool:=!x.bad
set_option maxRecDepth 100000 in
set_option maxHeartbeats 4000000 in
theorem encV_any (x:Vo) (w:World) (hx:VoOk w x):
 Calls Tryz.prog 47 #[.agg x.cs] w (RetEnc w x.ok x.bytes):=by
 obtain⟨ok,hok⟩:∃ok,ok=x.ok:=⟨_,rfl⟩
 rw[←hok]
 have Hok:=hide hok
 obtain⟨bts,hbts⟩:∃bts,bts=x.bytes:=⟨_,rfl⟩
 rw[←hbts]
 have Hbts:=hide hbts
 have HX:=hide hx
 clear hx hok hbts
 unfold Vo.cs
 go_enter Tryz.func47,Tryz.ntmps47
 go_upto_region 2 with fail
 refine name_w (fun W hW=>?_)
 have hb0:Blk W w.heap.size 63 x.cs:=by rw[hW];exact((Blk.new _ _ _).ext ((Upd.refl _ _).alloc _)).ext ((Upd.refl _ _).alloc _)
 have hE0:Ext w W:=by rw[hW];exact(((Upd.refl _ _).alloc _).alloc _).alloc _
 obtain⟨g,hg0⟩:∃g,g=w.heap.size+1+1:=⟨_,rfl⟩
 have hW0:WrA W w.heap.size g (some ⟨w.heap.size+1,0,none⟩) 1 1 [86#8] false:=by
  rw[hW,hg0]
  exact⟨Two.mk_at (by simp),(Own.lit_at' by8 5 [86#8] (by simp) (by unfold maxLen;decide) (by simp)).ext ((Upd.refl _ _).alloc _),rfl⟩
 have hg:w.heap.size≤g:=by omega
 have hge:¬w.heap.size=g:=by omega
 clear hW
 rw[←hg0]
 clear hg0
 have q:=hb0.at 0 rfl
 obtain⟨A0,hA0⟩:∃A0:Option Addr,A0=some ⟨w.heap.size+1,0,none⟩:=⟨_,rfl⟩
 rw[←hA0]at hW0
 obtain⟨l0,hl0⟩:∃l0,l0=1:=⟨_,rfl⟩
 obtain⟨k0,hk0⟩:∃k0,k0=1:=⟨_,rfl⟩
 have hW0:WrA W w.heap.size g A0 l0 k0 [86#8] false:=by rw[hl0,hk0];exact hW0
 clear hl0 hk0
 go_wp2_with fail
 refine(wnum_any w.heap.size g A0 l0 k0 (x.K) 1 5 1 ([86#8]) false _ hW0 (hE0).size (by omega) (by simp only[List.length_append,be_length,List.length_cons,List.length_nil];omega)).mono ?_
 rintro e w1 ⟨⟨v1,rfl⟩,A1,l1,k1,hW1,hU1,hn1⟩
 obtain⟨d1,hd1⟩:∃d,d=(false || decide (x.K<1) || decide (5<x.K)):=⟨_,rfl⟩
 rw[←hd1]at hW1
 have Hd1:=hide hd1
 have hE1:=wu_ext hW0 hg hE0 hU1
 have hb1:=hb0.upd hU1 (fun h=>h.elim hge (own_blk hW0.own hb0 (by decide)))
 clear hW0 hU1 hn1 hE0 hb0 hd1 q
 have q:=hb1.at 1 rfl
 go_wp2_with fail
 refine(wnum_any w.heap.size g A1 l1 k1 (x.from_) 1 64 1 ([86#8]++be x.K 1) d1 _ hW1 (hE1).size (by omega) (by simp only[List.length_append,be_length,List.length_cons,List.length_nil];omega)).mono ?_
 rintro e w2 ⟨⟨v2,rfl⟩,A2,l2,k2,hW2,hU2,hn2⟩
 obtain⟨d2,hd2⟩:∃d,d=(d1 || decide (x.from_<1) || decide (64<x.from_)):=⟨_,rfl⟩
 rw[←hd2]at hW2
 have Hd2:=hide hd2
 have hE2:=wu_ext hW1 hg hE1 hU2
 have hb2:=hb1.upd hU2 (fun h=>h.elim hge (own_blk hW1.own hb1 (by decide)))
 clear hW1 hU2 hn2 hE1 hb1 hd2 q
 have q:=hb2.at 2 rfl
 go_wp2_with fail
 refine(wnum_any w.heap.size g A2 l2 k2 (x.slot) 0 256 4 ([86#8]++be x.K 1++be x.from_ 1) d2 _ hW2 (hE2).size (by omega) (by simp only[List.length_append,be_length,List.length_cons,List.length_nil];omega)).mono ?_
 rintro e w3 ⟨⟨v3,rfl⟩,A3,l3,k3,hW3,hU3,hn3⟩
 obtain⟨d3,hd3⟩:∃d,d=(d2 || decide (x.slot<0) || decide (256<x.slot)):=⟨_,rfl⟩
 rw[←hd3]at hW3
 have Hd3:=hide hd3
 have hE3:=wu_ext hW2 hg hE2 hU3
 have hb3:=hb2.upd hU3 (fun h=>h.elim hge (own_blk hW2.own hb2 (by decide)))
 clear hW2 hU3 hn3 hE2 hb2 hd3 q
 have q:=hb3.at 3 rfl
 go_wp2_with fail
 refine(wnum_any w.heap.size g A3 l3 k3 (x.view) 0 1048576 4 ([86#8]++be x.K 1++be x.from_ 1++be x.slot 4) d3 _ hW3 (hE3).size (by omega) (by simp only[List.length_append,be_length,List.length_cons,List.length_nil];omega)).mono ?_
 rintro e w4 ⟨⟨v4,rfl⟩,A4,l4,k4,hW4,hU4,hn4⟩
 obtain⟨d4,hd4⟩:∃d,d=(d3 || decide (x.view<0) || decide (1048576<x.view)):=⟨_,rfl⟩
 rw[←hd4]at hW4
 have Hd4:=hide hd4
 have hE4:=wu_ext hW3 hg hE3 hU4
 have hb4:=hb3.upd hU4 (fun h=>h.elim hge (own_blk hW3.own hb3 (by decide)))
 clear hW3 hU4 hn4 hE3 hb3 hd4 q
 have q:=hb4.at 4 rfl
 have q':w4.cell? ⟨w.heap.size,4,none⟩=some (.int .i64 x.valid):=q
 clear q
 have q:=q'
 clear q'
 by_cases h1:x.valid< -1
 · obtain rfl:ok=false:=Hok.out.trans (by unfold Vo.ok Vo.bad off;rw[decide_eq_true h1];simp)
   go_wp2_with fail
   refine bodyPost_ret (v:=.tuple #[.slice none 0 0,.int .i64 3]) ?_ rfl ⟨none,0,0,3,rfl,hE4,fun h=>(by cases h),fun _=>⟨rfl,rfl,rfl⟩⟩
   simp[results,Tryz.results47,go_sem]
 by_cases h2:1048576<x.valid
 · obtain rfl:ok=false:=Hok.out.trans (by unfold Vo.ok Vo.bad off;rw[decide_eq_true h2];simp)
   have h1d:decide (x.valid< -1)=false:=decide_eq_false h1
   go_wp2_with fail
   refine bodyPost_ret (v:=.tuple #[.slice none 0 0,.int .i64 3]) ?_ rfl ⟨none,0,0,3,rfl,hE4,fun h=>(by cases h),fun _=>⟨rfl,rfl,rfl⟩⟩
   simp[results,Tryz.results47,go_sem]
 have h1d:decide (x.valid< -1)=false:=decide_eq_false h1
 have h2d:decide (1048576<x.valid)=false:=decide_eq_false h2
 go_wp2_with fail
 clear h1d h2d
 refine(wnum_any w.heap.size g A4 l4 k4 (x.valid+1) 0 1048577 4 ([86#8]++be x.K 1++be x.from_ 1++be x.slot 4++be x.view 4) d4 _ hW4 (hE4).size (by omega) (by simp only[List.length_append,be_length,List.length_cons,List.length_nil];omega)).mono ?_
 rintro e w5 ⟨⟨v5,rfl⟩,A5,l5,k5,hW5,hU5,hn5⟩
 obtain⟨d5,hd5⟩:∃d,d=(d4 || decide (x.valid+1<0) || decide (1048577<x.valid+1)):=⟨_,rfl⟩
 rw[←hd5]at hW5
 have Hd5:=hide hd5
 have hE5:=wu_ext hW4 hg hE4 hU5
 have hb5:=hb4.upd hU5 (fun h=>h.elim hge (own_blk hW4.own hb4 (by decide)))
 clear hW4 hU5 hn5 hE4 hb4 hd5 q
 have q:=hb5.at 5 rfl
 go_wp2_with fail
 have hwo:=fun k (hk:WU g A5 k)=>wu_old hW5 hg hk
 refine(wtext_any w.heap.size g A5 l5 k5 x.P x.lp x.c 4096 x.pr ([86#8]++be x.K 1++be x.from_ 1++be x.slot 4++be x.view 4++be (x.valid+1) 4) d5 _ hW5 hE5.size (HX.out.val.ext hE5) HX.out.len (by omega) (by have:=HX.out.cap;have:=HX.out.max;unfold maxLen at this;omega) (fun h0 k hk hk2=>by
   obtain⟨b3,o3,e3,hlt3, -⟩:=HX.out.val.open_ (by rw[HX.out.len];exact h0)
   rw[e3]at hk
   simp[inA]at hk
   subst hk
   have:=hwo _ hk2
   omega) (by simp only[List.length_append,be_length,List.length_cons,List.length_nil];omega)).mono ?_
 rintro e w9 ⟨⟨v9,rfl⟩,A9,l9,k9,hW9,hU9,hn9⟩
 obtain⟨d9,hd9⟩:∃d,d=(d5 || decide (4096<x.lp)):=⟨_,rfl⟩
 rw[←hd9]at hW9
 have hE9:=wu_ext hW5 hg hE5 hU9
 have hbad:d9=x.bad:=by
  rw[hd9,Hd5.out,Hd4.out,Hd3.out,Hd2.out,Hd1.out,decide_eq_false (show ¬x.valid+1<0 by omega),decide_eq_false (show ¬(1048577:Int)<x.valid+1 by omega)]
  unfold Vo.bad off
  rw[decide_eq_false (show ¬x.valid< -1 by omega),decide_eq_false (show ¬(1048576:Int)<x.valid by omega)]
  simp only[Bool.or_assoc,Bool.false_or]
 have hbytes:d9=false→putT ([86#8]++be x.K 1++be x.from_ 1++be x.slot 4++be x.view 4++be (x.valid+1) 4) x.pr 4096=bts:=fun h=>by
   rw[hd9,Bool.or_eq_false_iff]at h
   rw[putT_yes (by rw[HX.out.len];exact decide_eq_false_iff_not.1 h.2),Hbts.out]
   rfl
 have Hbad:=hide hbad
 have HB9:=hide hbytes
 have p0:=hW9.cells.cell0
 have p1:=hW9.cells.cell1
 have HW9:=hide hW9
 clear hW5 hW9 hU9 hn9 hE5 hb5 hd9 q hbad hbytes hwo Hd1 Hd2 Hd3 Hd4 Hd5
 cases d9 with
 | true=>
   obtain rfl:ok=false:=Hok.out.trans (by unfold Vo.ok;rw[←Hbad.out];rfl)
   go_wp2_with fail
   refine bodyPost_ret (v:=.tuple #[.slice none 0 0,.int .i64 3]) ?_ rfl ⟨none,0,0,3,rfl,hE9,fun h=>(by cases h),fun _=>⟨rfl,rfl,rfl⟩⟩
   simp[results,Tryz.results47,go_sem]
 | false=>
   obtain rfl:ok=true:=Hok.out.trans (by unfold Vo.ok;rw[←Hbad.out];rfl)
   have hlen:bts.length=l9:=by rw[←HB9.out rfl];exact HW9.out.len
   have hO:Own w9 w.heap.size 5 A9 k9 (bts.map by8):=by rw[←HB9.out rfl];exact HW9.out.own
   have HO:=hide hO
   have Hlen:=hide hlen
   clear hO hlen
   go_wp2_with fail
   refine bodyPost_ret (v:=.tuple #[.slice A9 l9 k9,.int .i64 0]) ?_ rfl ⟨A9,l9,k9,0,rfl,hE9,fun _=>⟨rfl,Hlen.out,HO.out⟩,fun h=>(by cases h)⟩
   simp[results,Tryz.results47,go_sem]
theorem off_no {n a b:Int} (h:off n a b=false):a≤n∧n≤b:=by
 unfold off at h
 rw[Bool.or_eq_false_iff,decide_eq_false_iff_not,decide_eq_false_iff_not]at h
 omega
end Go.Proofs.YtbhhjfhepkbfgaaGreat
