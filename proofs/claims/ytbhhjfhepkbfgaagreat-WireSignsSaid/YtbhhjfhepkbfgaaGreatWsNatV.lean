/- Numbers that lie in new memory, walked once more: trim, FromBytes; the document's Of, Get. -/
import Derived.Test.YtbhhjfhepkbfgaaGreatWsRefs
namespace Go.Proofs.YtbhhjfhepkbfgaaGreat
set_option linter.unusedSimpArgs false
set_option linter.unusedVariables false
open Go.RowKit
open Nt
attribute [local go_sem] steady steadyUpon Cls same_cell by32 by8 wrap_w32 or_u32
def RetNA (w:World) (A:Option Addr) (c n:Nat) (e:Ending) (w':World):Prop:=∃l,e=.returned (.agg #[.slice A l c])∧NatV w' (.agg #[.slice A l c]) n∧Ext w w'
def RetE1 (w:World) (n:Nat) (m:Int) (e:Ending) (w':World):Prop:=∃A l c,e=.returned (.tuple #[.agg #[.slice A l c],.int .i64 m])∧NatV w' (.agg #[.slice A l c]) n∧Ext w w'∧∀k,inA A k→w.heap.size≤k
set_option maxRecDepth 100000 in
set_option maxHeartbeats 1000000 in
theorem trim_at (A:Option Addr) (n c:Nat) (xs:List (BitVec 32)) (w:World) (hn:xs.length=n) (hc:n≤c) (hm:c≤maxLen) (hS:Sl by32 w A xs):
 Calls Tryz.prog 29 #[.slice A n c] w (RetNA w A c (numOf W32 d32 xs)):=by
 have hm':=hm
 unfold maxLen at hm'
 have hS':=hide (hS.ext ((Upd.refl _ w).alloc (.cells #[.slice none 0 0] 39)))
 have Hn:=hide hn
 have HS:=hide hS
 clear hn hS
 go_enter Tryz.func29,Tryz.ntmps29
 go_wp2
 go_loop [0] (fun v=>∃k:Nat,k≤n∧v=.slice A k c∧vf W32 (dig d32 xs) k=numOf W32 d32 xs) (fun v=>match v with | .slice _ k _=>k | _=>0)
 case atStart=>exact⟨n,Nat.le_refl _,rfl,by rw[←Hn.out];rfl⟩
 case round=>
  obtain⟨k,hk,rfl,hv⟩:=hrel
  have HV:=hide hv
  clear hv
  rcases Nat.eq_zero_or_pos k with h0 | h0
  · subst h0
    go_wp2
    refine bodyPost_ret (v:=.agg #[.slice A 0 c]) (by simp[results,Tryz.results29,go_sem]) rfl ⟨_,rfl,⟨_,rfl,NumS.cut (HS.out.ext ((Upd.refl _ _).alloc _)) (Nat.zero_le _) (Nat.zero_le _) hm HV.out (.inl rfl)⟩,(Upd.refl _ _).alloc _⟩
  · obtain⟨b,o,rfl,hb,hcells⟩:=hS'.out.open_ (by rw[Hn.out];omega)
    have hcell:=hcells (k - 1) (by rw[Hn.out];omega)
    obtain⟨k,rfl⟩:∃j,k=j+1:=⟨k - 1,by omega⟩
    simp only[Nat.add_sub_cancel]at hcell
    clear hcells
    by_cases hz:n32 (gat xs k)=0
    · have hzb:(n32 (gat xs k) == 0)=true:=by simpa using hz
      have hd:=hide (dig_zero.2 hz)
      clear hz
      go_wp2
      go_round
      case rel=>exact⟨k,by omega,rfl,by have:=HV.out;rw[vf_succ,hd.out]at this;omega⟩
      case measure=>simp
    · have hzb:(n32 (gat xs k) == 0)=false:=by simpa using hz
      have hd:=hide (fun e=>hz (dig_zero.1 e))
      clear hz
      go_wp2
      refine bodyPost_ret (v:=.agg #[.slice (some ⟨b,o,none⟩) (k+1) c]) (by simp[results,Tryz.results29,go_sem]) rfl ⟨_,rfl,⟨_,rfl,NumS.cut (HS.out.ext ((Upd.refl _ _).alloc _)) (by rw[Hn.out];exact hk) (by omega) hm HV.out (.inr hd.out)⟩,(Upd.refl _ _).alloc _⟩
set_option maxRecDepth 100000 in
set_option maxHeartbeats 1000000 in
theorem from_new (A:Option Addr) (n c:Nat) (bs:List (BitVec 8)) (w:World) (hn:bs.length=n) (hl:n≤128) (hS:Sl by8 w A bs):
 Calls Tryz.prog 73 #[.slice A n c] w (RetE1 w (ofB bs) 0):=by
 have Hn:=hide hn
 have HS:=hide hS
 clear hn hS
 go_enter Tryz.func73,Tryz.ntmps73
 go_wp2_with (at_make;go_must (refine wpList_mk _ _ _ Tryz.n_el32 rfl rfl ((n+3) / 4) rfl rfl (by omega) (by omega) (by omega) (by unfold maxLen;omega) by32 rfl rfl (B:=w.heap.size+1) (by simp) ?_);intro g w2 hO hg hU)
 obtain rfl:g=w.heap.size+1:=by rw[hg];simp
 clear hg
 have hBx:=(Box.new w 39 (.slice none 0 0)).ext hU
 have hUw:Ext w w2:=((Upd.refl _ _).alloc _).trans hU
 clear hU
 obtain⟨N,hN⟩:∃N,N=(n+3) / 4:=⟨_,rfl⟩
 have HN:=hide hN
 rw[←hN]at hO ⊢
 clear hN
 go_loopw [18] (fun i wr=>∃(k:Nat) (xs:List (BitVec 32)),k≤n∧i=.int .i64 k∧xs.length=N∧vf W32 (dig d32 xs) N=vf 256 (bdig bs) k∧Own wr (w.heap.size+1) 84 (some ⟨w.heap.size+1,0,none⟩) N (xs.map by32)∧Box wr w.heap.size 39 (.slice none 0 0)∧Ext w wr) (fun i _=>n - (intOf i).toNat)
 case atStart=>exact⟨0,_,Nat.zero_le _,rfl,List.length_replicate,vf_zeros,hO,hBx,hUw⟩
 case round=>
  clear hO hBx hUw
  obtain⟨k,xs,hk,rfl,hxl,hv,hO,hBx,hU⟩:=hrel
  have Hxl:=hide hxl
  have Hv:=hide hv
  clear hxl hv
  by_cases hlt:k<n
  · obtain⟨b,o,rfl,hbl,hcells⟩:=(HS.out.ext hU).open_ (by rw[Hn.out];omega)
    have hcell:=hcells (n - 1 - k) (by rw[Hn.out];omega)
    have hq:((k / 4:Nat):Int)<(N:Int):=by have:=HN.out;omega
    have hcx:=(hO.row.ext (Upd.refl _ _).drew).cell (i:=k / 4) (by rw[Hxl.out];omega)
    clear hcells
    have HO:=hide hO
    clear hO
    go_wp2_with fail
    have e1:IntKind.i64.wrap ((k:Int) / 4)=((k / 4:Nat):Int):=IntWalk.i64_in _ (by omega)
    have e2:(k:Int).tmod 4=((k % 4:Nat):Int):=IntWalk.rem_in _ _ (by omega)
    have e2':(k:Int) % 4=((k % 4:Nat):Int):=rfl
    obtain⟨q,hqd⟩:∃q,q=k / 4:=⟨_,rfl⟩
    obtain⟨r,hr⟩:∃r,r=k % 4:=⟨_,rfl⟩
    have hr4:r<4:=by omega
    have e3:IntKind.i64.wrap (8*(r:Int))=((8*r:Nat):Int):=IntWalk.i64_in _ (by omega)
    have p0:(0:Int)≤(q:Int):=by omega
    have p1:(0:Int)≤((8*r:Nat):Int):=by omega
    rw[←hqd]at hq hcx e1
    rw[←hr]at e2 e2'
    have Hqr:=hide (And.intro hqd hr)
    clear hqd hr
    refine wp_region_plan (Same _) 13 [(false,0),(false,1),(false,2),(false,3),(false,4),(false,5),(false,6),(false,7),(false,8),(false,9),(false,10),(false,11),(false,12)] (by kernel_rfl) (by kernel_rfl) rfl (fun hne=>?_)
    repeat (refine head_q rfl (fun K hK=>?_);have hK2:=hide hK;clear hK;go_simp;refine hK2.out _ ?_;clear hK2 K)
    refine head_nil ?_
    try simp only[List.drop_succ_cons,List.drop_zero]
    go_wp2_with (refine wpList_store_own by32 one32 (gat xs q ||| w32 (n32 (w32 (n8 (gat bs (n - 1 - k))))*2^(8*(r:Int)).toNat)) rfl rfl Tryz.n_sz32 rfl rfl (HO.out.ext (Upd.refl _ _).drew) (by rw[Hxl.out];omega) ?_;intro w3 hO3 hU3)
    have Hx:=HO.out
    have hne:w.heap.size≠w.heap.size+1:=by omega
    go_roundw
    case rel=>exact⟨k+1,_,by omega,by go_num,by rw[List.length_set];exact Hxl.out,from_step Hn.out Hxl.out Hv.out hlt HN.out Hqr.out.1 Hqr.out.2 rfl,hO3,hBx.upd hU3.undrew hne,Upd.fresh hU3.undrew hU (fun i hi=>by unfold only at hi;omega)⟩
    case measure=>simp[intOf];omega
  · obtain rfl:k=n:=by omega
    have hcc:wr.cell? ⟨w.heap.size,0,none⟩=some (.slice none 0 0):=hBx.cell
    have hff:=hBx.frozen
    go_wp2_with (go_at_call 29;refine(trim_at _ N N xs _ Hxl.out (Nat.le_refl _) (by have:=HN.out;unfold maxLen;omega) hO.sl).mono ?_;rintro e w3 ⟨l3,rfl,hV3,hU3⟩;have hb3:=hBx.ext hU3;have hc3:=hb3.cell;have hf3:=hb3.frozen)
    exact bodyPost_ret (v:=.tuple #[.agg #[.slice (some ⟨w.heap.size+1,0,none⟩) l3 N],.int .i64 0]) (by simp[results,Tryz.results73,go_sem,hc3]) rfl ⟨_,_,_,rfl,(hV3.of_eq (by rw[←from_end Hn.out Hxl.out Hv.out])).far hc3,(by repeat (first | (with_reducible exact Upd.refl _ _) | (with_reducible assumption) | (refine Upd.setCell ?_ (.inr (by first | exact Nat.le_refl _ | (dsimp only;omega) | (simp;done) | (simp;omega))) _) | (with_reducible refine Upd.alloc ?_ _) | (with_reducible refine Upd.drew ?_) | (with_reducible refine Upd.trans ?_ (by with_reducible assumption)))),fun k hk=>by simp[inA]at hk;omega⟩
section
attribute [local go_sem] wrap_w8
set_option maxRecDepth 100000 in
set_option maxHeartbeats 1000000 in
theorem rof_new (A:Option Addr) (n c:Nat) (bs:List (BitVec 8)) (w:World) (hn:bs.length=n) (hl:n≤1000000) (hS:Sl by8 w A bs):
 Calls Tryz.prog 50 #[.slice A n c] w (RetN1 w (ofB bs)):=by
 have Hn:=hide hn
 have HS:=hide hS
 clear hn hS
 go_enter Tryz.func50,Tryz.ntmps50
 go_wp2
 go_loopw [4,3] (fun i o wr=>∃(j q l:Nat) (cc:Int) (zs:List Bool) (Z:Option Addr) (cz:Nat),j+q=n∧cc=(j:Int) - 1∧i=.int .i64 cc∧l=8*q∧o=.slice Z l cz∧zs.length=l∧Own wr w.heap.size 4 Z cz (zs.map Value.bool)∧vf 2 (dig d1 zs) (8*q)=vf 256 (bdig bs) q∧Ext w wr) (fun i _ _=>(intOf i+1).toNat)
 case atStart=>exact⟨n,0,0,_,[],_,_,by omega,by omega,rfl,rfl,rfl,rfl,⟨rfl,.inr ⟨w.heap.size,0,#[],rfl,Nat.le_refl _,heap_alloc_new w _,Nat.le_refl _,Nat.zero_le _,rfl,rfl⟩⟩,rfl,(Upd.refl _ _).alloc _⟩
 case round=>
  obtain⟨j,q,l,cc,zs,Z,cz,hj,hcc,rfl,hlq,rfl,hzl,hO,hv,hE⟩:=hrel
  subst hlq
  have Hzl:=hide hzl
  have Hv:=hide hv
  clear hzl hv
  rcases j with _ | j
  · obtain rfl:cc= -1:=by omega
    obtain rfl:q=n:=by omega
    clear hcc
    go_wp2_with fail
    refine(rtrim_at Z (8*q) cz zs _ Hzl.out (by have:=hO.cap.1;rw[List.length_map,Hzl.out]at this;exact this) hO.cap.2 hO.sl).mono ?_
    rintro e w4 ⟨l4,rfl,hV4,hU4⟩
    go_wp2
    go_ret
    exact⟨_,_,_,rfl,hV4.of_eq (by unfold numOf ofB;rw[Hzl.out,Hv.out,Hn.out]),hE.trans hU4,fun k hk=>(hO.in_ hk).1⟩
  · obtain rfl:cc=(j:Int):=by omega
    clear hcc
    have hj0:(0:Int)≤(j:Int):=by omega
    obtain⟨V,hV⟩:∃V,V=vf 256 (bdig bs) q:=⟨_,rfl⟩
    have hHV:=hide hV
    have hv0:=Hv.out
    rw[←hV]at hv0
    have Hv0:=hide hv0
    clear hV hv0 Hv
    obtain⟨x,hx⟩:∃x,gat bs j=x:=⟨_,rfl⟩
    have Hx:=hide hx
    clear hx
    go_wp2_with fail
    go_loopw [5,3] (fun i o wr=>∃(m l:Nat) (zs:List Bool) (Z:Option Addr) (cz:Nat),m≤8∧i=.int .i64 (m:Nat)∧l=8*q+m∧o=.slice Z l cz∧zs.length=8*q+m∧Own wr w.heap.size 4 Z cz (zs.map Value.bool)∧vf 2 (dig d1 zs) (8*q+m)=V+d8 x % 2^m*2^(8*q)∧Ext w wr) (fun i _ _=>8 - (intOf i).toNat)
    case atStart=>exact⟨0,_,zs,Z,cz,by omega,rfl,rfl,rfl,Hzl.out,hO,by rw[Nat.pow_zero,Nat.mod_one,Nat.zero_mul];exact Hv0.out,hE⟩
    case round=>
     clear hO hE Hzl Hv0
     obtain⟨m,l,zs,Z,cz,hm,rfl,hlm,rfl,hzl,hO,hv,hE⟩:=hrel
     subst hlm
     have Hzl:=hide hzl
     have Hv:=hide hv
     clear hzl hv
     by_cases hm8:m<8
     · obtain⟨b1,o1,rfl,hbl1,hcells⟩:=(HS.out.ext hE).open_ (by rw[Hn.out];omega)
       have hcell:=hcells j (by rw[Hn.out];omega)
       rw[Hx.out]at hcell
       obtain⟨hx1,hx2⟩:=n8_bd x
       clear hcells
       rcases Nat.mod_two_eq_zero_or_one (d8 x / 2^m)with hp | hp
       · skip
         have hs:=hide (rof_bit (b:=false) Hzl.out Hv.out (by rw[hp];rfl))
         have hpi:=bit_int hp
         clear hp
         go_wp2_with (at_builtin;go_must (refine wpList_apd Value.bool one1 Tryz.n_el1 zs [false] (zs++[false]) (8*q+m+1) rfl (by rw[List.length_append,Hzl.out];rfl) (by omega) (by unfold maxLen;omega) rfl rfl rfl Hzl.out (hO.ext ((Upd.refl _ _).alloc _)) rfl rfl (Sl.new Value.bool _ _ [false]) (by have:=hE.size;simp;omega) ?_);intro Z2 c2 w3 hO3 hU3 hin3)
         go_roundw
         case rel=>exact⟨m+1,_,zs++[false],_,_,by omega,by go_num,rfl,rfl,by rw[List.length_append,Hzl.out];rfl,hO3,hs.out,Upd.fresh hU3 (hE.alloc _) (fun i hi=>(hO.in_ hi).1)⟩
         case measure=>simp[intOf];omega
       · skip
         have hs:=hide (rof_bit (b:=true) Hzl.out Hv.out (by rw[hp];rfl))
         have hpi:=bit_int hp
         clear hp
         go_wp2_with (at_builtin;go_must (refine wpList_apd Value.bool one1 Tryz.n_el1 zs [true] (zs++[true]) (8*q+m+1) rfl (by rw[List.length_append,Hzl.out];rfl) (by omega) (by unfold maxLen;omega) rfl rfl rfl Hzl.out (hO.ext ((Upd.refl _ _).alloc _)) rfl rfl (Sl.new Value.bool _ _ [true]) (by have:=hE.size;simp;omega) ?_);intro Z2 c2 w3 hO3 hU3 hin3)
         go_roundw
         case rel=>exact⟨m+1,_,zs++[true],_,_,by omega,by go_num,rfl,rfl,by rw[List.length_append,Hzl.out];rfl,hO3,hs.out,Upd.fresh hU3 (hE.alloc _) (fun i hi=>(hO.in_ hi).1)⟩
         case measure=>simp[intOf];omega
     · obtain rfl:m=8:=by omega
       have hfin:=rof_byte (zs:=zs) (bs:=bs) Hn.out (show q<n by omega) (by rw[Hv.out,hHV.out,←Hx.out,show n - 1 - q=j by omega])
       have Hfin:=hide hfin
       clear hfin
       go_wp2_with fail
       go_roundw
       case rel=>exact⟨j,q+1,_,_,zs,_,_,by omega,rfl,rfl,rfl,rfl,Hzl.out,hO,Hfin.out,hE⟩
       case measure=>simp[intOf]
end
theorem from_long1 (A:Option Addr) (n c:Nat) (w:World) (hn:128<n):Calls Tryz.prog 73 #[.slice A n c] w (RetE1 w 0 4):=by
 go_enter Tryz.func73,Tryz.ntmps73
 go_wp2
 exact bodyPost_ret (v:=.tuple #[.agg #[.slice none 0 0],.int .i64 4]) (by simp[results,Tryz.results73,go_sem]) rfl ⟨_,_,_,rfl,NatV.nil _,(by repeat (first | (with_reducible exact Upd.refl _ _) | (with_reducible assumption) | (refine Upd.setCell ?_ (.inr (by first | exact Nat.le_refl _ | (dsimp only;omega) | (simp;done) | (simp;omega))) _) | (with_reducible refine Upd.alloc ?_ _) | (with_reducible refine Upd.drew ?_) | (with_reducible refine Upd.trans ?_ (by with_reducible assumption)))),fun k hk=>by simp[inA]at hk⟩
end Go.Proofs.YtbhhjfhepkbfgaaGreat
