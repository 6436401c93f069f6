/- The document's numbers out of bytes, the lowest first: Low, walked. -/
import Derived.Test.YtdohmikoafkniaaGreatLsTagN
namespace Go.Proofs.YtdohmikoafkniaaGreat
set_option linter.unusedSimpArgs false
set_option linter.unusedVariables false
open Go.RowKit
open Nt
attribute [local go_sem] steady steadyUpon Cls same_cell by8 wrap_w8
attribute [local irreducible] wpHead wpTree
theorem low_byte {zs:List Bool} {bs:List (BitVec 8)} {n q:Nat} (hn:bs.length=n) (hq:q<n) (h:vf 2 (dig d1 zs) (8*q+8)=vf 256 (dig d8 bs) q+d8 (gat bs q) % 2^8*2^(8*q)):vf 2 (dig d1 zs) (8*(q+1))=vf 256 (dig d8 bs) (q+1):=by
 rw[show 8*(q+1)=8*q+8 by omega,h,vf_succ,pow256,Nat.mod_eq_of_lt (d8_lt _)]
 rfl
set_option maxRecDepth 100000 in
set_option maxHeartbeats 1000000 in
theorem rlow_any (A:Option Addr) (n c:Nat) (bs:List (BitVec 8)) (w:World) (hn:bs.length=n) (hl:n≤1000000) (hS:Sl by8 w A bs):
 Calls Tryz.prog 200 #[.slice A n c] w (RetR w (leN bs)):=by
 have Hn:=hide hn
 have HS:=hide hS
 clear hn hS
 go_enter Tryz.func200,Tryz.ntmps200
 go_wp2
 go_loopw [10,3] (fun i o wr=>∃(q l:Nat) (zs:List Bool) (Z:Option Addr) (cz:Nat),q≤n∧i=.int .i64 (q:Int)∧l=8*q∧o=.slice Z l cz∧zs.length=l∧Own wr w.heap.size 4 Z cz (zs.map Value.bool)∧vf 2 (dig d1 zs) (8*q)=vf 256 (dig d8 bs) q∧Ext w wr) (fun i _ _=>n - (intOf i).toNat)
 case atStart=>exact⟨0,0,[],_,_,by omega,rfl,rfl,rfl,rfl,⟨rfl,.inr ⟨w.heap.size,0,#[],rfl,Nat.le_refl _,heap_alloc_new w _,Nat.le_refl _,Nat.zero_le _,rfl,rfl⟩⟩,rfl,(Upd.refl _ _).alloc _⟩
 case round=>
  obtain⟨q,l,zs,Z,cz,hq,rfl,hlq,rfl,hzl,hO,hv,hE⟩:=hrel
  subst hlq
  have Hzl:=hide hzl
  have Hv:=hide hv
  clear hzl hv
  by_cases hqn:q<n
  · have hqI:(q:Int)<(n:Int):=by omega
    obtain⟨V,hV⟩:∃V,V=vf 256 (dig d8 bs) q:=⟨_,rfl⟩
    have hHV:=hide hV
    have hv0:=Hv.out
    rw[←hV]at hv0
    have Hv0:=hide hv0
    clear hV hv0 Hv
    obtain⟨x,hx⟩:∃x,gat bs q=x:=⟨_,rfl⟩
    have Hx:=hide hx
    obtain⟨b1,o1,rfl,hbl1,hcells⟩:=(HS.out.ext hE).open_ (by rw[Hn.out];omega)
    have hcell:=hcells q (by rw[Hn.out];omega)
    rw[hx]at hcell
    have hcell':wr.cell? ⟨b1,o1+q,none⟩=some (.int .u8 ((d8 x:Nat):Int)):=hcell
    have hd8:d8 x≤255:=by have:=d8_lt x;omega
    clear hx hcells hcell
    go_wp2_with fail
    go_loopw [6,5,3] (fun i xv o wr=>∃(m v l:Nat) (zs:List Bool) (Z:Option Addr) (cz:Nat),m≤8∧i=.int .i64 (m:Nat)∧xv=.int .u8 (v:Int)∧v=d8 x / 2^m∧l=8*q+m∧o=.slice Z l cz∧zs.length=8*q+m∧Own wr w.heap.size 4 Z cz (zs.map Value.bool)∧vf 2 (dig d1 zs) (8*q+m)=V+d8 x % 2^m*2^(8*q)∧Ext w wr) (fun i _ _ _=>8 - (intOf i).toNat)
    case atStart=>exact⟨0,d8 x,_,zs,Z,cz,by omega,rfl,rfl,by rw[Nat.pow_zero,Nat.div_one],rfl,rfl,Hzl.out,hO,by rw[Nat.pow_zero,Nat.mod_one,Nat.zero_mul];exact Hv0.out,hE⟩
    case round=>
     clear hO hE Hzl Hv0 hcell'
     obtain⟨m,v,l,zs,Z,cz,hm,rfl,rfl,hvv,hlm,rfl,hzl,hO,hv,hE⟩:=hrel
     subst hlm
     have hvb:v≤255:=by rw[hvv];exact Nat.le_trans (Nat.div_le_self _ _) hd8
     have hvI:(v:Int)≤255:=by omega
     have Hzl:=hide hzl
     have Hv:=hide hv
     have Hvv:=hide hvv
     have Hw8:Hid (n8 (w8 ((v:Int) / 2))=((v / 2:Nat):Int)):=hide (by
      rw[show(v:Int) / 2=((v / 2:Nat):Int) from rfl,n8_d,d8_w8,Nat.mod_eq_of_lt (by omega)])
     clear hzl hv hvv hvb
     by_cases hm8:m<8
     · have hmI:(m:Int)<8:=by omega
       rcases Nat.mod_two_eq_zero_or_one v with hp | hp
       · skip
         have hs:=hide (rof_bit (b:=false) Hzl.out Hv.out (by rw[←Hvv.out,hp];rfl))
         have hpi:=par_nat hp
         clear hp
         go_wp2_with (at_builtin;go_must (refine wpList_apd Value.bool one1 Tryz.n_el1 zs [false] (zs++[false]) (8*q+m+1) rfl (by rw[List.length_append,Hzl.out];rfl) (by omega) (by unfold maxLen;omega) rfl rfl rfl Hzl.out (hO.ext ((Upd.refl _ _).alloc _)) rfl rfl (Sl.new Value.bool _ _ [false]) (by have:=hE.size;simp;omega) ?_);intro Z2 c2 w3 hO3 hU3 hin3)
         go_roundw
         case rel=>exact⟨m+1,v / 2,_,zs++[false],_,_,by omega,by go_num,congrArg (Value.int IntKind.u8) Hw8.out,by rw[Hvv.out,Nat.pow_succ,Nat.div_div_eq_div_mul],rfl,rfl,by rw[List.length_append,Hzl.out];rfl,hO3,hs.out,Upd.fresh hU3 (hE.alloc _) (fun i hi=>(hO.in_ hi).1)⟩
         case measure=>simp[intOf];omega
       · skip
         have hs:=hide (rof_bit (b:=true) Hzl.out Hv.out (by rw[←Hvv.out,hp];rfl))
         have hpi:=par_nat hp
         clear hp
         go_wp2_with (at_builtin;go_must (refine wpList_apd Value.bool one1 Tryz.n_el1 zs [true] (zs++[true]) (8*q+m+1) rfl (by rw[List.length_append,Hzl.out];rfl) (by omega) (by unfold maxLen;omega) rfl rfl rfl Hzl.out (hO.ext ((Upd.refl _ _).alloc _)) rfl rfl (Sl.new Value.bool _ _ [true]) (by have:=hE.size;simp;omega) ?_);intro Z2 c2 w3 hO3 hU3 hin3)
         go_roundw
         case rel=>exact⟨m+1,v / 2,_,zs++[true],_,_,by omega,by go_num,congrArg (Value.int IntKind.u8) Hw8.out,by rw[Hvv.out,Nat.pow_succ,Nat.div_div_eq_div_mul],rfl,rfl,by rw[List.length_append,Hzl.out];rfl,hO3,hs.out,Upd.fresh hU3 (hE.alloc _) (fun i hi=>(hO.in_ hi).1)⟩
         case measure=>simp[intOf];omega
     · obtain rfl:m=8:=by omega
       have hfin:=low_byte (zs:=zs) (bs:=bs) Hn.out hqn (by rw[Hv.out,hHV.out,←Hx.out])
       have Hfin:=hide hfin
       clear hfin
       go_wp2_with fail
       go_roundw
       case rel=>exact⟨q+1,_,zs,_,_,by omega,by go_num,rfl,rfl,Hzl.out,hO,Hfin.out,hE⟩
       case measure=>simp[intOf];omega
  · obtain rfl:q=n:=by omega
    go_wp2_with fail
    refine(rtrim_any Z (8*q) cz zs _ Hzl.out (by have:=hO.cap.1;rw[List.length_map,Hzl.out]at this;exact this) hO.cap.2 hO.sl).mono ?_
    rintro e w4 ⟨A4,l4,c4,rfl,hV4,hU4⟩
    go_wp2
    go_ret
    exact⟨_,_,_,rfl,hV4.of_eq (by unfold numOf;rw[leN_vf,Hzl.out,Hv.out,Hn.out]),hE.trans hU4⟩
theorem tag_bit {zs:List (BitVec 8)} {xs:List Bool} {size i:Nat} (hz:zs.length=size) (hi:i / 8<size) (h:leN zs=vf 2 (dig d1 xs) i) (hx:dig d1 xs i=1):
 leN (zs.set (i / 8) (w8 (n8 (gat zs (i / 8))+n8 (w8 (2^(i % 8))))))=vf 2 (dig d1 xs) (i+1):=by
 rw[leN_vf]at h ⊢
 rw[List.length_set,hz]
 rw[hz]at h
 have hp:=part_digit (β:=256) (γ:=2) (m:=8) (N:=size) (i:=i) (l:=dig d8 zs) (by decide) (by decide) (by decide) (fun j _=>d8_lt _) h (vf_lt fun i _=>d1_lt _) hi
 have hb:dig d8 zs (i / 8)=d8 (gat zs (i / 8)):=rfl
 have h8:2^(i % 8)≤2^7:=Nat.pow_le_pow_right (by omega) (by omega)
 have h28:(2:Nat)^7=128:=rfl
 have hc:vf 256 (dig d8 (zs.set (i / 8) (w8 (n8 (gat zs (i / 8))+n8 (w8 (2^(i % 8))))))) size=vf 256 (fun j=>if j=i / 8 then dig d8 zs j+1*2^(i % 8) else dig d8 zs j) size:=vf_congr fun j hj=>by
   rw[dig_set (by omega)]
   by_cases e:j=i / 8
   · subst e
     rw[if_pos rfl,if_pos rfl]
     have e1:n8 (w8 ((2:Int)^(i % 8)))=((2^(i % 8):Nat):Int):=by
      rw[show(2:Int)^(i % 8)=((2^(i % 8):Nat):Int) by simp,n8_d,d8_w8,Nat.mod_eq_of_lt (by omega)]
     have hlt:d8 (gat zs (i / 8))+2^(i % 8)<256:=by
      rw[hb]at hp
      have h9:i % 8+1≤8:=by omega
      have h10:2^(i % 8+1)≤2^8:=Nat.pow_le_pow_right (by omega) h9
      rw[Nat.pow_succ]at h10
      omega
     rw[e1,n8_d,show(((d8 (gat zs (i / 8)):Nat):Int)+((2^(i % 8):Nat):Int))=((d8 (gat zs (i / 8))+2^(i % 8):Nat):Int) by omega,d8_w8,Nat.mod_eq_of_lt hlt,Nat.one_mul,hb]
   · rw[if_neg e,if_neg e]
 rw[hc]
 exact part_step (γ:=2) (m:=8) (l:=dig d8 zs) (f:=dig d1 xs) (d:=1) (by decide) h hi hx rfl
theorem tag_low {zs:List (BitVec 8)} {S:Nat} (hz:zs.length=16) (h:leN zs=S % 2^128) (hS:S<256^18):zs=(toB S 18).reverse.take 16:=by
 have hl:((toB S 18).reverse.take 16).length=16:=by rw[List.length_take,List.length_reverse,toB_length];rfl
 have e:leN (toB S 18).reverse=S:=by unfold leN;rw[List.reverse_reverse];exact ofB_toB _ _ hS
 have e2:=leN_append ((toB S 18).reverse.take 16) ((toB S 18).reverse.drop 16)
 rw[List.take_append_drop,e,hl]at e2
 have hlt:=leN_lt ((toB S 18).reverse.take 16)
 rw[hl]at hlt
 have e3:leN ((toB S 18).reverse.take 16)=S % 2^128:=by
  have e6:(256:Nat)^16=2^128:=by decide
  rw[e6]at e2 hlt
  have e7:=congrArg (· % 2^128) e2
  simp only[Nat.add_mul_mod_self_right]at e7
  rw[Nat.mod_eq_of_lt hlt]at e7
  exact e7.symm
 have e4:ofB zs.reverse=ofB ((toB S 18).reverse.take 16).reverse:=h.trans e3.symm
 have e5:=ofB_inj (by rw[List.length_reverse,List.length_reverse,hz,hl]) e4
 exact List.reverse_inj.1 e5
end Go.Proofs.YtdohmikoafkniaaGreat
