/- Merged: NatF NatG NatS NatT NatH NatI. -/
import Derived.Test.YtbhhjfhepkbfgaaGnNatX
import Derived.RangeFuncNested
import Derived.RangeFuncBound
import Derived.RangeFuncBox
import Derived.RangeFuncLeaves
import Derived.RangeFuncWrites
import Derived.Shelf.Abstract
import Derived.OwnWalkIn
import Derived.TacticsInMore
import Derived.LoopNIn
import Derived.LoopIn
namespace Go.Proofs.Ytbhhjfhepkbfgaa
set_option linter.unusedSimpArgs false
set_option linter.unusedVariables false
/- Sums of numbers, walked: Add. -/
section
open Go.RowKit
open Nt
attribute [local go_sem] by32 wrap_w32
theorem add_next {xs ys zs:List (BitVec 32)} {k c s:Nat} (hz:zs.length=k) (h:vf W32 (dig d32 zs) k+c*W32^k=vf W32 (dig d32 xs) k+vf W32 (dig d32 ys) k) (hs:c+dig d32 xs k+dig d32 ys k=s):
 vf W32 (dig d32 (zs++[w32 s])) (k+1)+s / W32*W32^(k+1)=vf W32 (dig d32 xs) (k+1)+vf W32 (dig d32 ys) (k+1):=by
 subst hs
 refine add_step (c:=c) ?_ ?_
 · rw[vf_append_left (by omega)];exact h
 · rw[dig_append_right (by omega),hz,Nat.sub_self]
   exact d32_w32 _
theorem add_last {xs ys zs:List (BitVec 32)} {k c:Nat} (hz:zs.length=k) (h:vf W32 (dig d32 zs) k+c*W32^k=vf W32 (dig d32 xs) k+vf W32 (dig d32 ys) k) (hx:xs.length=k) (hy:ys.length≤k) (hc:c≤1):
 numOf W32 d32 (zs++[w32 c])=numOf W32 d32 xs+numOf W32 d32 ys:=by
 unfold numOf
 rw[List.length_append,hz,List.length_singleton,vf_succ,vf_append_left (by omega),dig_append_right (by omega),hz,Nat.sub_self]
 have e:dig d32 [w32 (c:Int)] 0=c:=by
  show d32 (w32 (c:Int))=c
  rw[d32_w32];unfold W32;omega
 rw[e,h,hx,vf_out (by rfl) hy]
 rfl
set_option maxRecDepth 100000 in
set_option maxHeartbeats 1000000 in
theorem add_any (va vb:Value) (a b k:Nat) (w:World) (hVa:NatV w va a) (hVb:NatV w vb b) (hFa:Fit k a) (hFb:Fit k b) (hk:k≤1000000):
 Calls Try.prog 36 #[va,vb] w (RetN w (a+b)):=by
 obtain⟨A,la,ca,xs,rfl,hlx,hca,hma,hSa,hTa,hna⟩:=hVa.open_
 obtain⟨B,lb,cb,ys,rfl,hly,hcb,hmb,hSb,hTb,hnb⟩:=hVb.open_
 have hla:la≤k:=hlx▸Fit.len (hlx▸hTa) hna hFa
 have hlb:lb≤k:=hly▸Fit.len (hly▸hTb) hnb hFb
 have HSa:=hide hSa
 have HSb:=hide hSb
 have Hna:=hide hna
 have Hnb:=hide hnb
 have HLa:=hide hlx
 have HLb:=hide hly
 clear hVa hVb hTa hTb hSa hSb hna hnb hFa hFb hlx hly
 by_cases hlt:la<lb
 · have hle:la≤lb:=by omega
   go_enter Try.func36,Try.ntmps36
   go_wp2_with (at_make;go_must (refine wpList_mk0 _ _ _ Try.n_el32 rfl rfl (lb+1) rfl rfl (by omega) (by omega) (by unfold maxLen;omega) (B:=w.heap.size+1+1+1) (by simp) ?_);intro g w2 hO hg hU;have hB1:Box w2 w.heap.size 33 (.slice B lb cb):=(by repeat (first | (with_reducible refine Box.new_at ?_;(simp;done)) | (with_reducible assumption) | (with_reducible refine Box.alloc ?_ _) | (with_reducible refine Box.drew ?_) | (with_reducible refine Box.ext ?_ (by with_reducible assumption))));have hB2:Box w2 (w.heap.size+1) 33 (.slice A la ca):=(by repeat (first | (with_reducible refine Box.new_at ?_;(simp;done)) | (with_reducible assumption) | (with_reducible refine Box.alloc ?_ _) | (with_reducible refine Box.drew ?_) | (with_reducible refine Box.ext ?_ (by with_reducible assumption))));have hB3:Box w2 (w.heap.size+1+1) 33 (.slice none 0 0):=(by repeat (first | (with_reducible refine Box.new_at ?_;(simp;done)) | (with_reducible assumption) | (with_reducible refine Box.alloc ?_ _) | (with_reducible refine Box.drew ?_) | (with_reducible refine Box.ext ?_ (by with_reducible assumption))));have hE2:Ext w w2:=(by repeat (first | (with_reducible exact Upd.refl _ _) | (with_reducible assumption) | (refine Upd.setCell ?_ (.inr (by first | exact Nat.le_refl _ | (dsimp only;omega) | (simp;done) | (simp;omega))) _) | (with_reducible refine Upd.alloc ?_ _) | (with_reducible refine Upd.drew ?_) | (with_reducible refine Upd.trans ?_ (by with_reducible assumption))));clear hU;have c1:=hB1.cell;have c2:=hB2.cell)
   obtain rfl:g=w.heap.size+1+1+1:=by rw[hg];simp
   clear hg c1 c2
   go_loopw [26,6,5] (fun i cr v wr=>∃(j cy:Nat) (zs:List (BitVec 32)) (Z:Option Addr) (cz:Nat),j≤lb∧i=.int .i64 j∧cr=.int .u64 (cy:Nat)∧cy≤1∧v=.slice Z j cz∧zs.length=j∧Own wr (w.heap.size+1+1+1) 71 Z cz (zs.map by32)∧vf W32 (dig d32 zs) j+cy*W32^j=vf W32 (dig d32 ys) j+vf W32 (dig d32 xs) j∧Box wr w.heap.size 33 (.slice B lb cb)∧Box wr (w.heap.size+1) 33 (.slice A la ca)∧Box wr (w.heap.size+1+1) 33 (.slice none 0 0)∧Ext w wr) (fun i _ _ _=>lb - (intOf i).toNat)
   case atStart=>exact⟨0,0,[],_,_,Nat.zero_le _,rfl,rfl,Nat.zero_le _,rfl,rfl,hO,rfl,hB1,hB2,hB3,hE2⟩
   case round=>
    clear hO hB1 hB2 hB3 hE2
    obtain⟨j,cy,zs,Z,cz,hj,rfl,rfl,hcy,rfl,hzl,hO,hv,hB1,hB2,hB3,hE⟩:=hrel
    have Hzl:=hide hzl
    have Hv:=hide hv
    clear hzl hv
    have c1:=hB1.cell
    have c2:=hB2.cell
    by_cases hjl:j<lb
    · have hxb:=n32_bd (gat ys j)
      obtain⟨hx1,hx2⟩:=hxb
      obtain⟨b1,o1,hb1,hbl1,hcells⟩:=(HSb.out.ext hE).open_ (by rw[HLb.out];omega)
      have hcell:=hcells j (by rw[HLb.out];omega)
      clear hcells
      subst hb1
      by_cases hjm:j<la
      · obtain⟨hy1,hy2⟩:=n32_bd (gat xs j)
        obtain⟨b2,o2,hb2,hbl2,hcells⟩:=(HSa.out.ext hE).open_ (by rw[HLa.out];omega)
        have hcell2:=hcells j (by rw[HLa.out];omega)
        clear hcells
        subst hb2
        go_wp2_with (at_builtin;go_must (refine wpList_apd by32 one32 Try.n_el32 zs [w32 ((cy:Int)+n32 (gat ys j)+n32 (gat xs j))] (zs++[w32 ((cy:Int)+n32 (gat ys j)+n32 (gat xs j))]) (j+1) rfl (by rw[List.length_append,Hzl.out];rfl) (by omega) (by unfold maxLen;omega) rfl rfl rfl Hzl.out (hO.ext ((Upd.refl _ _).alloc _)) rfl rfl (Sl.new by32 _ _ [w32 ((cy:Int)+n32 (gat ys j)+n32 (gat xs j))]) (by have:=hE.size;have:=hB3.lt;simp;omega) ?_);intro Z2 c2 w3 hO3 hU3 hin3)
        go_roundw
        case rel=>exact⟨j+1,(cy+d32 (gat ys j)+d32 (gat xs j)) / W32,_,_,_,by omega,by go_num,rfl,by have:=d32_lt (gat ys j);have:=d32_lt (gat xs j);unfold W32 at*;omega,rfl,by rw[List.length_append,Hzl.out];rfl,hO3,add_next (s:=cy+d32 (gat ys j)+d32 (gat xs j)) Hzl.out Hv.out rfl,(hB1.alloc _).upd hU3 (hO.ne_box hB1 (by decide)),(hB2.alloc _).upd hU3 (hO.ne_box hB2 (by decide)),(hB3.alloc _).upd hU3 (hO.ne_box hB3 (by decide)),Upd.fresh hU3 (hE.alloc _) (fun i hi=>by have:=(hO.in_ hi).1;omega)⟩
        case measure=>simp[intOf];omega
      · go_wp2_with (at_builtin;go_must (refine wpList_apd by32 one32 Try.n_el32 zs [w32 ((cy:Int)+n32 (gat ys j))] (zs++[w32 ((cy:Int)+n32 (gat ys j))]) (j+1) rfl (by rw[List.length_append,Hzl.out];rfl) (by omega) (by unfold maxLen;omega) rfl rfl rfl Hzl.out (hO.ext ((Upd.refl _ _).alloc _)) rfl rfl (Sl.new by32 _ _ [w32 ((cy:Int)+n32 (gat ys j))]) (by have:=hE.size;have:=hB3.lt;simp;omega) ?_);intro Z2 c2 w3 hO3 hU3 hin3)
        go_roundw
        case rel=>exact⟨j+1,(cy+d32 (gat ys j)+0) / W32,_,_,_,by omega,by go_num,rfl,by have:=d32_lt (gat ys j);unfold W32 at*;omega,rfl,by rw[List.length_append,Hzl.out];rfl,hO3,add_next (s:=cy+d32 (gat ys j)+0) Hzl.out Hv.out (by rw[dig_out (xs:=xs) rfl (by rw[HLa.out];omega)];rfl),(hB1.alloc _).upd hU3 (hO.ne_box hB1 (by decide)),(hB2.alloc _).upd hU3 (hO.ne_box hB2 (by decide)),(hB3.alloc _).upd hU3 (hO.ne_box hB3 (by decide)),Upd.fresh hU3 (hE.alloc _) (fun i hi=>by have:=(hO.in_ hi).1;omega)⟩
        case measure=>simp[intOf];omega
    · obtain rfl:j=lb:=by omega
      have cf3:=hB3.cell
      go_wp2_with (first
       | (at_builtin;go_must (refine wpList_apd by32 one32 Try.n_el32 zs [w32 (cy:Int)] (zs++[w32 (cy:Int)]) (j+1) rfl (by rw[List.length_append,Hzl.out];rfl) (by omega) (by unfold maxLen;omega) rfl rfl rfl Hzl.out (hO.ext ((Upd.refl _ _).alloc _)) rfl rfl (Sl.new by32 _ _ [w32 (cy:Int)]) (by have:=hE.size;have:=hB3.lt;simp;omega) ?_);intro Z2 c2 w3 hO3 hU3 hin3;have hB4:=(hB3.alloc (.cells #[.int .u32 (n32 (w32 (cy:Int)))] 71)).upd hU3 (hO.ne_box hB3 (by decide));have hE3:=Upd.fresh hU3 (hE.alloc _) (fun i hi=>by have:=(hO.in_ hi).1;omega))
       | (go_at_call 25;refine(trim_any Z2 (j+1) c2 (zs++[w32 (cy:Int)]) w3 (by rw[List.length_append,Hzl.out];rfl) (by have:=hO3.cap.1;simp[Hzl.out]at this;omega) hO3.cap.2 hO3.sl).mono ?_;rintro e w4 ⟨A4,l4,c4,rfl,hV4,hU4⟩;have hB5:=hB4.ext hU4;have c5:=hB5.cell;have f5:=hB5.frozen))
      exact bodyPost_ret (v:=.agg #[.slice A4 l4 c4]) (by simp[results,Try.results36,go_sem,c5]) rfl ⟨_,_,_,rfl,(hV4.of_eq ((add_last Hzl.out Hv.out HLb.out (by rw[HLa.out];omega) hcy).trans (by rw[Hna.out,Hnb.out,Nat.add_comm]))).far c5,(by repeat (first | (with_reducible exact Upd.refl _ _) | (with_reducible assumption) | (refine Upd.setCell ?_ (.inr (by first | exact Nat.le_refl _ | (dsimp only;omega) | (simp;done) | (simp;omega))) _) | (with_reducible refine Upd.alloc ?_ _) | (with_reducible refine Upd.drew ?_) | (with_reducible refine Upd.trans ?_ (by with_reducible assumption))))⟩
 · have hle:lb≤la:=by omega
   go_enter Try.func36,Try.ntmps36
   go_wp2_with (at_make;go_must (refine wpList_mk0 _ _ _ Try.n_el32 rfl rfl (la+1) rfl rfl (by omega) (by omega) (by unfold maxLen;omega) (B:=w.heap.size+1+1+1) (by simp) ?_);intro g w2 hO hg hU;have hB1:Box w2 w.heap.size 33 (.slice A la ca):=(by repeat (first | (with_reducible refine Box.new_at ?_;(simp;done)) | (with_reducible assumption) | (with_reducible refine Box.alloc ?_ _) | (with_reducible refine Box.drew ?_) | (with_reducible refine Box.ext ?_ (by with_reducible assumption))));have hB2:Box w2 (w.heap.size+1) 33 (.slice B lb cb):=(by repeat (first | (with_reducible refine Box.new_at ?_;(simp;done)) | (with_reducible assumption) | (with_reducible refine Box.alloc ?_ _) | (with_reducible refine Box.drew ?_) | (with_reducible refine Box.ext ?_ (by with_reducible assumption))));have hB3:Box w2 (w.heap.size+1+1) 33 (.slice none 0 0):=(by repeat (first | (with_reducible refine Box.new_at ?_;(simp;done)) | (with_reducible assumption) | (with_reducible refine Box.alloc ?_ _) | (with_reducible refine Box.drew ?_) | (with_reducible refine Box.ext ?_ (by with_reducible assumption))));have hE2:Ext w w2:=(by repeat (first | (with_reducible exact Upd.refl _ _) | (with_reducible assumption) | (refine Upd.setCell ?_ (.inr (by first | exact Nat.le_refl _ | (dsimp only;omega) | (simp;done) | (simp;omega))) _) | (with_reducible refine Upd.alloc ?_ _) | (with_reducible refine Upd.drew ?_) | (with_reducible refine Upd.trans ?_ (by with_reducible assumption))));clear hU;have c1:=hB1.cell;have c2:=hB2.cell)
   obtain rfl:g=w.heap.size+1+1+1:=by rw[hg];simp
   clear hg c1 c2
   go_loopw [26,6,5] (fun i cr v wr=>∃(j cy:Nat) (zs:List (BitVec 32)) (Z:Option Addr) (cz:Nat),j≤la∧i=.int .i64 j∧cr=.int .u64 (cy:Nat)∧cy≤1∧v=.slice Z j cz∧zs.length=j∧Own wr (w.heap.size+1+1+1) 71 Z cz (zs.map by32)∧vf W32 (dig d32 zs) j+cy*W32^j=vf W32 (dig d32 xs) j+vf W32 (dig d32 ys) j∧Box wr w.heap.size 33 (.slice A la ca)∧Box wr (w.heap.size+1) 33 (.slice B lb cb)∧Box wr (w.heap.size+1+1) 33 (.slice none 0 0)∧Ext w wr) (fun i _ _ _=>la - (intOf i).toNat)
   case atStart=>exact⟨0,0,[],_,_,Nat.zero_le _,rfl,rfl,Nat.zero_le _,rfl,rfl,hO,rfl,hB1,hB2,hB3,hE2⟩
   case round=>
    clear hO hB1 hB2 hB3 hE2
    obtain⟨j,cy,zs,Z,cz,hj,rfl,rfl,hcy,rfl,hzl,hO,hv,hB1,hB2,hB3,hE⟩:=hrel
    have Hzl:=hide hzl
    have Hv:=hide hv
    clear hzl hv
    have c1:=hB1.cell
    have c2:=hB2.cell
    by_cases hjl:j<la
    · have hxb:=n32_bd (gat xs j)
      obtain⟨hx1,hx2⟩:=hxb
      obtain⟨b1,o1,hb1,hbl1,hcells⟩:=(HSa.out.ext hE).open_ (by rw[HLa.out];omega)
      have hcell:=hcells j (by rw[HLa.out];omega)
      clear hcells
      subst hb1
      by_cases hjm:j<lb
      · obtain⟨hy1,hy2⟩:=n32_bd (gat ys j)
        obtain⟨b2,o2,hb2,hbl2,hcells⟩:=(HSb.out.ext hE).open_ (by rw[HLb.out];omega)
        have hcell2:=hcells j (by rw[HLb.out];omega)
        clear hcells
        subst hb2
        go_wp2_with (at_builtin;go_must (refine wpList_apd by32 one32 Try.n_el32 zs [w32 ((cy:Int)+n32 (gat xs j)+n32 (gat ys j))] (zs++[w32 ((cy:Int)+n32 (gat xs j)+n32 (gat ys j))]) (j+1) rfl (by rw[List.length_append,Hzl.out];rfl) (by omega) (by unfold maxLen;omega) rfl rfl rfl Hzl.out (hO.ext ((Upd.refl _ _).alloc _)) rfl rfl (Sl.new by32 _ _ [w32 ((cy:Int)+n32 (gat xs j)+n32 (gat ys j))]) (by have:=hE.size;have:=hB3.lt;simp;omega) ?_);intro Z2 c2 w3 hO3 hU3 hin3)
        go_roundw
        case rel=>exact⟨j+1,(cy+d32 (gat xs j)+d32 (gat ys j)) / W32,_,_,_,by omega,by go_num,rfl,by have:=d32_lt (gat xs j);have:=d32_lt (gat ys j);unfold W32 at*;omega,rfl,by rw[List.length_append,Hzl.out];rfl,hO3,add_next (s:=cy+d32 (gat xs j)+d32 (gat ys j)) Hzl.out Hv.out rfl,(hB1.alloc _).upd hU3 (hO.ne_box hB1 (by decide)),(hB2.alloc _).upd hU3 (hO.ne_box hB2 (by decide)),(hB3.alloc _).upd hU3 (hO.ne_box hB3 (by decide)),Upd.fresh hU3 (hE.alloc _) (fun i hi=>by have:=(hO.in_ hi).1;omega)⟩
        case measure=>simp[intOf];omega
      · go_wp2_with (at_builtin;go_must (refine wpList_apd by32 one32 Try.n_el32 zs [w32 ((cy:Int)+n32 (gat xs j))] (zs++[w32 ((cy:Int)+n32 (gat xs j))]) (j+1) rfl (by rw[List.length_append,Hzl.out];rfl) (by omega) (by unfold maxLen;omega) rfl rfl rfl Hzl.out (hO.ext ((Upd.refl _ _).alloc _)) rfl rfl (Sl.new by32 _ _ [w32 ((cy:Int)+n32 (gat xs j))]) (by have:=hE.size;have:=hB3.lt;simp;omega) ?_);intro Z2 c2 w3 hO3 hU3 hin3)
        go_roundw
        case rel=>exact⟨j+1,(cy+d32 (gat xs j)+0) / W32,_,_,_,by omega,by go_num,rfl,by have:=d32_lt (gat xs j);unfold W32 at*;omega,rfl,by rw[List.length_append,Hzl.out];rfl,hO3,add_next (s:=cy+d32 (gat xs j)+0) Hzl.out Hv.out (by rw[dig_out (xs:=ys) rfl (by rw[HLb.out];omega)];rfl),(hB1.alloc _).upd hU3 (hO.ne_box hB1 (by decide)),(hB2.alloc _).upd hU3 (hO.ne_box hB2 (by decide)),(hB3.alloc _).upd hU3 (hO.ne_box hB3 (by decide)),Upd.fresh hU3 (hE.alloc _) (fun i hi=>by have:=(hO.in_ hi).1;omega)⟩
        case measure=>simp[intOf];omega
    · obtain rfl:j=la:=by omega
      have cf3:=hB3.cell
      go_wp2_with (first
       | (at_builtin;go_must (refine wpList_apd by32 one32 Try.n_el32 zs [w32 (cy:Int)] (zs++[w32 (cy:Int)]) (j+1) rfl (by rw[List.length_append,Hzl.out];rfl) (by omega) (by unfold maxLen;omega) rfl rfl rfl Hzl.out (hO.ext ((Upd.refl _ _).alloc _)) rfl rfl (Sl.new by32 _ _ [w32 (cy:Int)]) (by have:=hE.size;have:=hB3.lt;simp;omega) ?_);intro Z2 c2 w3 hO3 hU3 hin3;have hB4:=(hB3.alloc (.cells #[.int .u32 (n32 (w32 (cy:Int)))] 71)).upd hU3 (hO.ne_box hB3 (by decide));have hE3:=Upd.fresh hU3 (hE.alloc _) (fun i hi=>by have:=(hO.in_ hi).1;omega))
       | (go_at_call 25;refine(trim_any Z2 (j+1) c2 (zs++[w32 (cy:Int)]) w3 (by rw[List.length_append,Hzl.out];rfl) (by have:=hO3.cap.1;simp[Hzl.out]at this;omega) hO3.cap.2 hO3.sl).mono ?_;rintro e w4 ⟨A4,l4,c4,rfl,hV4,hU4⟩;have hB5:=hB4.ext hU4;have c5:=hB5.cell;have f5:=hB5.frozen))
      exact bodyPost_ret (v:=.agg #[.slice A4 l4 c4]) (by simp[results,Try.results36,go_sem,c5]) rfl ⟨_,_,_,rfl,(hV4.of_eq ((add_last Hzl.out Hv.out HLa.out (by rw[HLb.out];omega) hcy).trans (by rw[Hna.out,Hnb.out]))).far c5,(by repeat (first | (with_reducible exact Upd.refl _ _) | (with_reducible assumption) | (refine Upd.setCell ?_ (.inr (by first | exact Nat.le_refl _ | (dsimp only;omega) | (simp;done) | (simp;omega))) _) | (with_reducible refine Upd.alloc ?_ _) | (with_reducible refine Upd.drew ?_) | (with_reducible refine Upd.trans ?_ (by with_reducible assumption))))⟩
end
/- Products of numbers, walked: Mul. -/
section
open Go.RowKit
open Nt
attribute [local go_sem] by32 wrap_w32
theorem prod_cast {c:Nat} {x y z:BitVec 32}:(c:Int)+(n32 x*n32 y+n32 z)=((c+(d32 x*d32 y+d32 z):Nat):Int):=by
 rw[n32_d,n32_d,n32_d];simp
theorem prod_bd (x y:BitVec 32):0≤n32 x*n32 y∧n32 x*n32 y≤18446744065119617025:=by
 obtain⟨hx1,hx2⟩:=n32_bd x
 obtain⟨hy1,hy2⟩:=n32_bd y
 refine⟨Int.mul_nonneg hx1 hy1,?_⟩
 have h1:n32 x*n32 y≤4294967295*n32 y:=Int.mul_le_mul_of_nonneg_right hx2 hy1
 omega
theorem dig_set_fn {zs:List (BitVec 32)} {j:Nat} {s:Nat} (hj:j<zs.length):dig d32 (zs.set j (w32 s))=fun i=>if i=j then s % W32 else dig d32 zs i:=by
  funext i;rw[dig_set hj,d32_w32]
theorem mul_next {xs ys zs:List (BitVec 32)} {N i k c V:Nat} (hz:zs.length=N) (hN:i+k<N) (h:vf W32 (dig d32 zs) N+c*W32^(i+k)=V+d32 (gat xs i)*W32^i*vf W32 (dig d32 ys) k):
 vf W32 (dig d32 (zs.set (i+k) (w32 ((c:Int)+(n32 (gat xs i)*n32 (gat ys k)+n32 (gat zs (i+k))))))) N+(c+(d32 (gat xs i)*d32 (gat ys k)+d32 (gat zs (i+k)))) / W32*W32^(i+(k+1))=V+d32 (gat xs i)*W32^i*vf W32 (dig d32 ys) (k+1):=by
 rw[prod_cast]
 exact mul_step (b:=dig d32 ys) (o:=dig d32 zs) hN h (dig_set_fn (by omega))
theorem mul_row {xs ys zs:List (BitVec 32)} {N i lb c V:Nat} (hz:zs.length=N) (hN:i+lb<N) (hc:c<W32) (h0:dig d32 zs (i+lb)=0) (hV:V=vf W32 (dig d32 xs) i*vf W32 (dig d32 ys) lb)
 (h:vf W32 (dig d32 zs) N+c*W32^(i+lb)=V+d32 (gat xs i)*W32^i*vf W32 (dig d32 ys) lb):vf W32 (dig d32 (zs.set (i+lb) (w32 (c:Int)))) N=vf W32 (dig d32 xs) (i+1)*vf W32 (dig d32 ys) lb:=by
 have hs:=vf_set (β:=W32) (f:=dig d32 zs) (v:=c) hN
 rw[h0,Nat.zero_mul,Nat.add_zero]at hs
 rw[dig_set_fn (by omega),Nat.mod_eq_of_lt hc,hs,h,hV,vf_succ,Nat.add_mul]
 rfl
set_option maxRecDepth 100000 in
set_option maxHeartbeats 1000000 in
theorem mul_any (va vb:Value) (a b k:Nat) (w:World) (hVa:NatV w va a) (hVb:NatV w vb b) (hFa:Fit k a) (hFb:Fit k b) (hk:k≤1000000):
 Calls Try.prog 35 #[va,vb] w (RetN w (a*b)):=by
 obtain⟨A,la,ca,xs,rfl,hlx,hca,hma,hSa,hTa,hna⟩:=hVa.open_
 obtain⟨B,lb,cb,ys,rfl,hly,hcb,hmb,hSb,hTb,hnb⟩:=hVb.open_
 have hla:la≤k:=hlx▸Fit.len (hlx▸hTa) hna hFa
 have hlb:lb≤k:=hly▸Fit.len (hly▸hTb) hnb hFb
 have hma':ca≤9223372036854775807:=by unfold maxLen at hma;omega
 have HSa:=hide hSa
 have HSb:=hide hSb
 have Hna:=hide hna
 have Hnb:=hide hnb
 have HLa:=hide hlx
 have HLb:=hide hly
 obtain⟨N,hN⟩:∃N,N=la+lb:=⟨_,rfl⟩
 have HN:=hide hN
 have hNi:(la:Int)+(lb:Int)=(N:Int):=by omega
 have hN2:N≤2000000:=by omega
 have HNi:=hide hNi
 clear hVa hVb hTa hTb hSa hSb hna hnb hFa hFb hlx hly hN hNi
 go_enter Try.func35,Try.ntmps35
 go_wp2_with (at_make;go_must (refine wpList_mk _ _ _ Try.n_el32 rfl rfl N rfl rfl HNi.out HNi.out (by omega) (by unfold maxLen;omega) by32 rfl rfl (B:=w.heap.size+1+1+1) (by simp) ?_);intro g w2 hO hg hU;have hB1:Box w2 w.heap.size 33 (.slice A la ca):=(by repeat (first | (with_reducible refine Box.new_at ?_;(simp;done)) | (with_reducible assumption) | (with_reducible refine Box.alloc ?_ _) | (with_reducible refine Box.drew ?_) | (with_reducible refine Box.ext ?_ (by with_reducible assumption))));have hB2:Box w2 (w.heap.size+1) 33 (.slice B lb cb):=(by repeat (first | (with_reducible refine Box.new_at ?_;(simp;done)) | (with_reducible assumption) | (with_reducible refine Box.alloc ?_ _) | (with_reducible refine Box.drew ?_) | (with_reducible refine Box.ext ?_ (by with_reducible assumption))));have hB3:Box w2 (w.heap.size+1+1) 33 (.slice none 0 0):=(by repeat (first | (with_reducible refine Box.new_at ?_;(simp;done)) | (with_reducible assumption) | (with_reducible refine Box.alloc ?_ _) | (with_reducible refine Box.drew ?_) | (with_reducible refine Box.ext ?_ (by with_reducible assumption))));have hE2:Ext w w2:=(by repeat (first | (with_reducible exact Upd.refl _ _) | (with_reducible assumption) | (refine Upd.setCell ?_ (.inr (by first | exact Nat.le_refl _ | (dsimp only;omega) | (simp;done) | (simp;omega))) _) | (with_reducible refine Upd.alloc ?_ _) | (with_reducible refine Upd.drew ?_) | (with_reducible refine Upd.trans ?_ (by with_reducible assumption))));clear hU;have c1:=hB1.cell;have c2:=hB2.cell)
 obtain rfl:g=w.heap.size+1+1+1:=by rw[hg];simp
 clear hg c1 c2
 go_loopw [22] (fun i wr=>∃(j:Nat) (zs:List (BitVec 32)),j≤la∧i=.int .i64 j∧zs.length=N∧Own wr (w.heap.size+1+1+1) 71 (some ⟨w.heap.size+1+1+1,0,none⟩) N (zs.map by32)∧vf W32 (dig d32 zs) N=vf W32 (dig d32 xs) j*vf W32 (dig d32 ys) lb∧(∀q,j+lb≤q→dig d32 zs q=0)∧Box wr w.heap.size 33 (.slice A la ca)∧Box wr (w.heap.size+1) 33 (.slice B lb cb)∧Box wr (w.heap.size+1+1) 33 (.slice none 0 0)∧Ext w wr) (fun i _=>la - (intOf i).toNat)
 case atStart=>exact⟨0,_,Nat.zero_le _,rfl,List.length_replicate,hO,by rw[vf_zeros (f0:=fun _=>0)];show 0=0*_;rw[Nat.zero_mul],fun q _=>dig_zeros _ _,hB1,hB2,hB3,hE2⟩
 case round=>
  clear hO hB1 hB2 hB3 hE2
  obtain⟨i,zs,hi,rfl,hzl,hO,hv,hz,hB1,hB2,hB3,hE⟩:=hrel
  have Hzl:=hide hzl
  have Hv:=hide hv
  have Hz:=hide hz
  clear hzl hv hz
  have c1:=hB1.cell
  have c2:=hB2.cell
  by_cases hil:i<la
  · obtain⟨hx1,hx2⟩:=n32_bd (gat xs i)
    obtain⟨b1,o1,rfl,hbl1,hcells⟩:=(HSa.out.ext hE).open_ (by rw[HLa.out];omega)
    have hcell:=hcells i (by rw[HLa.out];omega)
    clear hcells
    have hd:decide ((i:Int)<(la:Int))=true:=decide_eq_true (by omega)
    obtain⟨wo,rfl⟩:∃wo:World,wo=wr:=⟨_,rfl⟩
    go_wp2_with fail
    obtain⟨V,hV⟩:∃V,V=vf W32 (dig d32 zs) N:=⟨_,rfl⟩
    have HV:=hide hV
    go_loopw [30,8] (fun q cr wr=>∃(j cy:Nat) (zs:List (BitVec 32)),j≤lb∧q=.int .i64 j∧cr=.int .u64 (cy:Nat)∧cy<W32∧zs.length=N∧Own wr (w.heap.size+1+1+1) 71 (some ⟨w.heap.size+1+1+1,0,none⟩) N (zs.map by32)∧vf W32 (dig d32 zs) N+cy*W32^(i+j)=V+d32 (gat xs i)*W32^i*vf W32 (dig d32 ys) j∧(∀q,i+lb≤q→dig d32 zs q=0)∧Box wr w.heap.size 33 (.slice (some ⟨b1,o1,none⟩) la ca)∧Box wr (w.heap.size+1) 33 (.slice B lb cb)∧Box wr (w.heap.size+1+1) 33 (.slice none 0 0)∧Ext w wr) (fun i _ _=>lb - (intOf i).toNat)
    case atStart=>exact⟨0,0,zs,Nat.zero_le _,rfl,rfl,by decide,Hzl.out,hO,by rw[←hV];simp[vf],Hz.out,hB1,hB2,hB3,hE⟩
    case round=>
     clear hO hB1 hB2 hB3 hE c1 c2 hcell hV hbl1
     have Hv0:=Hv
     have HVz:Hid (V=vf W32 (dig d32 xs) i*vf W32 (dig d32 ys) lb):=hide (HV.out.trans Hv0.out)
     clear Hv Hv0 HV Hzl Hz
     obtain⟨j,cy,zs,hj,rfl,rfl,hcy,hzl,hO,hv,hz,hB1,hB2,hB3,hE⟩:=hrel
     have hcy':(cy:Int)≤4294967295:=by unfold W32 at hcy;omega
     have Hcy:=hide hcy
     have Hzl:=hide hzl
     have Hv:=hide hv
     have Hz:=hide hz
     clear hzl hv hz hcy
     have c1:=hB1.cell
     have c2:=hB2.cell
     by_cases hjl:j<lb
     · obtain⟨hp1,hp2⟩:=prod_bd (gat xs i) (gat ys j)
       obtain⟨hy1,hy2⟩:=n32_bd (gat ys j)
       obtain⟨hz1,hz2⟩:=n32_bd (gat zs (i+j))
       obtain⟨b2,o2,rfl,hbl2,hcells⟩:=(HSb.out.ext hE).open_ (by rw[HLb.out];omega)
       have hcell2:=hcells j (by rw[HLb.out];omega)
       clear hcells
       have hij:i+j<N:=by have:=HN.out;omega
       have hcz:=hO.row.cell (i:=i+j) (by rw[Hzl.out];omega)
       go_wp2_with (refine wpList_store_own by32 one32 (w32 ((cy:Int)+(n32 (gat xs i)*n32 (gat ys j)+n32 (gat zs (i+j))))) rfl rfl Try.n_sz32 rfl rfl hO (by rw[Hzl.out];omega) ?_;intro w3 hO3 hU3)
       have hn1:∀g,g<w.heap.size+1+1+1→¬only (w.heap.size+1+1+1) g:=fun g hg h=>by unfold only at h;omega
       go_roundw
       case rel=>exact⟨j+1,(cy+(d32 (gat xs i)*d32 (gat ys j)+d32 (gat zs (i+j)))) / W32,_,by omega,by go_num,by rw[prod_cast];rfl,mul_carry (by decide) Hcy.out (d32_lt _) (d32_lt _) (d32_lt _),by rw[List.length_set];exact Hzl.out,hO3,mul_next Hzl.out hij Hv.out,fun q hq=>by rw[dig_set (by rw[Hzl.out];omega),if_neg (by omega)];exact Hz.out q hq,hB1.upd hU3 (hn1 _ (by omega)),hB2.upd hU3 (hn1 _ (by omega)),hB3.upd hU3 (hn1 _ (by omega)),Upd.fresh hU3 hE (fun i hi=>by unfold only at hi;omega)⟩
       case measure=>simp[intOf];omega
     · obtain rfl:j=lb:=by omega
       have hij:i+j<N:=by have:=HN.out;omega
       go_wp2_with (refine wpList_store_own by32 one32 (w32 (cy:Int)) rfl rfl Try.n_sz32 rfl rfl hO (by rw[Hzl.out];omega) ?_;intro w3 hO3 hU3)
       have hn1:∀g,g<w.heap.size+1+1+1→¬only (w.heap.size+1+1+1) g:=fun g hg h=>by unfold only at h;omega
       go_roundw
       case rel=>exact⟨i+1,_,by omega,by go_num,by rw[List.length_set];exact Hzl.out,hO3,mul_row Hzl.out hij Hcy.out (Hz.out _ (Nat.le_refl _)) HVz.out Hv.out,fun q hq=>by rw[dig_set (by rw[Hzl.out];omega),if_neg (by omega)];exact Hz.out q (by omega),hB1.upd hU3 (hn1 _ (by omega)),hB2.upd hU3 (hn1 _ (by omega)),hB3.upd hU3 (hn1 _ (by omega)),Upd.fresh hU3 hE (fun i hi=>by unfold only at hi;omega)⟩
       case measure=>simp[intOf];omega
  · obtain rfl:i=la:=by omega
    go_wp2_with (go_at_call 25;refine(trim_any _ N N zs _ Hzl.out (Nat.le_refl _) (by unfold maxLen;omega) hO.sl).mono ?_;rintro e w4 ⟨A4,l4,c4,rfl,hV4,hU4⟩;have hB5:=hB3.ext hU4;have c5:=hB5.cell;have f5:=hB5.frozen)
    exact bodyPost_ret (v:=.agg #[.slice A4 l4 c4]) (by simp[results,Try.results35,go_sem,c5]) rfl ⟨_,_,_,rfl,(hV4.of_eq (by unfold numOf;rw[Hzl.out,Hv.out,←Hna.out,←Hnb.out];unfold numOf;rw[HLa.out,HLb.out])).far c5,(by repeat (first | (with_reducible exact Upd.refl _ _) | (with_reducible assumption) | (refine Upd.setCell ?_ (.inr (by first | exact Nat.le_refl _ | (dsimp only;omega) | (simp;done) | (simp;omega))) _) | (with_reducible refine Upd.alloc ?_ _) | (with_reducible refine Upd.drew ?_) | (with_reducible refine Upd.trans ?_ (by with_reducible assumption))))⟩
end
/- A row of words shifted, walked: shift. -/
section
open Go.RowKit
open Nt
attribute [local go_sem] by32 wrap_w32 or_u32
theorem quo_cast' {s:Nat}:(s:Int) / 4294967296=((s / W32:Nat):Int):=rfl
theorem shl_val {x:BitVec 32} {n:Nat} (hn:n<32):IntKind.u64.wrap (n32 x*2^n)=((d32 x*2^n:Nat):Int):=by
 have h1:d32 x*2^n<18446744073709551616:=by
  have h2:d32 x*2^n≤4294967295*2^31:=Nat.mul_le_mul (by have:=d32_lt x;unfold W32 at this;omega) (Nat.pow_le_pow_right (by omega) (by omega))
  omega
 rw[n32_d,show((d32 x:Nat):Int)*2^n=((d32 x*2^n:Nat):Int) by simp,u64_nat h1]
theorem w_split {n:Nat} (hn:n<32):W32=2^n*2^(32 - n):=by
 rw[←Nat.pow_add,show n+(32 - n)=32 by omega]
theorem shift_top {x:BitVec 32} {n:Nat} (hn:n<32):d32 (w32 (IntKind.u64.wrap (n32 x*2^n) / 4294967296))<2^n:=by
 rw[shl_val hn,quo_cast',d32_w32]
 refine Nat.lt_of_le_of_lt (Nat.mod_le _ _) (shl_lt (w_split hn) (by decide) (d32_lt x))
theorem shift_next {xs zs:List (BitVec 32)} {l j n:Nat} (hn:n<32) (hz:zs.length=l+1) (hj:j<l) (hv:vf W32 (dig d32 zs) (l+1)=vf W32 (dig d32 xs) j*2^n) (h0:dig d32 zs (j+1)=0) (hlt:dig d32 zs j<2^n):
 vf W32 (dig d32 ((zs.set j (gat zs j ||| w32 (IntKind.u64.wrap (n32 (gat xs j)*2^n)))).set (j+1) (w32 (IntKind.u64.wrap (n32 (gat xs j)*2^n) / 4294967296)))) (l+1)=vf W32 (dig d32 xs) (j+1)*2^n:=by
 refine shl_step (out:=dig d32 zs) (a:=dig d32 xs) (i:=j) (by omega) hv h0 ?_
 intro q hq
 have hy:d32 (gat zs j ||| w32 (IntKind.u64.wrap (n32 (gat xs j)*2^n)))=dig d32 zs j+d32 (gat xs j)*2^n % W32:=by
  have h1:d32 (gat xs j)*2^n % W32=d32 (gat xs j) % 2^(32 - n)*2^n:=by
   rw[w_split hn,Nat.mul_comm (2^n),Nat.mul_mod_mul_right]
  rw[h1]
  refine d32_or rfl ?_ hlt
  rw[shl_val hn,d32_w32,h1]
 have hy2:d32 (w32 (IntKind.u64.wrap (n32 (gat xs j)*2^n) / 4294967296))=d32 (gat xs j)*2^n / W32:=by
  rw[shl_val hn,quo_cast',d32_w32,Nat.mod_eq_of_lt]
  exact Nat.lt_trans (shl_lt (w_split hn) (by decide) (d32_lt _)) (Nat.pow_lt_pow_right (by omega) hn)
 rw[dig_set (by rw[List.length_set];omega)]
 by_cases e:q=j+1
 · rw[if_pos e,hy2,if_neg (by omega),if_pos e];rfl
 · rw[if_neg e,dig_set (by omega)]
   by_cases e2:q=j
   · rw[if_pos e2,if_pos e2,hy];rfl
   · rw[if_neg e2,if_neg e2,if_neg e]
set_option maxRecDepth 100000 in
set_option maxHeartbeats 1000000 in
theorem shift_any (A:Option Addr) (l c n:Nat) (xs:List (BitVec 32)) (w:World) (hl:xs.length=l) (hS:Sl by32 w A xs) (hlb:l≤1000000) (hn:n<32):
 Calls Try.prog 63 #[.slice A l c,.int .i64 n] w fun e w'=>∃g zs,e=.returned (.slice (some ⟨g,0,none⟩) (l+1) (l+1))∧zs.length=l+1∧Own w' w.heap.size 71 (some ⟨g,0,none⟩) (l+1) (zs.map by32)∧numOf W32 d32 zs=numOf W32 d32 xs*2^n∧Ext w w':=by
 have HL:=hide hl
 have HS:=hide hS
 clear hl hS
 go_enter Try.func63,Try.ntmps63
 go_wp2_with (at_make;go_must (refine wpList_mk _ _ _ Try.n_el32 rfl rfl (l+1) rfl rfl rfl rfl (by omega) (by unfold maxLen;omega) by32 rfl rfl (B:=w.heap.size) (by simp) ?_);intro g w2 hO hg hU)
 subst hg
 go_loopw [15] (fun i wr=>∃(j:Nat) (zs:List (BitVec 32)),j≤l∧i=.int .i64 j∧zs.length=l+1∧Own wr w.heap.size 71 (some ⟨w.heap.size,0,none⟩) (l+1) (zs.map by32)∧vf W32 (dig d32 zs) (l+1)=vf W32 (dig d32 xs) j*2^n∧(∀q,j<q→dig d32 zs q=0)∧dig d32 zs j<2^n∧Ext w wr) (fun i _=>l - (intOf i).toNat)
 case atStart=>exact⟨0,_,Nat.zero_le _,rfl,List.length_replicate,hO,by rw[vf_zeros (f0:=fun _=>0)];show 0=0*_;rw[Nat.zero_mul],fun q _=>dig_zeros _ _,by rw[dig_zeros];exact Nat.pow_pos (by omega),hU⟩
 case round=>
  clear hO hU
  obtain⟨j,zs,hj,rfl,hzl,hO,hv,hz,hz2,hE⟩:=hrel
  have Hzl:=hide hzl
  have Hv:=hide hv
  have Hz:=hide hz
  clear hzl hv hz
  by_cases hjl:j<l
  · obtain⟨hx1,hx2⟩:=n32_bd (gat xs j)
    obtain⟨b1,o1,rfl,hbl1,hcells⟩:=(HS.out.ext hE).open_ (by rw[HL.out];omega)
    have hcell:=hcells j (by rw[HL.out];omega)
    have hcz:=hO.row.cell (i:=j) (by rw[Hzl.out];omega)
    have hcz2:=hO.row.cell (i:=j+1) (by rw[Hzl.out];omega)
    clear hcells
    go_wp2_with (first
     | (have hO':=hO;clear hO;refine wpList_store_own by32 one32 (gat zs j ||| w32 (IntKind.u64.wrap (n32 (gat xs j)*2^n))) rfl rfl Try.n_sz32 rfl rfl hO' (by rw[Hzl.out];omega) ?_;intro w3 hO3 hU3;clear hcz hcz2 hO')
     | (have hO':=hO3;clear hO3;refine wpList_store_own by32 one32 (w32 (IntKind.u64.wrap (n32 (gat xs j)*2^n) / 4294967296)) rfl rfl Try.n_sz32 rfl rfl hO' (by rw[List.length_set,Hzl.out];omega) ?_;intro w4 hO4 hU4;clear hO'))
    go_roundw
    case rel=>exact⟨j+1,_,by omega,by go_num,by rw[List.length_set,List.length_set];exact Hzl.out,hO4,shift_next hn Hzl.out hjl Hv.out (Hz.out _ (by omega)) hz2,fun q hq=>by rw[dig_set (by rw[List.length_set,Hzl.out];omega),if_neg (by omega),dig_set (by rw[Hzl.out];omega),if_neg (by omega)];exact Hz.out q (by omega),by rw[dig_set (by rw[List.length_set,Hzl.out];omega),if_pos rfl];exact shift_top hn,Upd.fresh hU4 (Upd.fresh hU3 hE (fun i hi=>by unfold only at hi;omega)) (fun i hi=>by unfold only at hi;omega)⟩
    case measure=>simp[intOf];omega
  · obtain rfl:j=l:=by omega
    go_wp2
    go_ret
    exact⟨_,zs,rfl,Hzl.out,hO,by unfold numOf;rw[Hzl.out,Hv.out,HL.out],hE⟩
end
/- A multiple taken away from words in place, walked: take. -/
section
open Go.RowKit
open Nt
attribute [local go_sem] by32 wrap_w32
theorem sub_digit {a b d w w':Nat} {s:Int} (hs:s=(a:Int) - (b:Int) - (w:Int)) (ha:a<W32) (hb:b<W32) (hw:w≤1) (h:(s<0∧d=(s+4294967296).toNat∧w'=1)∨(0≤s∧d=s.toNat∧w'=0)):d+b+w=a+w'*W32∧d<W32:=by
 unfold W32 at*
 omega
theorem d32_int {s:Int} {d:Nat} (h:s=(d:Int)) (hd:d<W32):d32 (w32 s)=d:=by rw[h,w32_nat hd]
theorem take_bd {c q:Nat} {y:BitVec 32} (hc:c≤q - 1) (hq:q≤W32):0≤(q:Int)*n32 y∧(q:Int)*n32 y≤18446744069414584320∧(c:Int)+(q:Int)*n32 y≤18446744073709551615∧(c:Int)+(q:Int)*n32 y=((c+q*d32 y:Nat):Int)∧(c+q*d32 y) / W32≤q - 1:=by
 have hy:=d32_lt y
 have e:(q:Int)*n32 y=((q*d32 y:Nat):Int):=by rw[n32_d];simp
 have h1:q*d32 y≤q*(W32 - 1):=Nat.mul_le_mul_left _ (by omega)
 rw[e]
 unfold W32 at*
 refine⟨by omega,by omega,?_,rfl,?_⟩
 · rcases Nat.eq_zero_or_pos q with h | h<;>omega
 · rcases Nat.eq_zero_or_pos q with h | h
   · subst h;omega
   · omega
theorem n32_mod (s:Nat):n32 (w32 (s:Int))=((s % W32:Nat):Int):=congrArg Int.ofNat (d32_w32 s)
theorem take_next {zs0 zs ys:List (BitVec 32)} {N j k c b q w':Nat} {s:Int} (hz:zs.length=N) (hjk:j+k<N) (hun:∀i,i<j∨j+k≤i→dig d32 zs i=dig d32 zs0 i)
 (hv:vf W32 (fun i=>dig d32 zs (j+i)) k+q*vf W32 (dig d32 ys) k=vf W32 (fun i=>dig d32 zs0 (j+i)) k+(c+b)*W32^k)
 (hd:d32 (w32 s)+(c+q*d32 (gat ys k)) % W32+b=d32 (gat zs (j+k))+w'*W32):
 (∀i,i<j∨j+(k+1)≤i→dig d32 (zs.set (j+k) (w32 s)) i=dig d32 zs0 i)∧
 vf W32 (fun i=>dig d32 (zs.set (j+k) (w32 s)) (j+i)) (k+1)+q*vf W32 (dig d32 ys) (k+1)=vf W32 (fun i=>dig d32 zs0 (j+i)) (k+1)+((c+q*d32 (gat ys k)) / W32+w')*W32^(k+1):=by
 refine⟨fun i hi=>by rw[dig_set (by omega),if_neg (by omega)];exact hun i (by omega),take_step (w:=b) ?_ ?_⟩
 · rw[←hv]
   congr 1
   exact vf_congr fun i hi=>by rw[dig_set (by omega),if_neg (by omega)]
 · rw[dig_set (by omega),if_pos rfl,←hun (j+k) (.inr (Nat.le_refl _))]
   exact hd
structure Taken (w:World) (B g cap:Nat) (zs ys:List (BitVec 32)) (j m q:Nat) (e:Ending) (w':World):Prop where
 ex:∃(zs':List (BitVec 32)) (cw:Nat),e=.returned (.bool (decide (dig d32 zs (j+m)<cw)))∧zs'.length=zs.length∧Own w' B 71 (some ⟨g,0,none⟩) cap (zs'.map by32)∧(∀i,i<j∨j+m<i→dig d32 zs' i=dig d32 zs i)∧
  vf W32 (fun i=>dig d32 zs' (j+i)) m+q*vf W32 (dig d32 ys) m=vf W32 (fun i=>dig d32 zs (j+i)) m+cw*W32^m∧(cw≤dig d32 zs (j+m)→dig d32 zs' (j+m)=dig d32 zs (j+m) - cw)∧(cw=dig d32 zs (j+m)+1→dig d32 zs' (j+m)=W32 - 1)
 upd:Upd (only g) w w'
set_option maxRecDepth 100000 in
set_option maxHeartbeats 2000000 in
theorem take_any (B g cap j m cu cv q:Nat) (Y:Option Addr) (zs0 ys:List (BitVec 32)) (w:World) (hO0:Own w B 71 (some ⟨g,0,none⟩) cap (zs0.map by32)) (hjm:j+m<zs0.length) (hl:zs0.length≤2000000) (hym:ys.length=m) (hS:Sl by32 w Y ys) (hY:∀k,inA Y k→k≠g) (hq:q≤W32):
 Calls Try.prog 89 #[.slice (some ⟨g,j,none⟩) (m+1) cu,.slice Y m cv,.int .u64 q] w (Taken w B g cap zs0 ys j m q):=by
 obtain⟨N,hN⟩:∃N,zs0.length=N:=⟨_,rfl⟩
 rw[hN]at hjm hl
 have HN:=hide hN
 have HM:=hide hym
 have HS:=hide hS
 have HY:=hide hY
 have Hq:=hide hq
 have hq':(q:Int)≤4294967296:=by unfold W32 at hq;omega
 clear hN hym hS hY hq
 go_enter Try.func89,Try.ntmps89
 go_wp2
 go_loopw [15,7,8] (fun i cr bo wr=>∃(k c b:Nat) (zs:List (BitVec 32)),k≤m∧i=.int .i64 k∧cr=.int .u64 c∧bo=.int .i64 b∧c≤q - 1∧b≤1∧zs.length=N∧Own wr B 71 (some ⟨g,0,none⟩) cap (zs.map by32)∧(∀i,i<j∨j+k≤i→dig d32 zs i=dig d32 zs0 i)∧vf W32 (fun i=>dig d32 zs (j+i)) k+q*vf W32 (dig d32 ys) k=vf W32 (fun i=>dig d32 zs0 (j+i)) k+(c+b)*W32^k∧Upd (only g) w wr) (fun i _ _ _=>m - (intOf i).toNat)
 case atStart=>exact⟨0,0,0,zs0,Nat.zero_le _,rfl,rfl,rfl,Nat.zero_le _,Nat.zero_le _,HN.out,hO0,fun _ _=>rfl,by simp[vf],Upd.refl _ _⟩
 case round=>
  clear hO0
  obtain⟨k,c,b,zs,hk,rfl,rfl,rfl,hc,hb,hzl,hO,hz,hv,hU⟩:=hrel
  have Hzl:=hide hzl
  have Hv:=hide hv
  have Hz:=hide hz
  clear hzl hv hz
  have hcq:(c:Int)≤4294967296:=by omega
  by_cases hlt:k<m
  · obtain⟨t1,t2,t3,t4,t5⟩:=take_bd (y:=gat ys k) hc Hq.out
    have H4:=hide t4
    obtain⟨u1,u2⟩:=n32_bd (gat zs (j+k))
    obtain⟨s1,s2⟩:=n32_bd (w32 ((c:Int)+(q:Int)*n32 (gat ys k)))
    obtain⟨y1,y2⟩:=n32_bd (gat ys k)
    obtain⟨b2,o2,hYe,hbl2,hcells⟩:=(HS.out.upd hU (fun b o h=>by rw[h]at HY;exact HY.out b (by simp[inA]))).open_ (by rw[HM.out];omega)
    have hcell:=hcells k (by rw[HM.out];omega)
    have hcz:=hO.row.cell (i:=j+k) (by rw[Hzl.out];omega)
    clear hcells t4
    subst hYe
    by_cases hd:n32 (gat zs (j+k)) - n32 (w32 ((c:Int)+(q:Int)*n32 (gat ys k))) - (b:Int)<0
    · go_wp2_with (refine wpList_store_own by32 one32 (w32 (n32 (gat zs (j+k)) - n32 (w32 ((c:Int)+(q:Int)*n32 (gat ys k))) - (b:Int)+4294967296)) rfl rfl Try.n_sz32 rfl rfl hO (by rw[Hzl.out];omega) ?_;intro w3 hO3 hU3)
      have hsd:=sub_digit (a:=d32 (gat zs (j+k))) (b:=(c+q*d32 (gat ys k)) % W32) (w:=b) (s:=n32 (gat zs (j+k)) - n32 (w32 ((c:Int)+(q:Int)*n32 (gat ys k))) - (b:Int)) (d:=(n32 (gat zs (j+k)) - n32 (w32 ((c:Int)+(q:Int)*n32 (gat ys k))) - (b:Int)+4294967296).toNat) (w':=1) (by rw[H4.out,n32_mod];rfl) (d32_lt _) (Nat.mod_lt _ (by decide)) hb (.inl ⟨hd,rfl,rfl⟩)
      have hdd:=d32_int (s:=n32 (gat zs (j+k)) - n32 (w32 ((c:Int)+(q:Int)*n32 (gat ys k))) - (b:Int)+4294967296) (d:=(n32 (gat zs (j+k)) - n32 (w32 ((c:Int)+(q:Int)*n32 (gat ys k))) - (b:Int)+4294967296).toNat) (by omega) hsd.2
      have htn:=take_next (w':=1) (s:=n32 (gat zs (j+k)) - n32 (w32 ((c:Int)+(q:Int)*n32 (gat ys k))) - (b:Int)+4294967296) Hzl.out (by omega) Hz.out Hv.out (by rw[hdd];exact hsd.1)
      go_roundw
      case rel=>exact⟨k+1,(c+q*d32 (gat ys k)) / W32,1,_,by omega,by go_num,by rw[H4.out];rfl,rfl,t5,by omega,by rw[List.length_set];exact Hzl.out,hO3,htn.1,htn.2,hU.trans hU3⟩
      case measure=>simp[intOf];omega
    · have hd':0≤n32 (gat zs (j+k)) - n32 (w32 ((c:Int)+(q:Int)*n32 (gat ys k))) - (b:Int):=by omega
      go_wp2_with (refine wpList_store_own by32 one32 (w32 (n32 (gat zs (j+k)) - n32 (w32 ((c:Int)+(q:Int)*n32 (gat ys k))) - (b:Int))) rfl rfl Try.n_sz32 rfl rfl hO (by rw[Hzl.out];omega) ?_;intro w3 hO3 hU3)
      have hsd:=sub_digit (a:=d32 (gat zs (j+k))) (b:=(c+q*d32 (gat ys k)) % W32) (w:=b) (s:=n32 (gat zs (j+k)) - n32 (w32 ((c:Int)+(q:Int)*n32 (gat ys k))) - (b:Int)) (d:=(n32 (gat zs (j+k)) - n32 (w32 ((c:Int)+(q:Int)*n32 (gat ys k))) - (b:Int)).toNat) (w':=0) (by rw[H4.out,n32_mod];rfl) (d32_lt _) (Nat.mod_lt _ (by decide)) hb (.inr ⟨hd',rfl,rfl⟩)
      have hdd:=d32_int (s:=n32 (gat zs (j+k)) - n32 (w32 ((c:Int)+(q:Int)*n32 (gat ys k))) - (b:Int)) (d:=(n32 (gat zs (j+k)) - n32 (w32 ((c:Int)+(q:Int)*n32 (gat ys k))) - (b:Int)).toNat) (by omega) hsd.2
      have htn:=take_next (w':=0) (s:=n32 (gat zs (j+k)) - n32 (w32 ((c:Int)+(q:Int)*n32 (gat ys k))) - (b:Int)) Hzl.out (by omega) Hz.out Hv.out (by rw[hdd];exact hsd.1)
      go_roundw
      case rel=>exact⟨k+1,(c+q*d32 (gat ys k)) / W32,0,_,by omega,by go_num,by rw[H4.out];rfl,rfl,t5,by omega,by rw[List.length_set];exact Hzl.out,hO3,htn.1,htn.2,hU.trans hU3⟩
      case measure=>simp[intOf];omega
  · obtain rfl:k=m:=by omega
    obtain⟨u1,u2⟩:=n32_bd (gat zs (j+k))
    have hcz:=hO.row.cell (i:=j+k) (by rw[Hzl.out];omega)
    go_wp2_with (refine wpList_store_own by32 one32 (w32 (n32 (gat zs (j+k)) - (c:Int) - (b:Int))) rfl rfl Try.n_sz32 rfl rfl hO (by rw[Hzl.out];omega) ?_;intro w3 hO3 hU3)
    go_ret
    have hun:=Hz.out (j+k) (.inr (Nat.le_refl _))
    have hu:=d32_lt (gat zs (j+k))
    refine⟨⟨_,c+b,?_,by rw[List.length_set,Hzl.out,HN.out],hO3,fun i hi=>?_,?_,?_,?_⟩,hU.trans hU3⟩
    · have hb2:decide (n32 (gat zs (j+k)) - (c:Int) - (b:Int)<0)=decide (dig d32 zs0 (j+k)<c+b):=by
       rw[←hun]
       show decide (((d32 (gat zs (j+k)):Nat):Int) - (c:Int) - (b:Int)<0)=decide (d32 (gat zs (j+k))<c+b)
       rw[Bool.eq_iff_iff];simp only[decide_eq_true_eq];omega
      rw[←hb2]
      rfl
    · rw[dig_set (by rw[Hzl.out];omega),if_neg (by omega)];exact Hz.out i (by omega)
    · rw[←Hv.out]
      congr 1
      exact vf_congr fun i hi=>by rw[dig_set (by rw[Hzl.out];omega),if_neg (by omega)]
    · intro h
      rw[dig_set (by rw[Hzl.out];omega),if_pos rfl,←hun]
      rw[←hun]at h
      have h:c+b≤d32 (gat zs (j+k)):=h
      exact d32_int (d:=d32 (gat zs (j+k)) - (c+b)) (by rw[n32_d];omega) (by omega)
    · intro h
      rw[dig_set (by rw[Hzl.out];omega),if_pos rfl]
      rw[←hun]at h
      have h:c+b=d32 (gat zs (j+k))+1:=h
      have e:n32 (gat zs (j+k)) - (c:Int) - (b:Int)= -1:=by rw[n32_d];omega
      rw[e];rfl
end
/- slices.Backward over words: what it hands to a loop; Cmp, walked. -/
section
open Go.RowKit Go.Shelf
open Nt
attribute [local go_sem] Oper.semAt_some by32
def upto {α:Type} (f:Nat→α) (k:Nat):List α:=(List.range k).map f
theorem upto_succ {α:Type} (f:Nat→α) (k:Nat):upto f (k+1)=upto f k++[f k]:=by simp[upto,List.range_succ]
abbrev Ix (len:Nat):={i:Nat // i<len}
def bkv (xs:List (BitVec 32)) {len:Nat} (x:Ix len):Array Value:=#[.int .i64 (x.1:Int),by32 (gat xs x.1)]
def Bk {len:Nat} (k:Nat) (pre:List (Ix len)):Prop:=pre.map (·.1)=upto (fun j=>len - 1 - j) k
theorem Bk.nil {len:Nat}:Bk (len:=len) 0 []:=rfl
theorem Bk.length {len k:Nat} {pre:List (Ix len)} (h:Bk k pre):pre.length=k:=by
 have:=congrArg List.length h
 simpa[upto] using this
theorem Bk.snoc {len k:Nat} {pre:List (Ix len)} (h:Bk k pre) {x:Ix len} (hx:x.1=len - 1 - k):Bk (k+1) (pre++[x]):=by
 unfold Bk at*
 rw[List.map_append,h,upto_succ,List.map_singleton,hx]
theorem Bk.last {len k:Nat} {ini:List (Ix len)} {x:Ix len} (h:Bk k (ini++[x])):∃j,k=j+1∧Bk j ini∧x.1=len - 1 - j:=by
 have hl:=h.length
 simp at hl
 subst hl
 unfold Bk at*
 rw[List.map_append,upto_succ,List.map_singleton]at h
 obtain⟨h1,h2⟩:=List.append_inj' h rfl
 refine⟨_,rfl,h1,by simpa using h2⟩
theorem Bk.mem {len k:Nat} {pre:List (Ix len)} (h:Bk k pre) {j:Nat} (hj:j<k) (hk:k≤len):∃x∈pre,x.1=len - 1 - j:=by
 have:len - 1 - j∈pre.map (·.1):=by
  rw[h];simp only[upto,List.mem_map,List.mem_range];exact⟨j,hj,rfl⟩
 obtain⟨x,hx,e⟩:=List.mem_map.1 this
 exact⟨x,hx,e⟩
def Kept (R:Nat→Prop) (W W':World):Prop:=∀k,R k→W'.heap[k]? =W.heap[k]?
theorem Kept.refl (R:Nat→Prop) (W:World):Kept R W W:=fun _ _=>rfl
theorem Kept.t {R:Nat→Prop} {A B C:World} (h:Kept R A B) (k:Kept R B C):Kept R A C:=fun i hi=>(k i hi).trans (h i hi)
theorem Kept.b {R:Nat→Prop} {w:World} (hn:∀i,R i→i<w.heap.size) (W:World) (l:Nat) (o o':Obj) (hl:w.heap.size≤l) (h:W.heap[l]? =some o) (_:o.isCells=false) (_:o.isWalk=false):Kept R W (W.putObj l o'):=fun i hi=>
 (grownBy_putObj' W l o').block i (by have:=(Array.getElem?_eq_some_iff.1 h).1;have:=hn i hi;omega) (fun e=>by cases e;have:=hn _ hi;omega)
theorem Kept.cell {R:Nat→Prop} {W W':World} (h:Kept R W W') {p:Addr} (hp:R p.block):W'.cell? p=W.cell? p:=World.cell?_of_block (w:=W) (h p.block hp)
theorem Kept.setCell {R:Nat→Prop} {W:World} {p:Addr} (hp:¬R p.block) (u:Value):Kept R W (W.setCell p u):=fun k hk=>Below.heap_setCell W p u k (fun e=>hp (e▸hk))
set_option maxRecDepth 100000 in
set_option maxHeartbeats 2000000 in
theorem back1_in (F:Fence) (n:Nat) (hf:F.fn 81) (hro:F.round=none) (hn:1≤n) (l Bs b off cap:Nat) (R:Nat→Prop) (xs:List (BitVec 32)) (len:Nat) (hreach:len≤1000000) (h0:0<len) (hb:R b) (J Jx:List (Ix len)→World→Prop)
 (hY:∀pre x W,J pre W→pre.length<len→YieldAt F (n - 1) Try.prog l (bkv xs x) W fun e W'=>
  (e=.returned (.bool true)∧J (pre++[x]) W'∧Kept R W W')∨(e=.returned (.bool false)∧Jx (pre++[x]) W'))
 (W:World) (hBs:W.cell? ⟨Bs,0,none⟩=some (.slice (some ⟨b,off,none⟩) len cap)) (hBn:R Bs) (hc:∀j,j<len→W.cell? ⟨b,off+j,none⟩=some (by32 (gat xs j))) (hJ0:J [] W):
 CallsIn F n Try.prog 81 #[.func (.yield l) #[] #[],.pointer (some ⟨Bs,0,none⟩)] W fun e W'=>(∃v,e=.returned v)∧
   ((∃ys,Bk len ys∧J ys W')∨(∃pre,(∃k,k≤len∧Bk k pre)∧Jx pre W')):=by
 refine callsIn_of_wp Try.func81 rfl hf ?_ hro
 simp only[Try.ntmps81,List.size_toArray,List.length_cons,List.length_nil,Nat.reduceAdd,Nat.reduceSub,Array.replicate_succ,Array.replicate_zero,List.push_toArray,List.append_toArray,List.nil_append,List.cons_append]
 gi_wp2
 gi_loopw [3] (fun i wr=>((∃(r:Nat) (pre:List (Ix len)),r<len∧i=.int .i64 r∧Bk (len - 1 - r) pre∧J pre wr)∨(∃pre:List (Ix len),i=.int .i64 (-1)∧Bk len pre∧J pre wr))∧Kept R W wr)
   (fun i _=>(intOf i+1).toNat)
 case atStart=>exact⟨.inl ⟨len - 1,[],by omega,by rw[show(len:Int) - 1=((len - 1:Nat):Int) by omega],by rw[Nat.sub_self];exact Bk.nil,hJ0⟩,Kept.refl _ _⟩
 case round=>
  obtain⟨hr,hnx⟩:=hrel
  have hBs':wr.cell? ⟨Bs,0,none⟩=some (.slice (some ⟨b,off,none⟩) len cap):=(hnx.cell (p:=⟨Bs,0,none⟩) hBn).trans hBs
  rcases hr with ⟨r,pre,hr,rfl,hB,hJs⟩ | ⟨pre,rfl,hB,hJs⟩
  · have hcx:wr.cell? ⟨b,off+r,none⟩=some (by32 (gat xs r)):=(hnx.cell (p:=⟨b,off+r,none⟩) hb).trans (hc r hr)
    have HB:=hide (hB.snoc (x:=⟨r,hr⟩) (by show r=_;omega))
    obtain⟨fn,tmps,assign,body,hy,hR⟩:=hY pre ⟨r,hr⟩ wr hJs (by rw[hB.length];omega)
    dsimp only[bkv,by32]at hy
    clear hB
    gi_wp2
    refine hR.mono ?_
    rintro e W3 (⟨rfl,hJ3,hk3⟩ | ⟨rfl,hJx3⟩)
    · gi_wp2
      go_roundw
      case rel=>
       refine⟨?_,hnx.t hk3⟩
       have hB2:=HB.out
       by_cases h0:r=0
       · subst h0;exact .inr ⟨_,rfl,by rw[show len - 1 - 0+1=len by omega]at hB2;exact hB2,hJ3⟩
       · exact .inl ⟨r - 1,_,by omega,by rw[show(r:Int) - 1=((r - 1:Nat):Int) by omega],by rw[show len - 1 - (r - 1)=len - 1 - r+1 by omega];exact hB2,hJ3⟩
      case measure=>simp[intOf]
    · gi_wp2
      refine bodyPost_ret (results_none rfl _ _ _) rfl ?_
      exact⟨⟨_,rfl⟩,.inr ⟨_,⟨len - 1 - r+1,by omega,HB.out⟩,hJx3⟩⟩
  · gi_wp2
    go_end0
    exact⟨⟨_,rfl⟩,.inl ⟨_,hB,hJs⟩⟩
set_option maxRecDepth 100000 in
set_option maxHeartbeats 1000000 in
theorem back1_nil_in (F:Fence) (n:Nat) (hf:F.fn 81) (hro:F.round=none) (l Bs:Nat) (A:Option Addr) (cap:Nat) (J:List (Ix 0)→World→Prop) (W:World) (hBs:W.cell? ⟨Bs,0,none⟩=some (.slice A 0 cap)) (h0:J [] W):
 CallsIn F n Try.prog 81 #[.func (.yield l) #[] #[],.pointer (some ⟨Bs,0,none⟩)] W fun e W'=>(∃v,e=.returned v)∧J [] W':=by
 refine callsIn_of_wp Try.func81 rfl hf ?_ hro
 simp only[Try.ntmps81,List.size_toArray,List.length_cons,List.length_nil,Nat.reduceAdd,Nat.reduceSub,Array.replicate_succ,Array.replicate_zero,List.push_toArray,List.append_toArray,List.nil_append,List.cons_append]
 gi_wp2
 gi_loopw [3] (fun i wr=>i=.int .i64 (-1)∧J [] wr) (fun _ _=>0)
 case atStart=>exact⟨rfl,h0⟩
 case round=>
  obtain⟨rfl,hJs⟩:=hrel
  gi_wp2
  go_end0
  exact⟨⟨_,rfl⟩,hJs⟩
set_option maxHeartbeats 1000000 in
theorem back_in (F:Fence) (n:Nat) (hf:F.fn 51) (hro:F.round=none) (a:Option Addr) (len cap:Nat) (w:World):
 CallsIn F n Try.prog 51 #[.slice a len cap] w fun e w'=>e=.returned (.func (.func 81) #[] #[.pointer (some ⟨w.heap.size,0,none⟩)])∧w'=w.alloc (.cells #[.slice a len cap] 31):=by
 refine callsIn_of_wp Try.func51 rfl hf ?_ hro
 simp only[Try.ntmps51,List.size_toArray,List.length_cons,List.length_nil,Nat.reduceAdd,Nat.reduceSub,Array.replicate_succ,Array.replicate_zero,List.push_toArray,List.append_toArray,List.nil_append,List.cons_append]
 gi_wp2
 go_ret
 exact⟨rfl,rfl⟩
theorem back_stops (F:Fence) (n:Nat) (hf:F.fn 81) (hro:F.round=none) (hn:1≤n) (Bs:Nat) (R:Nat→Prop) (A:Option Addr) (len cap:Nat) (xs:List (BitVec 32)) (hl:xs.length=len) (hreach:len≤1000000) (w:World) (hBs:R Bs) (hBw:Bs<w.heap.size)
 (hc:w.cell? ⟨Bs,0,none⟩=some (.slice A len cap)) (hS:Sl by32 w A xs) (hA:0<len→∀k,inA A k→R k):
 SeqStopsK F n Try.prog 81 #[.pointer (some ⟨Bs,0,none⟩)] (bkv xs (len:=len)) (Kept R) (Bk len) (fun pre=>∃k,k≤len∧Bk k pre) len w:=fun l J Jx W hW _ _ hY h0=>by
 have hc':=(hW.cell (p:=⟨Bs,0,none⟩) hBw).trans hc
 rcases Nat.eq_zero_or_pos len with h | h
 · subst h
   exact(back1_nil_in F n hf hro l Bs A cap J W hc' h0).mono fun e W' ⟨he,hj⟩=>⟨he,.inl ⟨_,Bk.nil,hj⟩⟩
 · obtain⟨b,o,rfl,hb,hcs⟩:=hS.open_ (by omega)
   exact back1_in F n hf hro hn l Bs b o cap R xs len hreach h (hA h b (by simp[inA])) J Jx hY W hc' hBs (fun j hj=>(hW.cell (p:=⟨b,o+j,none⟩) hb).trans (hcs j (by omega))) h0
theorem Sl.inA_lt {α:Type} [Inhabited α] {f:α→Value} {w:World} {A:Option Addr} {xs:List α} (h:Sl f w A xs) (h0:0<xs.length) {k:Nat} (hk:inA A k):k<w.heap.size:=by
 obtain⟨b,o,rfl,hb,_⟩:=h.open_ h0
 simp[inA]at hk;omega
theorem ext_of_below {w w':World} (h:Below w.heap.size w w'):Ext w w':=⟨h.os,h.tape,h.output,h.size,fun k hk _=>h.block k hk⟩
/-! ### Cmp -/
def cmpI (a b:Nat):Int:=if a<b then -1 else if a=b then 0 else 1
theorem cmp_len {xs ys:List (BitVec 32)} (hy:Trd (dig d32 ys) ys.length) (h:xs.length<ys.length):numOf W32 d32 xs<numOf W32 d32 ys:=hy.len_lt (by decide) (fun i _=>d32_lt _) h
theorem cmp_same {xs ys:List (BitVec 32)} {l:Nat} (hx:xs.length=l) (hy:ys.length=l) (h:∀i,i<l→gat ys i=gat xs i):cmpI (numOf W32 d32 xs) (numOf W32 d32 ys)=0:=by
 have:numOf W32 d32 xs=numOf W32 d32 ys:=by
  unfold numOf;rw[hx,hy];exact vf_congr fun i hi=>by unfold dig;rw[h i hi]
 unfold cmpI;rw[this,if_neg (Nat.lt_irrefl _),if_pos rfl]
theorem cmp_first {xs ys:List (BitVec 32)} {l i:Nat} (hx:xs.length=l) (hy:ys.length=l) (hi:i<l) (h:∀j,i<j→j<l→gat ys j=gat xs j) (hne:n32 (gat xs i)≠n32 (gat ys i)):
 cmpI (numOf W32 d32 xs) (numOf W32 d32 ys)=if n32 (gat xs i)<n32 (gat ys i) then -1 else 1:=by
 unfold numOf cmpI
 rw[hx,hy]
 by_cases hlt:n32 (gat xs i)<n32 (gat ys i)
 · have:=vf_lt_of_digit (β:=W32) (f:=dig d32 xs) (g:=dig d32 ys) hi (fun _ _=>d32_lt _) (fun j h1 h2=>by unfold dig;rw[h j h1 h2]) (by unfold dig;rw[n32_d,n32_d]at hlt;omega)
   rw[if_pos this,if_pos hlt]
 · have:=vf_lt_of_digit (β:=W32) (f:=dig d32 ys) (g:=dig d32 xs) hi (fun _ _=>d32_lt _) (fun j h1 h2=>by unfold dig;rw[h j h1 h2]) (by unfold dig;rw[n32_d,n32_d]at hlt hne;omega)
   rw[if_neg (by omega),if_neg (by omega),if_neg hlt]
def CmpX (xs ys:List (BitVec 32)) {len:Nat} (g:Nat) (c:Code) (pre:List (Ix len)) (W:World):Prop:=
 c=.ret∧∃ini last,pre=ini++[last]∧(∀p∈ini,gat ys p.1=gat xs p.1)∧n32 (gat xs last.1)≠n32 (gat ys last.1)∧W.cell? ⟨g,0,none⟩=some (.int .i64 (if n32 (gat xs last.1)<n32 (gat ys last.1) then -1 else 1))
set_option maxRecDepth 100000 in
set_option maxHeartbeats 2000000 in
theorem cmp_in (F:Fence) (n:Nat) (hfc:F.fn 20) (hfb:F.fn 51) (hf1:F.fn 81) (hro:F.round=none) (hn:3≤n) (va vb:Value) (a b k:Nat) (w:World) (hVa:NatV w va a) (hVb:NatV w vb b) (hFa:Fit k a) (hFb:Fit k b) (hk:k≤1000000):
 CallsIn F n Try.prog 20 #[va,vb] w fun e W'=>e=.returned (.int .i64 (cmpI a b))∧Ext w W':=by
 have h1:1≤n:=by omega
 obtain⟨A,la,ca,xs,rfl,hlx,hca,hma,hSa,hTa,hna⟩:=hVa.open_
 obtain⟨B,lb,cb,ys,rfl,hly,hcb,hmb,hSb,hTb,hnb⟩:=hVb.open_
 have hla:la≤k:=hlx▸Fit.len (hlx▸hTa) hna hFa
 have hlb:lb≤k:=hly▸Fit.len (hly▸hTb) hnb hFb
 clear hVa hVb hFa hFb
 refine callsIn_of_wp_marks Try.func20 rfl hfc ?_ hro
 simp only[Try.ntmps20,List.size_toArray,List.length_cons,List.length_nil,Nat.reduceAdd,Nat.reduceSub,Array.replicate_succ,Array.replicate_zero,List.push_toArray,List.append_toArray,List.nil_append,List.cons_append]
 rcases Nat.lt_trichotomy la lb with h | h | h
 · have hc:cmpI a b= -1:=by
    unfold cmpI;rw[if_pos];rw[←hna,←hnb];exact cmp_len (hly▸hTb) (by omega)
   rw[hc]
   clear hc hna hnb hTa hTb hSa hSb hlx hly
   have hne:((la:Int) != (lb:Int))=true:=by rw[bne_iff_ne];omega
   have hne':la≠lb:=by omega
   gi_wp2
   exact⟨.int .i64 (-1),(by simp[results,Try.f20,go_sem]),rfl,(by repeat (first | (with_reducible exact Upd.refl _ _) | (with_reducible assumption) | (refine Upd.setCell ?_ (.inr (by first | exact Nat.le_refl _ | (dsimp only;omega) | (simp;done) | (simp;omega))) _) | (with_reducible refine Upd.alloc ?_ _) | (with_reducible refine Upd.drew ?_) | (with_reducible refine Upd.trans ?_ (by with_reducible assumption))))⟩
 · subst h
   have hne:((la:Int) != (la:Int))=false:=by simp
   have HSa:=hide hSa
   have HSb:=hide hSb
   have HLa:=hide hlx
   have HLb:=hide hly
   have Hna:=hide hna
   have Hnb:=hide hnb
   clear hSa hSb hlx hly hna hnb hTa hTb
   gi_wp2_with (gi_at_call 51;refine(back_in F (n - 1) hfb hro _ _ _ _).mono ?_;rintro e w' ⟨rfl,rfl⟩)
   obtain⟨R,hR⟩:∃R:Nat→Prop,R=fun k=>k=w.heap.size+1+1+1∨(0<la∧inA A k):=⟨_,rfl⟩
   have hRn:∀i,R i→i<w.heap.size+1+1+1+1:=fun i hi=>by
     rw[hR]at hi
     rcases hi with hi | hi
     · omega
     · have:=HSa.out.inA_lt (by rw[HLa.out];exact hi.1) hi.2;omega
   have bT:=Box.new (((w.alloc (.cells #[.slice A la ca] 33)).alloc (.cells #[.slice B la cb] 33)).alloc (.cells #[.int .i64 0] 3)) 31 (.slice A la ca)
   rw[World.size_alloc,World.size_alloc,World.size_alloc]at bT
   have hB0:Below w.heap.size w ((((w.alloc (.cells #[.slice A la ca] 33)).alloc (.cells #[.slice B la cb] 33)).alloc (.cells #[.int .i64 0] 3)).alloc (.cells #[.slice A la ca] 31)):=((((Below.refl _ w).alloc (Nat.le_refl _) _).alloc (by simp) _).alloc (by simp;omega) _).alloc (by simp;omega) _
   refine wpIn_rangeFunc_ownG hro h1 (gf:=81) (lb:=#[.pointer (some ⟨w.heap.size+1+1+1,0,none⟩)]) rfl hf1 (enters_of Try.func81 (by kernel_rfl) rfl)
     (back_stops F (n - 1) hf1 hro (by omega) (w.heap.size+1+1+1) R A la ca xs HLa.out (by omega) _ (by rw[hR];exact .inl rfl) (by simp) bT.cell (HSa.out.ext (by repeat (first | (with_reducible exact Upd.refl _ _) | (with_reducible assumption) | (refine Upd.setCell ?_ (.inr (by first | exact Nat.le_refl _ | (dsimp only;omega) | (simp;done) | (simp;omega))) _) | (with_reducible refine Upd.alloc ?_ _) | (with_reducible refine Upd.drew ?_) | (with_reducible refine Upd.trans ?_ (by with_reducible assumption))))) (fun h0 k h=>by rw[hR];exact .inr ⟨h0,h⟩)) Kept.t (Kept.b (fun i hi=>by have:=hRn i hi;simp;omega)) (Below.refl _ _) (fun _=>rfl)
     (fun pre W=>((∀p∈pre,gat ys p.1=gat xs p.1)∧W.cell? ⟨w.heap.size+1+1,0,none⟩=some (.int .i64 0)∧W.frozen? ⟨w.heap.size+1+1,0,none⟩=false∧W.cell? ⟨w.heap.size+1,0,none⟩=some (.slice B la cb))∧Below w.heap.size w W)
     (fun c pre W=>CmpX xs ys (len:=la) (w.heap.size+1+1) c pre W∧Below w.heap.size w W)
     (OwnFrom.and (_root_.Go.Own.from (fun s A B row hs hg hr=>⟨hs.1,cell_kept hs.2.1 hg hr,(frozen_kept hs.2.1 hg hr).trans hs.2.2.1,cell_kept hs.2.2.2 hg hr⟩) _) (ownFrom_below (Nat.le_refl _) (by simp;omega)))
     (fun c=>OwnFrom.and (_root_.Go.Own.from (fun s A B row hs hg hr=>by obtain⟨hc,ini,last,e1,e2,e3,e4⟩:=hs;exact⟨hc,ini,last,e1,e2,e3,cell_kept e4 hg hr⟩) _) (ownFrom_below (Nat.le_refl _) (by simp;omega)))
     ⟨⟨by simp,by go_simp,by go_simp,by go_simp⟩,hB0⟩
     (fun x=>{tmps:=#[.agg #[.slice A la ca],.agg #[.slice B la cb],.pointer (some ⟨w.heap.size,0,none⟩),.pointer (some ⟨w.heap.size+1,0,none⟩),.pointer (some ⟨w.heap.size+1+1,0,none⟩),.int .i64 (x.1:Int),.int .u32 (n32 (gat xs x.1)),.pointer (some ⟨w.heap.size,0,none⟩),.slice A la ca,.int .i64 la,.pointer (some ⟨w.heap.size+1,0,none⟩),.slice B la cb,.int .i64 la,.bool false,undef,undef,undef,undef,undef,undef,undef,.pointer (some ⟨w.heap.size,0,none⟩),.slice A la ca,.func (.func 81) #[] #[.pointer (some ⟨w.heap.size+1+1+1,0,none⟩)],.int .i64 (x.1:Int),.int .u32 (n32 (gat xs x.1)),undef,undef,undef,undef,undef,undef,undef,undef,undef,undef,undef,undef,undef,undef],defers:=[]}) ?assign ?body ?done ?stop
   case assign=>
    intro l x W K hK
    dsimp only[bkv]
    gi_wp2
    exact hK
   case body=>
    rintro l pre x W ⟨⟨hp,hcr,hfr,hcb2⟩,hBl⟩ _
    obtain⟨b2,o2,hYe,hbl2,hcells⟩:=HSb.out.open_ (by have:=x.2;rw[HLb.out];omega)
    have hcy:W.cell? ⟨b2,o2+x.1,none⟩=some (.int .u32 (n32 (gat ys x.1))):=(hBl.cell (p:=⟨b2,o2+x.1,none⟩) hbl2).trans (hcells x.1 (by have:=x.2;rw[HLb.out];omega))
    have hxl:=x.2
    clear hcells
    subst hYe
    by_cases he:n32 (gat xs x.1)=n32 (gat ys x.1)
    · have he':(n32 (gat xs x.1) != n32 (gat ys x.1))=false:=by simp[he]
      have HE:=hide he
      clear he
      gi_wp2
      exact⟨KeepsFrom.refl _ _,Kept.refl _ _,⟨fun p hp'=>(List.mem_append.1 hp').elim (hp p) (fun e=>by simp at e;subst e;exact(n32_inj.1 HE.out).symm),hcr,hfr,hcb2⟩,hBl⟩
    · have he':(n32 (gat xs x.1) != n32 (gat ys x.1))=true:=by simp[he]
      by_cases hlt:n32 (gat xs x.1)<n32 (gat ys x.1)
      · gi_wp2
        exact⟨(KeepsOthers.setCell _ _ _).from _,⟨rfl,pre,x,rfl,hp,he,by rw[if_pos hlt];exact World.cell?_setCell_same' _ _ _ (by rw[hcr];rfl)⟩,hBl.setCell (p:=⟨w.heap.size+1+1,0,none⟩) (by simp;omega) _⟩
      · gi_wp2
        exact⟨(KeepsOthers.setCell _ _ _).from _,⟨rfl,pre,x,rfl,hp,he,by rw[if_neg (by omega)];exact World.cell?_setCell_same' _ _ _ (by rw[hcr];rfl)⟩,hBl.setCell (p:=⟨w.heap.size+1+1,0,none⟩) (by simp;omega) _⟩
   case done=>
    rintro D ys' W hD hBk ⟨⟨hp,hcr,hfr,hcb2⟩,hBl⟩ hK
    have hv:cmpI a b=0:=by
     rw[←Hna.out,←Hnb.out]
     exact cmp_same HLa.out HLb.out (fun i hi=>by
       obtain⟨x,hx,e⟩:=hBk.mem (j:=la - 1 - i) (by omega) (Nat.le_refl _)
       rw[show la - 1 - (la - 1 - i)=i by omega]at e
       rw[←e];exact hp x hx)
    have HVv:=hide hv
    clear hv
    gi_wp2
    have hK':=(KeepsOthers.setCell W ⟨w.heap.size+1+1,0,none⟩ (.int .i64 0)).same D _ hK rfl
    refine⟨by simp,.inl ⟨_,_,rfl,run_takeDeferred hK',?_⟩⟩
    have hc5:=cell_kept (World.cell?_setCell_same' W ⟨w.heap.size+1+1,0,none⟩ (.int .i64 0) (by rw[hcr];rfl)) (grownBy_putObj' _ D (.deferred none)) (fun r e=>by cases e;exact⟨_,hK',rfl⟩)
    refine⟨.int .i64 0,by simp[results,Try.f20,go_sem,hc5],by rw[HVv.out],ext_of_below ((hBl.setCell (p:=⟨w.heap.size+1+1,0,none⟩) (by simp;omega) _).trans (belowK_b (w:=w) (Nat.le_refl _) _ D _ _ (by simp at hD;omega) hK' rfl rfl))⟩
   case stop=>
    rintro D c pre W hD ⟨k',hk',hBk⟩ ⟨⟨rfl,ini,last,e1,e2,e3,hcr⟩,hBl⟩ hK
    have hv:cmpI a b=if n32 (gat xs last.1)<n32 (gat ys last.1) then -1 else 1:=by
      rw[←Hna.out,←Hnb.out]
      rw[e1]at hBk
      obtain⟨j,rfl,hBj,hlast⟩:=hBk.last
      exact cmp_first HLa.out HLb.out last.2 (fun i h1 h2=>by
        obtain⟨x,hx,e⟩:=hBj.mem (j:=la - 1 - i) (by omega) (by omega)
        rw[show la - 1 - (la - 1 - i)=i by omega]at e
        rw[←e];exact e2 x hx) e3
    have HVv:=hide hv
    clear hv
    gi_wp2
    refine⟨by simp,.inl ⟨_,_,rfl,run_takeDeferred hK,?_⟩⟩
    have hc5:=cell_kept hcr (grownBy_putObj' _ D (.deferred none)) (fun r e=>by cases e;exact⟨_,hK,rfl⟩)
    exact⟨.int .i64 (if n32 (gat xs last.1)<n32 (gat ys last.1) then -1 else 1),by simp[results,Try.f20,go_sem,hc5],by rw[HVv.out],ext_of_below (hBl.trans (belowK_b (w:=w) (Nat.le_refl _) _ D _ _ (by simp at hD;omega) hK rfl rfl))⟩
 · have hc:cmpI a b=1:=by
    have:=cmp_len (xs:=ys) (ys:=xs) (hlx▸hTa) (by omega)
    unfold cmpI;rw[if_neg (by omega),if_neg (by omega)]
   rw[hc]
   clear hc hna hnb hTa hTb hSa hSb hlx hly
   have hne:((la:Int) != (lb:Int))=true:=by rw[bne_iff_ne];omega
   have hne':la≠lb:=by omega
   have hle:¬la<lb:=by omega
   gi_wp2
   exact⟨.int .i64 1,(by simp[results,Try.f20,go_sem]),rfl,(by repeat (first | (with_reducible exact Upd.refl _ _) | (with_reducible assumption) | (refine Upd.setCell ?_ (.inr (by first | exact Nat.le_refl _ | (dsimp only;omega) | (simp;done) | (simp;omega))) _) | (with_reducible refine Upd.alloc ?_ _) | (with_reducible refine Upd.drew ?_) | (with_reducible refine Upd.trans ?_ (by with_reducible assumption))))⟩
theorem cmp_any (va vb:Value) (a b k:Nat) (w:World) (hVa:NatV w va a) (hVb:NatV w vb b) (hFa:Fit k a) (hFb:Fit k b) (hk:k≤1000000):
 Calls Try.prog 20 #[va,vb] w fun e W'=>e=.returned (.int .i64 (cmpI a b))∧Ext w W':=
 (callsIn_wide (n:=3)).1 (cmp_in Fence.wide 3 trivial trivial trivial rfl (by omega) va vb a b k w hVa hVb hFa hFb hk)
end
/- Differences of numbers, walked: Sub. -/
section
open Go.RowKit
open Nt
attribute [local go_sem] by32 wrap_w32
def RetO (w:World) (n:Nat) (t:Bool) (e:Ending) (w':World):Prop:=∃A l c,e=.returned (.tuple #[.agg #[.slice A l c],.bool t])∧NatV w' (.agg #[.slice A l c]) n∧Ext w w'
theorem cmpI_neg {a b:Nat}:(cmpI a b<0)=(a<b):=by
 unfold cmpI
 split
 · simp[*]
 · split<;>simp[*]
theorem cmpI_bd (a b:Nat): -1≤cmpI a b∧cmpI a b≤1:=by
 unfold cmpI
 split
 · omega
 · split<;>omega
theorem sub_next {xs ys zs:List (BitVec 32)} {N k b w':Nat} {s:Int} (hz:zs.length=N) (hk:k<N) (hv:vf W32 (dig d32 zs) k+vf W32 (dig d32 ys) k=vf W32 (dig d32 xs) k+b*W32^k)
 (hd:d32 (w32 s)+dig d32 ys k+b=dig d32 xs k+w'*W32):
 vf W32 (dig d32 (zs.set k (w32 s))) (k+1)+vf W32 (dig d32 ys) (k+1)=vf W32 (dig d32 xs) (k+1)+w'*W32^(k+1):=by
 refine sub_step (w:=b) ?_ ?_
 · rw[←hv]
   congr 1
   exact vf_congr fun i hi=>by rw[dig_set (by omega),if_neg (by omega)]
 · rw[dig_set (by omega),if_pos rfl];exact hd
theorem sub_val {xs ys zs:List (BitVec 32)} {la lb a b w:Nat} (hz:zs.length=la) (hx:xs.length=la) (hy:ys.length=lb) (hle:lb≤la) (ha:numOf W32 d32 xs=a) (hb:numOf W32 d32 ys=b) (hv:vf W32 (dig d32 zs) la+vf W32 (dig d32 ys) la=vf W32 (dig d32 xs) la+w*W32^la) (hab:b≤a):
 numOf W32 d32 zs=a - b:=by
 have h1:vf W32 (dig d32 ys) la=b:=by rw[←hb];exact vf_out rfl (by omega)
 have h2:vf W32 (dig d32 xs) la=a:=by rw[←ha];unfold numOf;rw[hx]
 have hw:=sub_end hv (fun i _=>d32_lt _) (by omega)
 subst hw
 unfold numOf
 rw[hz]
 omega
set_option maxRecDepth 100000 in
set_option maxHeartbeats 2000000 in
theorem sub_any (va vb:Value) (a b k:Nat) (w:World) (hVa:NatV w va a) (hVb:NatV w vb b) (hFa:Fit k a) (hFb:Fit k b) (hk:k≤1000000):
 Calls Try.prog 28 #[va,vb] w (if a<b then RetO w 0 false else RetO w (a - b) true):=by
 obtain⟨A,la,ca,xs,rfl,hlx,hca,hma,hSa,hTa,hna⟩:=hVa.open_
 obtain⟨B,lb,cb,ys,rfl,hly,hcb,hmb,hSb,hTb,hnb⟩:=hVb.open_
 have hla:la≤k:=hlx▸Fit.len (hlx▸hTa) hna hFa
 have hlb:lb≤k:=hly▸Fit.len (hly▸hTb) hnb hFb
 have hcb2:=cmpI_bd a b
 by_cases hab:a<b
 · rw[if_pos hab]
   have hcn:cmpI a b<0:=by rw[cmpI_neg];exact hab
   clear hTa hTb hSa hSb hna hnb hlx hly hcb2
   go_enter Try.func28,Try.ntmps28
   go_wp2_with (go_at_call 20;refine(cmp_any _ _ a b k _ (hVa.ext (by repeat (first | (with_reducible exact Upd.refl _ _) | (with_reducible assumption) | (refine Upd.setCell ?_ (.inr (by first | exact Nat.le_refl _ | (dsimp only;omega) | (simp;done) | (simp;omega))) _) | (with_reducible refine Upd.alloc ?_ _) | (with_reducible refine Upd.drew ?_) | (with_reducible refine Upd.trans ?_ (by with_reducible assumption))))) (hVb.ext (by repeat (first | (with_reducible exact Upd.refl _ _) | (with_reducible assumption) | (refine Upd.setCell ?_ (.inr (by first | exact Nat.le_refl _ | (dsimp only;omega) | (simp;done) | (simp;omega))) _) | (with_reducible refine Upd.alloc ?_ _) | (with_reducible refine Upd.drew ?_) | (with_reducible refine Upd.trans ?_ (by with_reducible assumption))))) hFa hFb hk).mono ?_;rintro e w4 ⟨rfl,hU⟩;have hB3:Box w4 (w.heap.size+1+1) 33 (.slice none 0 0):=(by repeat (first | (with_reducible refine Box.new_at ?_;(simp;done)) | (with_reducible assumption) | (with_reducible refine Box.alloc ?_ _) | (with_reducible refine Box.drew ?_) | (with_reducible refine Box.ext ?_ (by with_reducible assumption))));have c3:=hB3.cell;have f3:=hB3.frozen)
   exact bodyPost_ret (v:=.tuple #[.agg #[.slice none 0 0],.bool false]) (by simp[results,Try.results28,go_sem,c3]) rfl ⟨_,_,_,rfl,NatV.nil _,(by repeat (first | (with_reducible exact Upd.refl _ _) | (with_reducible assumption) | (refine Upd.setCell ?_ (.inr (by first | exact Nat.le_refl _ | (dsimp only;omega) | (simp;done) | (simp;omega))) _) | (with_reducible refine Upd.alloc ?_ _) | (with_reducible refine Upd.drew ?_) | (with_reducible refine Upd.trans ?_ (by with_reducible assumption))))⟩
 · rw[if_neg hab]
   have hcn:0≤cmpI a b:=by
    rcases Int.lt_or_le (cmpI a b) 0 with h | h
    · rw[cmpI_neg]at h;exact absurd h hab
    · exact h
   have hle:lb≤la:=by
    rcases Nat.lt_or_ge la lb with h | h
    · have:=cmp_len (xs:=xs) (ys:=ys) (hly▸hTb) (by omega)
      rw[hna,hnb]at this;omega
    · exact h
   have HSa:=hide hSa
   have HSb:=hide hSb
   have HLa:=hide hlx
   have HLb:=hide hly
   have Hna:=hide hna
   have Hnb:=hide hnb
   clear hTa hTb hSa hSb hna hnb hlx hly hcb2
   go_enter Try.func28,Try.ntmps28
   go_wp2_with (first
    | (go_at_call 20;refine(cmp_any _ _ a b k _ (hVa.ext (by repeat (first | (with_reducible exact Upd.refl _ _) | (with_reducible assumption) | (refine Upd.setCell ?_ (.inr (by first | exact Nat.le_refl _ | (dsimp only;omega) | (simp;done) | (simp;omega))) _) | (with_reducible refine Upd.alloc ?_ _) | (with_reducible refine Upd.drew ?_) | (with_reducible refine Upd.trans ?_ (by with_reducible assumption))))) (hVb.ext (by repeat (first | (with_reducible exact Upd.refl _ _) | (with_reducible assumption) | (refine Upd.setCell ?_ (.inr (by first | exact Nat.le_refl _ | (dsimp only;omega) | (simp;done) | (simp;omega))) _) | (with_reducible refine Upd.alloc ?_ _) | (with_reducible refine Upd.drew ?_) | (with_reducible refine Upd.trans ?_ (by with_reducible assumption))))) hFa hFb hk).mono ?_;rintro e w4 ⟨rfl,hU⟩;have hB1:Box w4 w.heap.size 33 (.slice A la ca):=(by repeat (first | (with_reducible refine Box.new_at ?_;(simp;done)) | (with_reducible assumption) | (with_reducible refine Box.alloc ?_ _) | (with_reducible refine Box.drew ?_) | (with_reducible refine Box.ext ?_ (by with_reducible assumption))));have hB2:Box w4 (w.heap.size+1) 33 (.slice B lb cb):=(by repeat (first | (with_reducible refine Box.new_at ?_;(simp;done)) | (with_reducible assumption) | (with_reducible refine Box.alloc ?_ _) | (with_reducible refine Box.drew ?_) | (with_reducible refine Box.ext ?_ (by with_reducible assumption))));have hB3:Box w4 (w.heap.size+1+1) 33 (.slice none 0 0):=(by repeat (first | (with_reducible refine Box.new_at ?_;(simp;done)) | (with_reducible assumption) | (with_reducible refine Box.alloc ?_ _) | (with_reducible refine Box.drew ?_) | (with_reducible refine Box.ext ?_ (by with_reducible assumption))));have c1:=hB1.cell;have hE4:Ext w w4:=(by repeat (first | (with_reducible exact Upd.refl _ _) | (with_reducible assumption) | (refine Upd.setCell ?_ (.inr (by first | exact Nat.le_refl _ | (dsimp only;omega) | (simp;done) | (simp;omega))) _) | (with_reducible refine Upd.alloc ?_ _) | (with_reducible refine Upd.drew ?_) | (with_reducible refine Upd.trans ?_ (by with_reducible assumption))));clear hU hVa hVb)
    | (at_make;go_must (refine wpList_mk _ _ _ Try.n_el32 rfl rfl la rfl rfl rfl rfl (by omega) (by unfold maxLen;omega) by32 rfl rfl (B:=w4.heap.size) (Nat.le_refl _) ?_);intro g w5 hO hg hU5;have hB1':=hB1.ext hU5;have c1':=hB1'.cell))
   subst hg
   have hB2':=hB2.ext hU5
   have hB3':=hB3.ext hU5
   have hE5:=hE4.trans hU5
   have h3:=hB3.lt
   clear c1 c1' hB1 hB2 hB3 hU5 hcn
   go_loopw [23,7] (fun i bo wr=>∃(j b:Nat) (zs:List (BitVec 32)),j≤la∧i=.int .i64 j∧bo=.int .i64 b∧b≤1∧zs.length=la∧Own wr w4.heap.size 71 (some ⟨w4.heap.size,0,none⟩) la (zs.map by32)∧vf W32 (dig d32 zs) j+vf W32 (dig d32 ys) j=vf W32 (dig d32 xs) j+b*W32^j∧Box wr w.heap.size 33 (.slice A la ca)∧Box wr (w.heap.size+1) 33 (.slice B lb cb)∧Box wr (w.heap.size+1+1) 33 (.slice none 0 0)∧Ext w wr) (fun i _ _=>la - (intOf i).toNat)
   case atStart=>exact⟨0,0,_,Nat.zero_le _,rfl,rfl,Nat.zero_le _,List.length_replicate,hO,by simp[vf],hB1',hB2',hB3',hE5⟩
   case round=>
    clear hO hB1' hB2' hB3' hE5
    obtain⟨j,b,zs,hj,rfl,rfl,hb,hzl,hO,hv,hB1,hB2,hB3,hE⟩:=hrel
    have Hzl:=hide hzl
    have Hv:=hide hv
    clear hzl hv
    have c1:=hB1.cell
    have c2:=hB2.cell
    by_cases hj':j<la
    · obtain⟨x1,x2⟩:=n32_bd (gat xs j)
      obtain⟨b1,o1,hAe,hbl1,hcells⟩:=(HSa.out.ext hE).open_ (by rw[HLa.out];omega)
      have hcell:=hcells j (by rw[HLa.out];omega)
      subst hAe
      clear hcells
      by_cases hjb:j<lb
      · obtain⟨y1,y2⟩:=n32_bd (gat ys j)
        obtain⟨b2,o2,hBe,hbl2,hcells⟩:=(HSb.out.ext hE).open_ (by rw[HLb.out];omega)
        have hcell2:=hcells j (by rw[HLb.out];omega)
        subst hBe
        clear hcells
        by_cases hd:n32 (gat xs j) - (b:Int) - n32 (gat ys j)<0
        ·
         go_wp2_with (refine wpList_store_own by32 one32 (w32 (n32 (gat xs j) - (b:Int) - n32 (gat ys j)+4294967296)) rfl rfl Try.n_sz32 rfl rfl hO (by rw[Hzl.out];omega) ?_;intro w3 hO3 hU3)
         have hsd:=sub_digit (a:=d32 (gat xs j)) (b:=d32 (gat ys j)) (w:=b) (s:=n32 (gat xs j) - (b:Int) - n32 (gat ys j)) (d:=(n32 (gat xs j) - (b:Int) - n32 (gat ys j)+4294967296).toNat) (w':=1) (by rw[n32_d];rw[n32_d];omega) (d32_lt _) (d32_lt _) hb (.inl ⟨hd,rfl,rfl⟩)
         have hdd:=d32_int (s:=n32 (gat xs j) - (b:Int) - n32 (gat ys j)+4294967296) (d:=(n32 (gat xs j) - (b:Int) - n32 (gat ys j)+4294967296).toNat) (by omega) hsd.2
         have hn1:∀g,g<w.heap.size+1+1+1→g<w4.heap.size:=fun g hg=>by omega
         go_roundw
         case rel=>exact⟨j+1,1,_,by omega,by go_num,rfl,by omega,by rw[List.length_set];exact Hzl.out,hO3,sub_next Hzl.out hj' Hv.out (by rw[hdd];exact hsd.1),hB1.upd hU3 (fun h=>by unfold only at h;omega),hB2.upd hU3 (fun h=>by unfold only at h;omega),hB3.upd hU3 (fun h=>by unfold only at h;omega),Upd.fresh hU3 hE (fun i hi=>by unfold only at hi;omega)⟩
         case measure=>simp[intOf];omega
        · have hd':0≤n32 (gat xs j) - (b:Int) - n32 (gat ys j):=by omega
          go_wp2_with (refine wpList_store_own by32 one32 (w32 (n32 (gat xs j) - (b:Int) - n32 (gat ys j))) rfl rfl Try.n_sz32 rfl rfl hO (by rw[Hzl.out];omega) ?_;intro w3 hO3 hU3)
          have hsd:=sub_digit (a:=d32 (gat xs j)) (b:=d32 (gat ys j)) (w:=b) (s:=n32 (gat xs j) - (b:Int) - n32 (gat ys j)) (d:=(n32 (gat xs j) - (b:Int) - n32 (gat ys j)).toNat) (w':=0) (by rw[n32_d];rw[n32_d];omega) (d32_lt _) (d32_lt _) hb (.inr ⟨hd',rfl,rfl⟩)
          have hdd:=d32_int (s:=n32 (gat xs j) - (b:Int) - n32 (gat ys j)) (d:=(n32 (gat xs j) - (b:Int) - n32 (gat ys j)).toNat) (by omega) hsd.2
          have hn1:∀g,g<w.heap.size+1+1+1→g<w4.heap.size:=fun g hg=>by omega
          go_roundw
          case rel=>exact⟨j+1,0,_,by omega,by go_num,rfl,by omega,by rw[List.length_set];exact Hzl.out,hO3,sub_next Hzl.out hj' Hv.out (by rw[hdd];exact hsd.1),hB1.upd hU3 (fun h=>by unfold only at h;omega),hB2.upd hU3 (fun h=>by unfold only at h;omega),hB3.upd hU3 (fun h=>by unfold only at h;omega),Upd.fresh hU3 hE (fun i hi=>by unfold only at hi;omega)⟩
          case measure=>simp[intOf];omega
      · by_cases hd:n32 (gat xs j) - (b:Int)<0
        ·
         go_wp2_with (refine wpList_store_own by32 one32 (w32 (n32 (gat xs j) - (b:Int)+4294967296)) rfl rfl Try.n_sz32 rfl rfl hO (by rw[Hzl.out];omega) ?_;intro w3 hO3 hU3)
         have hsd:=sub_digit (a:=d32 (gat xs j)) (b:=0) (w:=b) (s:=n32 (gat xs j) - (b:Int)) (d:=(n32 (gat xs j) - (b:Int)+4294967296).toNat) (w':=1) (by rw[n32_d];omega) (d32_lt _) (by decide) hb (.inl ⟨hd,rfl,rfl⟩)
         have hdd:=d32_int (s:=n32 (gat xs j) - (b:Int)+4294967296) (d:=(n32 (gat xs j) - (b:Int)+4294967296).toNat) (by omega) hsd.2
         have hn1:∀g,g<w.heap.size+1+1+1→g<w4.heap.size:=fun g hg=>by omega
         go_roundw
         case rel=>exact⟨j+1,1,_,by omega,by go_num,rfl,by omega,by rw[List.length_set];exact Hzl.out,hO3,sub_next Hzl.out hj' Hv.out (by rw[hdd];rw[dig_out (xs:=ys) rfl (by rw[HLb.out];omega)];exact hsd.1),hB1.upd hU3 (fun h=>by unfold only at h;omega),hB2.upd hU3 (fun h=>by unfold only at h;omega),hB3.upd hU3 (fun h=>by unfold only at h;omega),Upd.fresh hU3 hE (fun i hi=>by unfold only at hi;omega)⟩
         case measure=>simp[intOf];omega
        · have hd':0≤n32 (gat xs j) - (b:Int):=by omega
          go_wp2_with (refine wpList_store_own by32 one32 (w32 (n32 (gat xs j) - (b:Int))) rfl rfl Try.n_sz32 rfl rfl hO (by rw[Hzl.out];omega) ?_;intro w3 hO3 hU3)
          have hsd:=sub_digit (a:=d32 (gat xs j)) (b:=0) (w:=b) (s:=n32 (gat xs j) - (b:Int)) (d:=(n32 (gat xs j) - (b:Int)).toNat) (w':=0) (by rw[n32_d];omega) (d32_lt _) (by decide) hb (.inr ⟨hd',rfl,rfl⟩)
          have hdd:=d32_int (s:=n32 (gat xs j) - (b:Int)) (d:=(n32 (gat xs j) - (b:Int)).toNat) (by omega) hsd.2
          have hn1:∀g,g<w.heap.size+1+1+1→g<w4.heap.size:=fun g hg=>by omega
          go_roundw
          case rel=>exact⟨j+1,0,_,by omega,by go_num,rfl,by omega,by rw[List.length_set];exact Hzl.out,hO3,sub_next Hzl.out hj' Hv.out (by rw[hdd];rw[dig_out (xs:=ys) rfl (by rw[HLb.out];omega)];exact hsd.1),hB1.upd hU3 (fun h=>by unfold only at h;omega),hB2.upd hU3 (fun h=>by unfold only at h;omega),hB3.upd hU3 (fun h=>by unfold only at h;omega),Upd.fresh hU3 hE (fun i hi=>by unfold only at hi;omega)⟩
          case measure=>simp[intOf];omega
    · obtain rfl:j=la:=by omega
      have cf3:=hB3.cell
      go_wp2_with (go_at_call 25;refine(trim_any _ j j zs _ Hzl.out (Nat.le_refl _) (by unfold maxLen;omega) hO.sl).mono ?_;rintro e w6 ⟨A6,l6,c6,rfl,hV6,hU6⟩;have hB5:=hB3.ext hU6;have c5:=hB5.cell;have f5:=hB5.frozen)
      exact bodyPost_ret (v:=.tuple #[.agg #[.slice A6 l6 c6],.bool true]) (by simp[results,Try.results28,go_sem,c5]) rfl ⟨_,_,_,rfl,(hV6.of_eq (sub_val Hzl.out HLa.out HLb.out hle Hna.out Hnb.out Hv.out (by omega))).far c5,(by repeat (first | (with_reducible exact Upd.refl _ _) | (with_reducible assumption) | (refine Upd.setCell ?_ (.inr (by first | exact Nat.le_refl _ | (dsimp only;omega) | (simp;done) | (simp;omega))) _) | (with_reducible refine Upd.alloc ?_ _) | (with_reducible refine Upd.drew ?_) | (with_reducible refine Upd.trans ?_ (by with_reducible assumption))))⟩
end
end Go.Proofs.Ytbhhjfhepkbfgaa
