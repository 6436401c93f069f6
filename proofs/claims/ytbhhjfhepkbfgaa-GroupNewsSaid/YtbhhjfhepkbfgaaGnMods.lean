/- Merged: ModA ModB ModC ModE RefM. -/
import Derived.Test.YtbhhjfhepkbfgaaGnRefs
namespace Go.Proofs.Ytbhhjfhepkbfgaa
set_option linter.unusedSimpArgs false
set_option linter.unusedVariables false
/- Rings of numbers, walked: New, Modulus. -/
section
open Go.RowKit
open Nt
attribute [local go_sem] steady steadyUpon Cls same_cell
attribute [local irreducible] wpHead wpTree
def Two (w:World) (g:Nat) (t:TypeId) (a b:Value):Prop:=w.heap[g]? =some (.cells #[a,b] t (0,0))
section two
variable {w w' : World} {g : Nat} {t : TypeId} {a b u : Value} {T : Nat → Prop}
theorem Two.lt (h:Two w g t a b):g<w.heap.size:=(Array.getElem?_eq_some_iff.1 h).1
theorem Two.cell0 (h:Two w g t a b):w.cell? ⟨g,0,none⟩=some a:=by unfold Two at h;simp[World.cell?,h]
theorem Two.cell1 (h:Two w g t a b):w.cell? ⟨g,1,none⟩=some b:=by unfold Two at h;simp[World.cell?,h]
theorem Two.frozen (h:Two w g t a b) (o:Nat):w.frozen? ⟨g,o,none⟩=false:=by unfold Two at h;simp[World.frozen?,h]
theorem Two.upd (h:Two w g t a b) (hu:Upd T w w') (hT:¬T g):Two w' g t a b:=(hu.block g h.lt hT).trans h
theorem Two.ext (h:Two w g t a b) (hu:Ext w w'):Two w' g t a b:=h.upd hu (fun h=>h)
theorem Two.new (w:World) (t:TypeId) (a b:Value):Two (w.alloc (.cells #[a,b] t)) w.heap.size t a b:=heap_alloc_new w _
theorem Two.drew (h:Two w g t a b):Two w.drew g t a b:=h
theorem Two.set1 (h:Two w g t a b) (u:Value):Two (w.setCell ⟨g,1,none⟩ u) g t a u:=by
 unfold Two at*;simp[World.setCell,Array.getElem?_modify,h]
theorem Two.far (h:Two w g t a b) {p:Addr} (hp:g≠p.block) (u:Value):Two (w.setCell p u) g t a b:=(Below.heap_setCell w p u g hp).trans h
end two
theorem NatV.far64 {w:World} {s:Value} {n:Nat} {p:Addr} {m:Int} {v:Value} (h:NatV w s n) (hc:w.cell? p=some (.int .u64 m)):NatV (w.setCell p v) s n:=by
 obtain⟨s,rfl,h⟩:=h
 exact⟨s,rfl,h.far hc (fun x e=>by unfold by32 at e;injection e with e;cases e)⟩
def smallOf (n:Nat):Int:=if n<4294967296 then (n:Int) else 0
def RingV (w:World) (g n:Nat):Prop:=∃A l c,Two w g 114 (.slice A l c) (.int .u64 (smallOf n))∧NatV w (.agg #[.slice A l c]) n∧2≤n
theorem RingV.ext {w w':World} {g n:Nat} (h:RingV w g n) (hu:Ext w w'):RingV w' g n:=by
 obtain⟨A,l,c,h1,h2,h3⟩:=h
 exact⟨A,l,c,h1.ext hu,h2.ext hu,h3⟩
theorem RingV.two {w:World} {g n:Nat} (h:RingV w g n):2≤n:=by
 obtain⟨A,l,c,h1,h2,h3⟩:=h
 exact h3
def RetRing (w:World) (n:Nat) (e:Ending) (w':World):Prop:=∃g,e=.returned (.tuple #[.pointer (some ⟨g,0,none⟩),.int .i64 0])∧RingV w' g n∧w.heap.size≤g∧Ext w w'
set_option maxRecDepth 100000 in
set_option maxHeartbeats 1000000 in
theorem mnew_no (v:Value) (n k:Nat) (w:World) (hV:NatV w v n) (hF:Fit k n) (hk:k≤1000000) (hn:n<2) (hk1:1≤k):
 Calls Try.prog 32 #[v] w fun e w'=>e=.returned (.tuple #[.pointer none,.int .i64 1])∧Ext w w':=by
 obtain⟨A,l,c,xs,rfl, -⟩:=hV.open_
 have hc:cmpI n 2= -1:=cmpI_lt hn
 have hF2:Fit k 2:=Fit.mono (by unfold Fit;decide) hk1
 go_enter Try.func32,Try.ntmps32
 go_wp2_with fail
 have b1:Box (w.alloc (.cells #[.slice A l c] 33)) w.heap.size 33 (.slice A l c):=Box.new _ _ _
 have hE:Ext w (w.alloc (.cells #[.slice A l c] 33)):=(by repeat (first | (with_reducible exact Upd.refl _ _) | (with_reducible assumption) | (refine Upd.setCell ?_ (.inr (by first | exact Nat.le_refl _ | (dsimp only;omega) | (simp;done) | (simp;omega))) _) | (with_reducible refine Upd.alloc ?_ _) | (with_reducible refine Upd.drew ?_) | (with_reducible refine Upd.trans ?_ (by with_reducible assumption))))
 generalize (w.alloc (.cells #[.slice A l c] 33))=W at b1 hE ⊢
 have hG:Ext W.drew W.drew:=Upd.refl _ _
 have k1:=fun x:Wd (Ext W.drew)=>(x.ok.cell (p:=⟨w.heap.size,0,none⟩) b1.drew.lt (fun h=>h)).trans b1.drew.cell
 refine wp_region_plan (Ext _) 3 [(false,0),(true,1),(true,2)] (by kernel_rfl) (by kernel_rfl) (Upd.refl _ _) (fun hne=>?_)
 repeat (refine head_q rfl (fun K hK=>?_);have hK2:=hide hK;clear hK;go_simp;refine hK2.out _ ?_;clear hK2 K)
 refine head_l rfl ?_
 go_wp2_with (go_at_call 6;go_must (refine(new_any 2 _ (by omega)).mono ?_);rintro e w2 ⟨A2,l2,c2,rfl,hV2,hU⟩;replace hG:=hG.trans hU)
 refine⟨Cls (Ext _),fun _ h=>h,⟨⟨_,hG⟩,rfl⟩,?_⟩
 repeat (refine head_q rfl (fun K hK=>?_);have hK2:=hide hK;clear hK;go_simp;refine hK2.out _ ?_;clear hK2 K)
 refine head_l rfl ?_
 go_wp2_with (go_at_call 20;go_must (refine(cmp_any _ _ n 2 k _ (hV.ext (hE.trans hG.undrew)) hV2 hF hF2 hk).mono ?_);rintro e w3 ⟨rfl,hU⟩;rw[hc];replace hG:=hG.trans hU)
 refine⟨Cls (Ext _),fun _ h=>h,⟨⟨_,hG⟩,rfl⟩,?_⟩
 repeat (refine head_q rfl (fun K hK=>?_);have hK2:=hide hK;clear hK;go_simp;refine hK2.out _ ?_;clear hK2 K)
 refine head_nil ?_
 try simp only[List.drop_succ_cons,List.drop_zero]
 go_wp2_with fail
 go_ret2
 exact⟨rfl,hE.trans hG.undrew⟩
set_option maxRecDepth 100000 in
set_option maxHeartbeats 1000000 in
theorem mnew_yes (v:Value) (n k:Nat) (w:World) (hV:NatV w v n) (hF:Fit k n) (hk:k≤1000000) (hn:2≤n):
 Calls Try.prog 32 #[v] w (RetRing w n):=by
 obtain⟨A,l,c,xs,rfl, -⟩:=hV.open_
 have hc:=hide (cmpI_ge hn)
 have hc2:0≤cmpI n 2:=hc.out
 have hF2:Fit k 2:=hF.le hn
 go_enter Try.func32,Try.ntmps32
 go_wp2_with fail
 have b1:Box (w.alloc (.cells #[.slice A l c] 33)) w.heap.size 33 (.slice A l c):=Box.new _ _ _
 have hE:Ext w (w.alloc (.cells #[.slice A l c] 33)):=(by repeat (first | (with_reducible exact Upd.refl _ _) | (with_reducible assumption) | (refine Upd.setCell ?_ (.inr (by first | exact Nat.le_refl _ | (dsimp only;omega) | (simp;done) | (simp;omega))) _) | (with_reducible refine Upd.alloc ?_ _) | (with_reducible refine Upd.drew ?_) | (with_reducible refine Upd.trans ?_ (by with_reducible assumption))))
 generalize (w.alloc (.cells #[.slice A l c] 33))=W at b1 hE ⊢
 have hG:Ext W.drew W.drew:=Upd.refl _ _
 have k1:=fun x:Wd (Ext W.drew)=>(x.ok.cell (p:=⟨w.heap.size,0,none⟩) b1.drew.lt (fun h=>h)).trans b1.drew.cell
 refine wp_region_plan (Ext _) 3 [(false,0),(true,1),(true,2)] (by kernel_rfl) (by kernel_rfl) (Upd.refl _ _) (fun hne=>?_)
 repeat (refine head_q rfl (fun K hK=>?_);have hK2:=hide hK;clear hK;go_simp;refine hK2.out _ ?_;clear hK2 K)
 refine head_l rfl ?_
 go_wp2_with (go_at_call 6;go_must (refine(new_any 2 _ (by omega)).mono ?_);rintro e w2 ⟨A2,l2,c2,rfl,hV2,hU⟩;replace hG:=hG.trans hU)
 refine⟨Cls (Ext _),fun _ h=>h,⟨⟨_,hG⟩,rfl⟩,?_⟩
 repeat (refine head_q rfl (fun K hK=>?_);have hK2:=hide hK;clear hK;go_simp;refine hK2.out _ ?_;clear hK2 K)
 refine head_l rfl ?_
 go_wp2_with (go_at_call 20;go_must (refine(cmp_any _ _ n 2 k _ (hV.ext (hE.trans hG.undrew)) hV2 hF hF2 hk).mono ?_);rintro e w3 ⟨rfl,hU⟩;replace hG:=hG.trans hU)
 refine⟨Cls (Ext _),fun _ h=>h,⟨⟨_,hG⟩,rfl⟩,?_⟩
 repeat (refine head_q rfl (fun K hK=>?_);have hK2:=hide hK;clear hK;go_simp;refine hK2.out _ ?_;clear hK2 K)
 refine head_nil ?_
 try simp only[List.drop_succ_cons,List.drop_zero]
 replace b1:=b1.ext hG.undrew
 replace hE:=hE.trans hG.undrew
 clear hG k1 hU hV2
 have c1:=(b1.alloc (.cells #[.slice A l c,.int .u64 0] 114)).cell
 have c0:=b1.cell
 go_wp2_with fail
 have g1:Two (w3.alloc (.cells #[.slice A l c,.int .u64 0] 114)) w3.heap.size 114 (.slice A l c) (.int .u64 0):=Two.new _ _ _ _
 have hE4:=hE.alloc (.cells #[.slice A l c,.int .u64 0] 114)
 have hz4:=hE.size
 generalize (w3.alloc (.cells #[.slice A l c,.int .u64 0] 114))=X at g1 hE4 ⊢
 refine(uint_any _ n _ (hV.ext hE4)).mono ?_
 rintro e w5 ⟨rfl,hU⟩
 replace g1:=g1.ext hU
 replace hE4:=hE4.trans hU
 clear hU c1 c0
 have hVn:=hV.ext hE4
 by_cases h32:n<4294967296
 · rw[if_pos (by omega),decide_eq_true (by omega)]
   have hbd:(n:Int)<4294967296:=by omega
   have f1:=g1.frozen 1
   have k1:=g1.cell1
   go_wp2_with fail
   go_ret2
   refine⟨_,rfl,⟨A,l,c,?_,hVn.far64 k1,hn⟩,hz4,hE4.setCell (p:=⟨w3.heap.size,1,none⟩) (.inr hz4) _⟩
   have:=g1.set1 (.int .u64 n)
   unfold smallOf
   rwa [if_pos h32]
 · have hs:smallOf n=0:=by unfold smallOf;rw[if_neg h32]
   by_cases h64:n<18446744073709551616
   · rw[if_pos h64,decide_eq_true h64]
     have hbd:decide ((n:Int)<4294967296)=false:=by rw[decide_eq_false_iff_not];omega
     clear h64 h32
     go_wp2_with fail
     go_ret2
     exact⟨_,rfl,⟨A,l,c,by rw[hs];exact g1,hVn,hn⟩,hz4,hE4⟩
   · rw[if_neg h64,decide_eq_false h64]
     clear h64 h32
     go_wp2_with fail
     go_ret2
     exact⟨_,rfl,⟨A,l,c,by rw[hs];exact g1,hVn,hn⟩,hz4,hE4⟩
theorem mmod_any (g n:Nat) (w:World) (hR:RingV w g n):Calls Try.prog 58 #[.pointer (some ⟨g,0,none⟩)] w (RetN w n):=by
 obtain⟨A,l,c,h2,hV,hn⟩:=hR
 go_enter Try.func58,Try.ntmps58
 have b1:Box (w.alloc (.cells #[.slice none 0 0] 33)) w.heap.size 33 (.slice none 0 0):=Box.new _ _ _
 have hE:Ext w (w.alloc (.cells #[.slice none 0 0] 33)):=(by repeat (first | (with_reducible exact Upd.refl _ _) | (with_reducible assumption) | (refine Upd.setCell ?_ (.inr (by first | exact Nat.le_refl _ | (dsimp only;omega) | (simp;done) | (simp;omega))) _) | (with_reducible refine Upd.alloc ?_ _) | (with_reducible refine Upd.drew ?_) | (with_reducible refine Upd.trans ?_ (by with_reducible assumption))))
 have c0:=(h2.ext hE).cell0
 have c1:=b1.cell
 have c2:=b1.frozen
 go_wp2_with fail
 have q:=(b1.set (.slice A l c)).cell
 exact bodyPost_ret (v:=.agg #[.slice A l c]) (by simp[results,Try.results58,go_sem,q]) rfl ⟨_,_,_,rfl,hV.ext (by repeat (first | (with_reducible exact Upd.refl _ _) | (with_reducible assumption) | (refine Upd.setCell ?_ (.inr (by first | exact Nat.le_refl _ | (dsimp only;omega) | (simp;done) | (simp;omega))) _) | (with_reducible refine Upd.alloc ?_ _) | (with_reducible refine Upd.drew ?_) | (with_reducible refine Upd.trans ?_ (by with_reducible assumption)))),(by repeat (first | (with_reducible exact Upd.refl _ _) | (with_reducible assumption) | (refine Upd.setCell ?_ (.inr (by first | exact Nat.le_refl _ | (dsimp only;omega) | (simp;done) | (simp;omega))) _) | (with_reducible refine Upd.alloc ?_ _) | (with_reducible refine Upd.drew ?_) | (with_reducible refine Upd.trans ?_ (by with_reducible assumption))))⟩
end
/- Rings of numbers, walked: Of, Add, Sub, Mul. -/
section
open Go.RowKit
open Nt
attribute [local go_sem] steady steadyUpon Cls same_cell
attribute [local irreducible] wpHead wpTree
set_option maxRecDepth 100000 in
set_option maxHeartbeats 4000000 in
theorem mof_any (v:Value) (g a n k:Nat) (w:World) (hR:RingV w g n) (hV:NatV w v a) (hFa:Fit k a) (hFn:Fit k n) (hk:k≤1000000):
 Calls Try.prog 34 #[.pointer (some ⟨g,0,none⟩),v] w (RetN w (a % n)):=by
 obtain⟨A,l,c,xs,rfl, -⟩:=hV.open_
 obtain⟨D,ld,cd,g2,hVn,hn⟩:=hR
 have hn0:0<n:=by omega
 clear hn
 go_enter Try.func34,Try.ntmps34
 go_wp2_with fail
 refine name_w (fun W hW=>?_)
 have b1:Box W w.heap.size 33 (.slice A l c):=by rw[hW];exact(Box.new _ _ _).alloc _
 have b2:Box W (w.heap.size+1) 33 (.slice none 0 0):=by rw[hW];exact Box.new_at (by simp)
 have hEW:Ext w W:=by rw[hW];exact((Upd.refl _ w).alloc _).alloc _
 clear hW
 replace g2:=g2.ext hEW
 replace hV:=hV.ext hEW
 replace hVn:=hVn.ext hEW
 refine wp_region_fs 14 [.val (.eq (.agg #[.slice A l c])),.val (.eq (.pointer (some ⟨g,0,none⟩))),.val (.eq (.pointer (some ⟨g,0,none⟩))),.val (.eq (.pointer (some ⟨g,0,none⟩))),.val (.eq (.agg #[.slice D ld cd])),.tup3 (.nat (a / n)) (.nat (a % n)) (.eq (.int .i64 0)),.tup3 (.nat (a / n)) (.nat (a % n)) (.eq (.int .i64 0)),.val (.nat (a / n)),.val (.nat (a % n)),.val (.eq (.int .i64 0)),.new 33 (.slice none 0 0),.new 33 (.slice none 0 0),.set 10 33 (a / n),.set 11 33 (a % n)] [(12,10),(13,11)] (by kernel_rfl) rfl (by kernel_rfl) (by kernel_rfl) (by kernel_rfl) ?_ ?_
 · intro i hi
   match i,hi with
   | 0,_=>
     intro u wx S o ho hE hr hd hw
     injection (ho:some _=some o)with ho
     subst ho
     have hEx:Ext W wx:=hE.undrew
     have cx:=(b1.ext hEx).cell
     simp only[fr,dstOf]
     go_simp
     go_wp2
     first | exact⟨Upd.refl _ _,rfl⟩ | exact⟨_,rfl,Upd.refl _ _,rfl⟩
   | 1,_=>
     intro u wx S o ho hE hr hd hw
     injection (ho:some _=some o)with ho
     subst ho
     have hEx:Ext W wx:=hE.undrew
     simp only[fr,dstOf]
     go_simp
     go_wp2
     first | exact⟨Upd.refl _ _,rfl⟩ | exact⟨_,rfl,Upd.refl _ _,rfl⟩
   | 2,_=>
     intro u wx S o ho hE hr hd hw
     injection (ho:some _=some o)with ho
     subst ho
     have hEx:Ext W wx:=hE.undrew
     have f1:u 1=.pointer (some ⟨g,0,none⟩):=hw 1 (by omega) (by kernel_rfl) (by simp)
     simp only[fr,dstOf]
     go_simp
     go_wp2
     first | exact⟨Upd.refl _ _,rfl⟩ | exact⟨_,rfl,Upd.refl _ _,rfl⟩
   | 3,_=>
     intro u wx S o ho hE hr hd hw
     injection (ho:some _=some o)with ho
     subst ho
     have hEx:Ext W wx:=hE.undrew
     have f2:u 2=.pointer (some ⟨g,0,none⟩):=hw 2 (by omega) (by kernel_rfl) (by simp)
     simp only[fr,dstOf]
     go_simp
     go_wp2
     first | exact⟨Upd.refl _ _,rfl⟩ | exact⟨_,rfl,Upd.refl _ _,rfl⟩
   | 4,_=>
     intro u wx S o ho hE hr hd hw
     injection (ho:some _=some o)with ho
     subst ho
     have hEx:Ext W wx:=hE.undrew
     have f3:u 3=.pointer (some ⟨g,0,none⟩):=hw 3 (by omega) (by kernel_rfl) (by simp)
     have cx:=(g2.ext hEx).cell0
     simp only[fr,dstOf]
     go_simp
     go_wp2
     first | exact⟨Upd.refl _ _,rfl⟩ | exact⟨_,rfl,Upd.refl _ _,rfl⟩
   | 5,_=>
     intro u wx S o ho hE hr hd hw
     injection (ho:some _=some o)with ho
     subst ho
     have hEx:Ext W wx:=hE.undrew
     have f0:u 0=.agg #[.slice A l c]:=hw 0 (by omega) (by kernel_rfl) (by simp)
     have f4:u 4=.agg #[.slice D ld cd]:=hw 4 (by omega) (by kernel_rfl) (by simp)
     simp only[fr,dstOf]
     go_simp
     go_wp2_with fail
     refine(div_any _ _ a n k _ (hV.ext hEx) (hVn.ext hEx) hFa hFn hk hn0).mono ?_
     rintro e wn ⟨A9,l9,c9,A10,l10,c10,rfl,hVm,hVr,hU⟩
     go_wp2_with fail
     exact⟨_,rfl,hU.mono (fun _ _ h=>h.elim),_,_,_,rfl,⟨_,_,_,rfl,hVm⟩,⟨_,_,_,rfl,hVr⟩,rfl⟩
   | 6,_=>
     intro u wx S o ho hE hr hd hw
     injection (ho:some _=some o)with ho
     subst ho
     have hEx:Ext W wx:=hE.undrew
     obtain⟨_,_,_,f5,⟨aA5_0,aL5_0,aC5_0,rfl,hV5_0⟩,⟨aA5_1,aL5_1,aC5_1,rfl,hV5_1⟩,rfl⟩:Fsh.J 5 (.tup3 (.nat (a / n)) (.nat (a % n)) (.eq (.int .i64 0))) u wx (S 5):=hw 5 (by omega) (by kernel_rfl) (by simp)
     simp only[fr,dstOf]
     go_simp
     go_wp2
     first | exact⟨Upd.refl _ _,_,_,_,rfl,⟨_,_,_,rfl,hV5_0⟩,⟨_,_,_,rfl,hV5_1⟩,rfl⟩ | exact⟨_,rfl,Upd.refl _ _,_,_,_,rfl,⟨_,_,_,rfl,hV5_0⟩,⟨_,_,_,rfl,hV5_1⟩,rfl⟩
   | 7,_=>
     intro u wx S o ho hE hr hd hw
     injection (ho:some _=some o)with ho
     subst ho
     have hEx:Ext W wx:=hE.undrew
     obtain⟨_,_,_,f6,⟨aA6_0,aL6_0,aC6_0,rfl,hV6_0⟩,⟨aA6_1,aL6_1,aC6_1,rfl,hV6_1⟩,rfl⟩:Fsh.J 6 (.tup3 (.nat (a / n)) (.nat (a % n)) (.eq (.int .i64 0))) u wx (S 6):=hw 6 (by omega) (by kernel_rfl) (by simp)
     simp only[fr,dstOf]
     go_simp
     go_wp2
     first | exact⟨Upd.refl _ _,aA6_0,aL6_0,aC6_0,rfl,hV6_0⟩ | exact⟨_,rfl,Upd.refl _ _,aA6_0,aL6_0,aC6_0,rfl,hV6_0⟩
   | 8,_=>
     intro u wx S o ho hE hr hd hw
     injection (ho:some _=some o)with ho
     subst ho
     have hEx:Ext W wx:=hE.undrew
     obtain⟨_,_,_,f6,⟨aA6_0,aL6_0,aC6_0,rfl,hV6_0⟩,⟨aA6_1,aL6_1,aC6_1,rfl,hV6_1⟩,rfl⟩:Fsh.J 6 (.tup3 (.nat (a / n)) (.nat (a % n)) (.eq (.int .i64 0))) u wx (S 6):=hw 6 (by omega) (by kernel_rfl) (by simp)
     simp only[fr,dstOf]
     go_simp
     go_wp2
     first | exact⟨Upd.refl _ _,aA6_1,aL6_1,aC6_1,rfl,hV6_1⟩ | exact⟨_,rfl,Upd.refl _ _,aA6_1,aL6_1,aC6_1,rfl,hV6_1⟩
   | 9,_=>
     intro u wx S o ho hE hr hd hw
     injection (ho:some _=some o)with ho
     subst ho
     have hEx:Ext W wx:=hE.undrew
     obtain⟨_,_,_,f6,⟨aA6_0,aL6_0,aC6_0,rfl,hV6_0⟩,⟨aA6_1,aL6_1,aC6_1,rfl,hV6_1⟩,rfl⟩:Fsh.J 6 (.tup3 (.nat (a / n)) (.nat (a % n)) (.eq (.int .i64 0))) u wx (S 6):=hw 6 (by omega) (by kernel_rfl) (by simp)
     simp only[fr,dstOf]
     go_simp
     go_wp2
     first | exact⟨Upd.refl _ _,rfl⟩ | exact⟨_,rfl,Upd.refl _ _,rfl⟩
   | 10,_=>
     intro u wx S o ho hE hr hd hw
     injection (ho:some _=some o)with ho
     subst ho
     have hEx:Ext W wx:=hE.undrew
     simp only[fr,dstOf]
     go_simp
     go_wp2
     first | exact⟨(Upd.refl _ _).alloc _,wx.heap.size,rfl,Box.new _ _ _,⟨Nat.le_refl _,by first | exact Nat.lt_succ_self _ | simp⟩,fun b hb=>by first | omega | (simp at hb;omega)⟩ | exact⟨_,rfl,(Upd.refl _ _).alloc _,wx.heap.size,rfl,Box.new _ _ _,⟨Nat.le_refl _,by first | exact Nat.lt_succ_self _ | simp⟩,fun b hb=>by first | omega | (simp at hb;omega)⟩
   | 11,_=>
     intro u wx S o ho hE hr hd hw
     injection (ho:some _=some o)with ho
     subst ho
     have hEx:Ext W wx:=hE.undrew
     simp only[fr,dstOf]
     go_simp
     go_wp2
     first | exact⟨(Upd.refl _ _).alloc _,wx.heap.size,rfl,Box.new _ _ _,⟨Nat.le_refl _,by first | exact Nat.lt_succ_self _ | simp⟩,fun b hb=>by first | omega | (simp at hb;omega)⟩ | exact⟨_,rfl,(Upd.refl _ _).alloc _,wx.heap.size,rfl,Box.new _ _ _,⟨Nat.le_refl _,by first | exact Nat.lt_succ_self _ | simp⟩,fun b hb=>by first | omega | (simp at hb;omega)⟩
   | 12,_=>
     intro u wx S o ho hE hr hd hw
     injection (ho:some _=some o)with ho
     subst ho
     have hEx:Ext W wx:=hE.undrew
     obtain⟨aA7,aL7,aC7,f7,hV7⟩:Fsh.J 7 (.val (.nat (a / n))) u wx (S 7):=hw 7 (by omega) (by kernel_rfl) (by simp)
     obtain⟨g10,f10,hb10,hs10,hall10⟩:Fsh.J 10 (.new 33 (.slice none 0 0)) u wx (S 10):=hw 10 (by omega) (by kernel_rfl) (by simp)
     have cg10:=hb10.cell
     have fg10:=hb10.frozen
     simp only[fr,dstOf]
     go_simp
     go_wp2
     first | exact⟨(Upd.refl _ _).setCell (p:=⟨g10,0,none⟩) (.inl hs10) _,undef,g10,aA7,aL7,aC7,(updf_ne u _ (by decide)).trans f10,hb10.set _,.inr hs10,hV7.far cg10⟩ | exact⟨undef,(Upd.refl _ _).setCell (p:=⟨g10,0,none⟩) (.inl hs10) _,g10,aA7,aL7,aC7,(updf_ne u _ (by decide)).trans f10,hb10.set _,.inr hs10,hV7.far cg10⟩ | exact⟨trivial,(Upd.refl _ _).setCell (p:=⟨g10,0,none⟩) (.inl hs10) _,undef,g10,aA7,aL7,aC7,(updf_ne u _ (by decide)).trans f10,hb10.set _,.inr hs10,hV7.far cg10⟩
   | 13,_=>
     intro u wx S o ho hE hr hd hw
     injection (ho:some _=some o)with ho
     subst ho
     have hEx:Ext W wx:=hE.undrew
     obtain⟨aA8,aL8,aC8,f8,hV8⟩:Fsh.J 8 (.val (.nat (a % n))) u wx (S 8):=hw 8 (by omega) (by kernel_rfl) (by simp)
     obtain⟨g11,f11,hb11,hs11,hall11⟩:Fsh.J 11 (.new 33 (.slice none 0 0)) u wx (S 11):=hw 11 (by omega) (by kernel_rfl) (by simp)
     have cg11:=hb11.cell
     have fg11:=hb11.frozen
     simp only[fr,dstOf]
     go_simp
     go_wp2
     first | exact⟨(Upd.refl _ _).setCell (p:=⟨g11,0,none⟩) (.inl hs11) _,undef,g11,aA8,aL8,aC8,(updf_ne u _ (by decide)).trans f11,hb11.set _,.inr hs11,hV8.far cg11⟩ | exact⟨undef,(Upd.refl _ _).setCell (p:=⟨g11,0,none⟩) (.inl hs11) _,g11,aA8,aL8,aC8,(updf_ne u _ (by decide)).trans f11,hb11.set _,.inr hs11,hV8.far cg11⟩ | exact⟨trivial,(Upd.refl _ _).setCell (p:=⟨g11,0,none⟩) (.inl hs11) _,undef,g11,aA8,aL8,aC8,(updf_ne u _ (by decide)).trans f11,hb11.set _,.inr hs11,hV8.far cg11⟩
   | k+14,h=>exact absurd h (by omega)
 · intro u wx S hE hw hrg hdj
   have hEx:Ext W wx:=hE.undrew
   have f0:u 0=.agg #[.slice A l c]:=hw 0 (by omega) (by simp)
   have f1:u 1=.pointer (some ⟨g,0,none⟩):=hw 1 (by omega) (by simp)
   have f2:u 2=.pointer (some ⟨g,0,none⟩):=hw 2 (by omega) (by simp)
   have f3:u 3=.pointer (some ⟨g,0,none⟩):=hw 3 (by omega) (by simp)
   have f4:u 4=.agg #[.slice D ld cd]:=hw 4 (by omega) (by simp)
   obtain⟨_,_,_,f5,⟨aA5_0,aL5_0,aC5_0,rfl,hV5_0⟩,⟨aA5_1,aL5_1,aC5_1,rfl,hV5_1⟩,rfl⟩:Fsh.J 5 (.tup3 (.nat (a / n)) (.nat (a % n)) (.eq (.int .i64 0))) u wx (S 5):=hw 5 (by omega) (by simp)
   obtain⟨_,_,_,f6,⟨aA6_0,aL6_0,aC6_0,rfl,hV6_0⟩,⟨aA6_1,aL6_1,aC6_1,rfl,hV6_1⟩,rfl⟩:Fsh.J 6 (.tup3 (.nat (a / n)) (.nat (a % n)) (.eq (.int .i64 0))) u wx (S 6):=hw 6 (by omega) (by simp)
   obtain⟨aA7,aL7,aC7,f7,hV7⟩:Fsh.J 7 (.val (.nat (a / n))) u wx (S 7):=hw 7 (by omega) (by simp)
   obtain⟨aA8,aL8,aC8,f8,hV8⟩:Fsh.J 8 (.val (.nat (a % n))) u wx (S 8):=hw 8 (by omega) (by simp)
   have f9:u 9=.int .i64 0:=hw 9 (by omega) (by simp)
   obtain⟨g12,aA12,aL12,aC12,f10,hb12,hs12,hV12⟩:Fsh.J 12 (.set 10 33 (a / n)) u wx (S 12):=hw 12 (by omega) (by simp)
   obtain⟨g13,aA13,aL13,aC13,f11,hb13,hs13,hV13⟩:Fsh.J 13 (.set 11 33 (a % n)) u wx (S 13):=hw 13 (by omega) (by simp)
   simp only[fr,dstOf]
   go_simp
   have b2':=b2.ext hEx
   have q1:=hb13.cell
   have q2:=b2'.cell
   have q3:=b2'.frozen
   clear hw hrg hdj f0 f1 f2 f3 f4 f5 f6 f7 f8 f9 hs12 hs13
   go_wp2_with fail
   have q:=(b2'.set (.slice aA13 aL13 aC13)).cell
   exact bodyPost_ret (v:=.agg #[.slice aA13 aL13 aC13]) (by simp[results,Try.results34,go_sem,q]) rfl ⟨_,_,_,rfl,hV13.far q2,(hEW.trans hEx).setCell (p:=⟨w.heap.size+1,0,none⟩) (.inr (by simp)) _⟩
theorem mul_words {a b n:Nat} (hn:2≤n) (h32:n<4294967296):(a % n)*(b % n)<18446744073709551616:=by
 have h1:=Nat.mod_lt a (show 0<n by omega)
 have h2:=Nat.mod_lt b (show 0<n by omega)
 have h3:(a % n)*(b % n)≤4294967295*4294967295:=Nat.mul_le_mul (by omega) (by omega)
 omega
set_option maxRecDepth 100000 in
set_option maxHeartbeats 4000000 in
theorem mmul_many (va vb:Value) (g a b n k:Nat) (w:World) (hR:RingV w g n) (hVa:NatV w va a) (hVb:NatV w vb b) (hFa:Fit k a) (hFb:Fit k b) (hFn:Fit k n) (hk:k≤100000) (h32:¬n<4294967296):
 Calls Try.prog 69 #[.pointer (some ⟨g,0,none⟩),va,vb] w (RetN w (a*b % n)):=by
 obtain⟨A,la,ca,xs,rfl, -⟩:=hVa.open_
 obtain⟨B,lb,cb,ys,rfl, -⟩:=hVb.open_
 have hR':=hR
 obtain⟨D,ld,cd,g2,hVn,hn⟩:=hR
 have hs:smallOf n=0:=by unfold smallOf;rw[if_neg h32]
 rw[hs]at g2
 clear h32 hs hVn
 have hE:Ext w (((w.alloc (.cells #[.slice A la ca] 33)).alloc (.cells #[.slice B lb cb] 33)).alloc (.cells #[.slice none 0 0] 33)):=(by repeat (first | (with_reducible exact Upd.refl _ _) | (with_reducible assumption) | (refine Upd.setCell ?_ (.inr (by first | exact Nat.le_refl _ | (dsimp only;omega) | (simp;done) | (simp;omega))) _) | (with_reducible refine Upd.alloc ?_ _) | (with_reducible refine Upd.drew ?_) | (with_reducible refine Upd.trans ?_ (by with_reducible assumption))))
 have c1:=(g2.ext hE).cell1
 clear g2 hE
 go_enter Try.func69,Try.ntmps69
 go_wp2_with fail
 clear c1
 refine name_c (fun W hW=>?_)
 have b6:Box W (w.heap.size+1+1) 33 (.slice none 0 0):=by rw[hW];exact Box.new_at (by simp)
 have hE:Ext w W:=by rw[hW];exact(((Upd.refl _ w).alloc _).alloc _).alloc _
 clear hW
 replace hVa:=hVa.ext hE
 replace hVb:=hVb.ext hE
 replace hR':=hR'.ext hE
 have hG:Ext W W:=Upd.refl _ _
 refine(mul_any _ _ a b k _ hVa hVb hFa hFb (by omega)).mono ?_
 rintro e w1 ⟨A1,l1,c1,rfl,hV1,hU⟩
 replace hG:=hG.trans hU
 go_wp2_with fail
 refine(mof_any _ g (a*b) n (k+k) _ (hR'.ext hG) hV1 (Fit.mul hFa hFb) (hFn.mono (by omega)) (by omega)).mono ?_
 rintro e w2 ⟨A2,l2,c2,rfl,hV2,hU⟩
 replace hG:=hG.trans hU
 have b6':=b6.ext hG
 have q2:=b6'.cell
 have q3:=b6'.frozen
 go_wp2_with fail
 have q:=(b6'.set (.slice A2 l2 c2)).cell
 exact bodyPost_ret (v:=.agg #[.slice A2 l2 c2]) (by simp[results,Try.results69,go_sem,q]) rfl ⟨_,_,_,rfl,hV2.far q2,(hE.trans hG).setCell (p:=⟨w.heap.size+1+1,0,none⟩) (.inr (by simp;omega)) _⟩
set_option maxRecDepth 100000 in
set_option maxHeartbeats 4000000 in
theorem mmul_widea (va vb:Value) (g a b n k:Nat) (w:World) (hR:RingV w g n) (hVa:NatV w va a) (hVb:NatV w vb b) (hFa:Fit k a) (hFb:Fit k b) (hFn:Fit k n) (hk:k≤100000) (h32:n<4294967296)
 (hbig:¬a<18446744073709551616):
 Calls Try.prog 69 #[.pointer (some ⟨g,0,none⟩),va,vb] w (RetN w (a*b % n)):=by
 obtain⟨A,la,ca,xs,rfl, -⟩:=hVa.open_
 obtain⟨B,lb,cb,ys,rfl, -⟩:=hVb.open_
 have hR':=hR
 obtain⟨D,ld,cd,g2,hVn,hn⟩:=hR
 have hs:smallOf n=(n:Int):=by unfold smallOf;rw[if_pos h32]
 rw[hs]at g2
 have hpos:decide (0<n)=true:=by rw[decide_eq_true_eq];omega
 have hnz:¬n=0:=by omega
 have H32:=hide h32
 have Hn:=hide hn
 clear h32 hs hVn hn
 have hE:Ext w (((w.alloc (.cells #[.slice A la ca] 33)).alloc (.cells #[.slice B lb cb] 33)).alloc (.cells #[.slice none 0 0] 33)):=(by repeat (first | (with_reducible exact Upd.refl _ _) | (with_reducible assumption) | (refine Upd.setCell ?_ (.inr (by first | exact Nat.le_refl _ | (dsimp only;omega) | (simp;done) | (simp;omega))) _) | (with_reducible refine Upd.alloc ?_ _) | (with_reducible refine Upd.drew ?_) | (with_reducible refine Upd.trans ?_ (by with_reducible assumption))))
 have c1:=(g2.ext hE).cell1
 clear hE
 go_enter Try.func69,Try.ntmps69
 go_wp2_with fail
 clear c1
 refine name_c (fun W hW=>?_)
 have b5:Box W (w.heap.size+1) 33 (.slice B lb cb):=by rw[hW];exact(Box.new_at (by simp)).alloc _
 have b4:Box W w.heap.size 33 (.slice A la ca):=by rw[hW];exact((Box.new _ _ _).alloc _).alloc _
 have b6:Box W (w.heap.size+1+1) 33 (.slice none 0 0):=by rw[hW];exact Box.new_at (by simp)
 have hE:Ext w W:=by rw[hW];exact(((Upd.refl _ w).alloc _).alloc _).alloc _
 clear hW
 replace hVa:=hVa.ext hE
 replace hVb:=hVb.ext hE
 replace hR':=hR'.ext hE
 replace g2:=g2.ext hE
 have hG:Ext W W:=Upd.refl _ _
 refine(uint_any _ a _ hVa).mono ?_
 rintro e w1 ⟨rfl,hU⟩
 rw[if_neg hbig,decide_eq_false hbig]
 replace hG:=hG.trans hU
 have k5:=(b5.ext hG).cell
 go_wp2_with fail
 refine(uint_any _ b _ (hVb.ext hG)).mono ?_
 rintro e w2 ⟨rfl,hU⟩
 replace hG:=hG.trans hU
 generalize (if b<18446744073709551616 then (b:Int) else 0)=bi;generalize decide (b<18446744073709551616)=bt
 have k4:=(b4.ext hG).cell
 replace k5:=(b5.ext hG).cell
 go_wp2_with fail
 refine(mul_any _ _ a b k _ (hVa.ext hG) (hVb.ext hG) hFa hFb (by omega)).mono ?_
 rintro e w3 ⟨A1,l1,c1,rfl,hV1,hU⟩
 replace hG:=hG.trans hU
 go_wp2_with fail
 refine(mof_any _ g (a*b) n (k+k) _ (hR'.ext hG) hV1 (Fit.mul hFa hFb) (hFn.mono (by omega)) (by omega)).mono ?_
 rintro e w4 ⟨A2,l2,c2,rfl,hV2,hU⟩
 replace hG:=hG.trans hU
 have b6':=b6.ext hG
 have q2:=b6'.cell
 have q3:=b6'.frozen
 go_wp2_with fail
 have q:=(b6'.set (.slice A2 l2 c2)).cell
 exact bodyPost_ret (v:=.agg #[.slice A2 l2 c2]) (by simp[results,Try.results69,go_sem,q]) rfl ⟨_,_,_,rfl,hV2.far q2,(hE.trans hG).setCell (p:=⟨w.heap.size+1+1,0,none⟩) (.inr (by simp;omega)) _⟩
set_option maxRecDepth 100000 in
set_option maxHeartbeats 4000000 in
theorem mmul_wideb (va vb:Value) (g a b n k:Nat) (w:World) (hR:RingV w g n) (hVa:NatV w va a) (hVb:NatV w vb b) (hFa:Fit k a) (hFb:Fit k b) (hFn:Fit k n) (hk:k≤100000) (h32:n<4294967296)
 (ha:a<18446744073709551616) (hbig:¬b<18446744073709551616):
 Calls Try.prog 69 #[.pointer (some ⟨g,0,none⟩),va,vb] w (RetN w (a*b % n)):=by
 obtain⟨A,la,ca,xs,rfl, -⟩:=hVa.open_
 obtain⟨B,lb,cb,ys,rfl, -⟩:=hVb.open_
 have hR':=hR
 obtain⟨D,ld,cd,g2,hVn,hn⟩:=hR
 have hs:smallOf n=(n:Int):=by unfold smallOf;rw[if_pos h32]
 rw[hs]at g2
 have hpos:decide (0<n)=true:=by rw[decide_eq_true_eq];omega
 have hnz:¬n=0:=by omega
 have H32:=hide h32
 have Hn:=hide hn
 clear h32 hs hVn hn
 have hE:Ext w (((w.alloc (.cells #[.slice A la ca] 33)).alloc (.cells #[.slice B lb cb] 33)).alloc (.cells #[.slice none 0 0] 33)):=(by repeat (first | (with_reducible exact Upd.refl _ _) | (with_reducible assumption) | (refine Upd.setCell ?_ (.inr (by first | exact Nat.le_refl _ | (dsimp only;omega) | (simp;done) | (simp;omega))) _) | (with_reducible refine Upd.alloc ?_ _) | (with_reducible refine Upd.drew ?_) | (with_reducible refine Upd.trans ?_ (by with_reducible assumption))))
 have c1:=(g2.ext hE).cell1
 clear hE
 go_enter Try.func69,Try.ntmps69
 go_wp2_with fail
 clear c1
 refine name_c (fun W hW=>?_)
 have b5:Box W (w.heap.size+1) 33 (.slice B lb cb):=by rw[hW];exact(Box.new_at (by simp)).alloc _
 have b4:Box W w.heap.size 33 (.slice A la ca):=by rw[hW];exact((Box.new _ _ _).alloc _).alloc _
 have b6:Box W (w.heap.size+1+1) 33 (.slice none 0 0):=by rw[hW];exact Box.new_at (by simp)
 have hE:Ext w W:=by rw[hW];exact(((Upd.refl _ w).alloc _).alloc _).alloc _
 clear hW
 replace hVa:=hVa.ext hE
 replace hVb:=hVb.ext hE
 replace hR':=hR'.ext hE
 replace g2:=g2.ext hE
 have hG:Ext W W:=Upd.refl _ _
 refine(uint_any _ a _ hVa).mono ?_
 rintro e w1 ⟨rfl,hU⟩
 rw[if_pos ha,decide_eq_true ha]
 replace hG:=hG.trans hU
 have k5:=(b5.ext hG).cell
 go_wp2_with fail
 refine(uint_any _ b _ (hVb.ext hG)).mono ?_
 rintro e w2 ⟨rfl,hU⟩
 replace hG:=hG.trans hU
 rw[if_neg hbig,decide_eq_false hbig]
 have k4:=(b4.ext hG).cell
 replace k5:=(b5.ext hG).cell
 go_wp2_with fail
 refine(mul_any _ _ a b k _ (hVa.ext hG) (hVb.ext hG) hFa hFb (by omega)).mono ?_
 rintro e w3 ⟨A1,l1,c1,rfl,hV1,hU⟩
 replace hG:=hG.trans hU
 go_wp2_with fail
 refine(mof_any _ g (a*b) n (k+k) _ (hR'.ext hG) hV1 (Fit.mul hFa hFb) (hFn.mono (by omega)) (by omega)).mono ?_
 rintro e w4 ⟨A2,l2,c2,rfl,hV2,hU⟩
 replace hG:=hG.trans hU
 have b6':=b6.ext hG
 have q2:=b6'.cell
 have q3:=b6'.frozen
 go_wp2_with fail
 have q:=(b6'.set (.slice A2 l2 c2)).cell
 exact bodyPost_ret (v:=.agg #[.slice A2 l2 c2]) (by simp[results,Try.results69,go_sem,q]) rfl ⟨_,_,_,rfl,hV2.far q2,(hE.trans hG).setCell (p:=⟨w.heap.size+1+1,0,none⟩) (.inr (by simp;omega)) _⟩
set_option maxRecDepth 100000 in
set_option maxHeartbeats 4000000 in
theorem mmul_words (va vb:Value) (g a b n k:Nat) (w:World) (hR:RingV w g n) (hVa:NatV w va a) (hVb:NatV w vb b) (h32:n<4294967296)
 (ha:a<18446744073709551616) (hb:b<18446744073709551616):
 Calls Try.prog 69 #[.pointer (some ⟨g,0,none⟩),va,vb] w (RetN w (a*b % n)):=by
 obtain⟨A,la,ca,xs,rfl, -⟩:=hVa.open_
 obtain⟨B,lb,cb,ys,rfl, -⟩:=hVb.open_
 have hR':=hR
 obtain⟨D,ld,cd,g2,hVn,hn⟩:=hR
 have hs:smallOf n=(n:Int):=by unfold smallOf;rw[if_pos h32]
 rw[hs]at g2
 have hpos:decide (0<n)=true:=by rw[decide_eq_true_eq];omega
 have hnz:¬n=0:=by omega
 have H32:=hide h32
 have Hn:=hide hn
 clear h32 hs hVn hn
 have hE:Ext w (((w.alloc (.cells #[.slice A la ca] 33)).alloc (.cells #[.slice B lb cb] 33)).alloc (.cells #[.slice none 0 0] 33)):=(by repeat (first | (with_reducible exact Upd.refl _ _) | (with_reducible assumption) | (refine Upd.setCell ?_ (.inr (by first | exact Nat.le_refl _ | (dsimp only;omega) | (simp;done) | (simp;omega))) _) | (with_reducible refine Upd.alloc ?_ _) | (with_reducible refine Upd.drew ?_) | (with_reducible refine Upd.trans ?_ (by with_reducible assumption))))
 have c1:=(g2.ext hE).cell1
 clear hE
 go_enter Try.func69,Try.ntmps69
 go_wp2_with fail
 clear c1
 refine name_c (fun W hW=>?_)
 have b5:Box W (w.heap.size+1) 33 (.slice B lb cb):=by rw[hW];exact(Box.new_at (by simp)).alloc _
 have b4:Box W w.heap.size 33 (.slice A la ca):=by rw[hW];exact((Box.new _ _ _).alloc _).alloc _
 have b6:Box W (w.heap.size+1+1) 33 (.slice none 0 0):=by rw[hW];exact Box.new_at (by simp)
 have hE:Ext w W:=by rw[hW];exact(((Upd.refl _ w).alloc _).alloc _).alloc _
 clear hW
 replace hVa:=hVa.ext hE
 replace hVb:=hVb.ext hE
 replace hR':=hR'.ext hE
 replace g2:=g2.ext hE
 have hG:Ext W W:=Upd.refl _ _
 refine(uint_any _ a _ hVa).mono ?_
 rintro e w1 ⟨rfl,hU⟩
 rw[if_pos ha,decide_eq_true ha]
 replace hG:=hG.trans hU
 have k5:=(b5.ext hG).cell
 go_wp2_with fail
 refine(uint_any _ b _ (hVb.ext hG)).mono ?_
 rintro e w2 ⟨rfl,hU⟩
 replace hG:=hG.trans hU
 rw[if_pos hb,decide_eq_true hb]
 have k4:=(b4.ext hG).cell
 replace k5:=(b5.ext hG).cell
 have hw:=mul_words (a:=a) (b:=b) Hn.out H32.out
 obtain⟨x,hx⟩:∃x:Nat,x=a % n:=⟨_,rfl⟩
 obtain⟨y,hy⟩:∃y:Nat,y=b % n:=⟨_,rfl⟩
 obtain⟨p,hp⟩:∃p:Nat,p=x*y:=⟨_,rfl⟩
 obtain⟨z,hz⟩:∃z:Nat,z=p % n:=⟨_,rfl⟩
 have hz2:z=a*b % n:=by rw[hz,hp,hx,hy,←Nat.mul_mod]
 rw[←hx,←hy,←hp]at hw
 have e1:(a:Int) % (n:Int)=(x:Int):=by omega
 have e1':(a:Int).tmod (n:Int)=(x:Int):=by rw[Int.tmod_eq_emod_of_nonneg (by omega)];exact e1
 have e2:(b:Int) % (n:Int)=(y:Int):=by omega
 have e2':(b:Int).tmod (n:Int)=(y:Int):=by rw[Int.tmod_eq_emod_of_nonneg (by omega)];exact e2
 have e5:(x:Int)*(y:Int)=(p:Int):=by rw[hp,Int.natCast_mul]
 have e3:IntKind.u64.wrap (p:Int)=(p:Int):=by rw[IntKind.wrap_u64];omega
 have e4:(p:Int) % (n:Int)=(z:Int):=by omega
 have e4':(p:Int).tmod (n:Int)=(z:Int):=by rw[Int.tmod_eq_emod_of_nonneg (by omega)];exact e4
 have hz3:z<18446744073709551616:=by have:=Nat.mod_lt p (show 0<n by have:=Hn.out;omega);have:=H32.out;omega
 have Hz:=hide hz3
 have Hz2:=hide hz2
 clear hx hy hz hz2 hz3 hw hp
 go_wp2_with fail
 have g2':=g2.ext hG
 have kc:=fun x:Wd (Ext w2.drew)=>(x.ok.cell (p:=⟨g,1,none⟩) g2'.drew.lt (fun h=>h)).trans g2'.drew.cell1
 clear k4 k5
 refine wp_region_plan (Ext _) 19 [(false,0),(false,1),(false,2),(false,3),(false,4),(false,5),(false,6),(false,7),(false,8),(false,9),(false,10),(false,11),(false,12),(false,13),(false,14),(false,15),(false,16),(false,17),(true,18)] (by kernel_rfl) (by kernel_rfl) (Upd.refl _ _) (fun hne=>?_)
 repeat (refine head_q rfl (fun K hK=>?_);have hK2:=hide hK;clear hK;go_simp;refine hK2.out _ ?_;clear hK2 K)
 refine head_l rfl ?_
 go_wp2_with (go_at_call 6;go_must (refine(new_any z _ Hz.out).mono ?_);rintro e w5 ⟨A2,l2,c2,rfl,hV2,hU5⟩)
 refine⟨Cls (Ext _),cls_narrow hU5,⟨⟨_,Upd.refl _ _⟩,rfl⟩,?_⟩
 refine head_nil ?_
 try simp only[List.drop_succ_cons,List.drop_zero]
 have b6':=b6.ext (hG.trans hU5.undrew)
 have q2:=b6'.cell
 have q3:=b6'.frozen
 go_wp2_with fail
 have q:=(b6'.set (.slice A2 l2 c2)).cell
 exact bodyPost_ret (v:=.agg #[.slice A2 l2 c2]) (by simp[results,Try.results69,go_sem,q]) rfl ⟨_,_,_,rfl,(hV2.of_eq Hz2.out).far q2,(hE.trans (hG.trans hU5.undrew)).setCell (p:=⟨w.heap.size+1+1,0,none⟩) (.inr (by simp;omega)) _⟩
theorem mmul_any (va vb:Value) (g a b n k:Nat) (w:World) (hR:RingV w g n) (hVa:NatV w va a) (hVb:NatV w vb b) (hFa:Fit k a) (hFb:Fit k b) (hFn:Fit k n) (hk:k≤100000):
 Calls Try.prog 69 #[.pointer (some ⟨g,0,none⟩),va,vb] w (RetN w (a*b % n)):=by
 by_cases h32:n<4294967296
 · by_cases ha:a<18446744073709551616
   · by_cases hb:b<18446744073709551616
     · exact mmul_words va vb g a b n k w hR hVa hVb h32 ha hb
     · exact mmul_wideb va vb g a b n k w hR hVa hVb hFa hFb hFn hk h32 ha hb
   · exact mmul_widea va vb g a b n k w hR hVa hVb hFa hFb hFn hk h32 ha
 · exact mmul_many va vb g a b n k w hR hVa hVb hFa hFb hFn hk h32
set_option maxRecDepth 100000 in
set_option maxHeartbeats 4000000 in
theorem msub_yes (va vb:Value) (g a b n k:Nat) (w:World) (hR:RingV w g n) (hVa:NatV w va a) (hVb:NatV w vb b) (hFa:Fit k a) (hFb:Fit k b) (hFn:Fit k n) (hk:k≤100000) (hab:Hid (b % n≤a % n)):
 Calls Try.prog 103 #[.pointer (some ⟨g,0,none⟩),va,vb] w (RetN w (a % n - b % n)):=by
 have hgw:g<w.heap.size:=by
  obtain⟨D,ld,cd,g2, -⟩:=hR
  exact g2.lt
 obtain⟨A,la,ca,xs,rfl, -⟩:=hVa.open_
 obtain⟨B,lb,cb,ys,rfl, -⟩:=hVb.open_
 have hn:=hR.two
 have hFx:Fit k (a % n):=hFn.le (Nat.le_of_lt (Nat.mod_lt _ (by omega)))
 have hFy:Fit k (b % n):=hFn.le (Nat.le_of_lt (Nat.mod_lt _ (by omega)))
 go_enter Try.func103,Try.ntmps103
 go_wp2_with fail
 refine name_w (fun W hW=>?_)
 have b4:Box W w.heap.size 33 (.slice A la ca):=by rw[hW];exact((Box.new _ _ _).alloc _).alloc _
 have b5:Box W (w.heap.size+1) 33 (.slice B lb cb):=by rw[hW];exact(Box.new_at (by simp)).alloc _
 have b6:Box W (w.heap.size+1+1) 33 (.slice none 0 0):=by rw[hW];exact Box.new_at (by simp)
 have hEW:Ext w W:=by rw[hW];exact(((Upd.refl _ w).alloc _).alloc _).alloc _
 clear hW
 replace hVa:=hVa.ext hEW
 replace hVb:=hVb.ext hEW
 replace hR:=hR.ext hEW
 have hG:Ext W.drew W.drew:=Upd.refl _ _
 have k4:=fun x:Wd (Ext W.drew)=>(x.ok.cell (p:=⟨w.heap.size,0,none⟩) b4.drew.lt (fun h=>h)).trans b4.drew.cell
 have k5:=fun x:Wd (Ext W.drew)=>(x.ok.cell (p:=⟨w.heap.size+1,0,none⟩) b5.drew.lt (fun h=>h)).trans b5.drew.cell
 refine wp_region_plan (Ext _) 5 [(false,0),(false,1),(false,3),(false,4),(true,2)] (by kernel_rfl) (by kernel_rfl) (Upd.refl _ _) (fun hne=>?_)
 repeat (refine head_q rfl (fun K hK=>?_);have hK2:=hide hK;clear hK;go_simp;refine hK2.out _ ?_;clear hK2 K)
 refine head_l rfl ?_
 go_wp2_with (go_at_call 34;go_must (refine(mof_any _ g a n k _ (hR.ext hG.undrew) (hVa.ext hG.undrew) hFa hFn (by omega)).mono ?_);rintro e w1 ⟨A1,l1,c1,rfl,hV1,hU⟩;replace hG:=hG.trans hU)
 refine⟨Cls (Ext _),fun _ h=>h,⟨⟨_,hG⟩,rfl⟩,?_⟩
 repeat (refine head_q rfl (fun K hK=>?_);have hK2:=hide hK;clear hK;go_simp;refine hK2.out _ ?_;clear hK2 K)
 refine head_nil ?_
 try simp only[List.drop_succ_cons,List.drop_zero]
 go_wp2_with fail
 refine(mof_any _ g b n k _ (hR.ext hG.undrew) (hVb.ext hG.undrew) hFb hFn (by omega)).mono ?_
 rintro e w2 ⟨A2,l2,c2,rfl,hV2,hU⟩
 replace hG:=hG.trans hU
 replace hV1:=hV1.ext hU
 have b4':=b4.ext hG.undrew
 have b5':=b5.ext hG.undrew
 have b6':=b6.ext hG.undrew
 have hR':=hR.ext hG.undrew
 have hE':=hEW.trans hG.undrew
 have m4:=b4'.cell
 have n4:=b4'.frozen
 have b5s:=b5'.far (p:=⟨w.heap.size,0,none⟩) (by simp) (.slice A1 l1 c1)
 have m5:=b5s.cell
 have n5:=b5s.frozen
 go_wp2_with fail
 refine name_c (fun X hX=>?_)
 have d4:Box X w.heap.size 33 (.slice A1 l1 c1):=by rw[hX];exact(b4'.set _).far (by simp) _
 have d5:Box X (w.heap.size+1) 33 (.slice A2 l2 c2):=by rw[hX];exact b5s.set _
 have d6:Box X (w.heap.size+1+1) 33 (.slice none 0 0):=by rw[hX];exact(b6'.far (by simp;omega) _).far (by simp) _
 have x1:NatV X (.agg #[.slice A1 l1 c1]) (a % n):=by rw[hX];exact(hV1.far m4).far m5
 have x2:NatV X (.agg #[.slice A2 l2 c2]) (b % n):=by rw[hX];exact(hV2.far m4).far m5
 have hEX:Ext w X:=by rw[hX];exact(hE'.setCell (p:=⟨w.heap.size,0,none⟩) (.inr (Nat.le_refl _)) _).setCell (p:=⟨w.heap.size+1,0,none⟩) (.inr (by simp)) _
 have hRX:RingV X g n:=by
  obtain⟨D,ld,cd,g2,hVn,hn2⟩:=hR'
  exact⟨D,ld,cd,by rw[hX];exact(g2.far (p:=⟨w.heap.size,0,none⟩) (fun e=>by simp at e;omega) _).far (p:=⟨w.heap.size+1,0,none⟩) (fun e=>by simp at e;omega) _,by rw[hX];exact(hVn.far m4).far m5,hn2⟩
 clear hX hV1 hV2 m4 n4 m5 n5 b4 b5 b6 b4' b5' b6' b5s hR hR' hE' hG hU hEW hVa hVb
 have hG:Ext X X:=Upd.refl _ _
 refine(sub_yes _ _ (a % n) (b % n) k _ x1 x2 hFx hFy (by omega) hab.out).mono ?_
 rintro e w3 ⟨A3,l3,c3,rfl,hV3,hU⟩
 replace hG:=hG.trans hU
 have d6':=(d6.ext hG).alloc (.cells #[.slice A3 l3 c3] 33)
 have q2:=d6'.cell
 have q3:=d6'.frozen
 go_wp2_with fail
 have q:=(d6'.set (.slice A3 l3 c3)).cell
 exact bodyPost_ret (v:=.agg #[.slice A3 l3 c3]) (by simp[results,Try.results103,go_sem,q]) rfl ⟨_,_,_,rfl,(hV3.ext ((Upd.refl _ _).alloc _)).far q2,((hEX.trans hG).alloc _).setCell (p:=⟨w.heap.size+1+1,0,none⟩) (.inr (by simp;omega)) _⟩
set_option maxRecDepth 100000 in
set_option maxHeartbeats 4000000 in
theorem msub_no (va vb:Value) (g a b n k:Nat) (w:World) (hR:RingV w g n) (hVa:NatV w va a) (hVb:NatV w vb b) (hFa:Fit k a) (hFb:Fit k b) (hFn:Fit k n) (hk:k≤100000) (hab:Hid (a % n<b % n)):
 Calls Try.prog 103 #[.pointer (some ⟨g,0,none⟩),va,vb] w (RetN w (a % n+n - b % n)):=by
 have hgw:g<w.heap.size:=by
  obtain⟨D,ld,cd,g2, -⟩:=hR
  exact g2.lt
 have hle:b % n≤a % n+n:=by have:=Nat.mod_lt b (show 0<n by have:=hR.two;omega);omega
 have Hle:=hide hle
 clear hle
 obtain⟨A,la,ca,xs,rfl, -⟩:=hVa.open_
 obtain⟨B,lb,cb,ys,rfl, -⟩:=hVb.open_
 have hn:=hR.two
 have hFx:Fit k (a % n):=hFn.le (Nat.le_of_lt (Nat.mod_lt _ (by omega)))
 have hFy:Fit k (b % n):=hFn.le (Nat.le_of_lt (Nat.mod_lt _ (by omega)))
 go_enter Try.func103,Try.ntmps103
 go_wp2_with fail
 refine name_w (fun W hW=>?_)
 have b4:Box W w.heap.size 33 (.slice A la ca):=by rw[hW];exact((Box.new _ _ _).alloc _).alloc _
 have b5:Box W (w.heap.size+1) 33 (.slice B lb cb):=by rw[hW];exact(Box.new_at (by simp)).alloc _
 have b6:Box W (w.heap.size+1+1) 33 (.slice none 0 0):=by rw[hW];exact Box.new_at (by simp)
 have hEW:Ext w W:=by rw[hW];exact(((Upd.refl _ w).alloc _).alloc _).alloc _
 clear hW
 replace hVa:=hVa.ext hEW
 replace hVb:=hVb.ext hEW
 replace hR:=hR.ext hEW
 have hG:Ext W.drew W.drew:=Upd.refl _ _
 have k4:=fun x:Wd (Ext W.drew)=>(x.ok.cell (p:=⟨w.heap.size,0,none⟩) b4.drew.lt (fun h=>h)).trans b4.drew.cell
 have k5:=fun x:Wd (Ext W.drew)=>(x.ok.cell (p:=⟨w.heap.size+1,0,none⟩) b5.drew.lt (fun h=>h)).trans b5.drew.cell
 refine wp_region_plan (Ext _) 5 [(false,0),(false,1),(false,3),(false,4),(true,2)] (by kernel_rfl) (by kernel_rfl) (Upd.refl _ _) (fun hne=>?_)
 repeat (refine head_q rfl (fun K hK=>?_);have hK2:=hide hK;clear hK;go_simp;refine hK2.out _ ?_;clear hK2 K)
 refine head_l rfl ?_
 go_wp2_with (go_at_call 34;go_must (refine(mof_any _ g a n k _ (hR.ext hG.undrew) (hVa.ext hG.undrew) hFa hFn (by omega)).mono ?_);rintro e w1 ⟨A1,l1,c1,rfl,hV1,hU⟩;replace hG:=hG.trans hU)
 refine⟨Cls (Ext _),fun _ h=>h,⟨⟨_,hG⟩,rfl⟩,?_⟩
 repeat (refine head_q rfl (fun K hK=>?_);have hK2:=hide hK;clear hK;go_simp;refine hK2.out _ ?_;clear hK2 K)
 refine head_nil ?_
 try simp only[List.drop_succ_cons,List.drop_zero]
 go_wp2_with fail
 refine(mof_any _ g b n k _ (hR.ext hG.undrew) (hVb.ext hG.undrew) hFb hFn (by omega)).mono ?_
 rintro e w2 ⟨A2,l2,c2,rfl,hV2,hU⟩
 replace hG:=hG.trans hU
 replace hV1:=hV1.ext hU
 have b4':=b4.ext hG.undrew
 have b5':=b5.ext hG.undrew
 have b6':=b6.ext hG.undrew
 have hR':=hR.ext hG.undrew
 have hE':=hEW.trans hG.undrew
 have m4:=b4'.cell
 have n4:=b4'.frozen
 have b5s:=b5'.far (p:=⟨w.heap.size,0,none⟩) (by simp) (.slice A1 l1 c1)
 have m5:=b5s.cell
 have n5:=b5s.frozen
 go_wp2_with fail
 refine name_c (fun X hX=>?_)
 have d4:Box X w.heap.size 33 (.slice A1 l1 c1):=by rw[hX];exact(b4'.set _).far (by simp) _
 have d5:Box X (w.heap.size+1) 33 (.slice A2 l2 c2):=by rw[hX];exact b5s.set _
 have d6:Box X (w.heap.size+1+1) 33 (.slice none 0 0):=by rw[hX];exact(b6'.far (by simp;omega) _).far (by simp) _
 have x1:NatV X (.agg #[.slice A1 l1 c1]) (a % n):=by rw[hX];exact(hV1.far m4).far m5
 have x2:NatV X (.agg #[.slice A2 l2 c2]) (b % n):=by rw[hX];exact(hV2.far m4).far m5
 have hEX:Ext w X:=by rw[hX];exact(hE'.setCell (p:=⟨w.heap.size,0,none⟩) (.inr (Nat.le_refl _)) _).setCell (p:=⟨w.heap.size+1,0,none⟩) (.inr (by simp)) _
 have hRX:RingV X g n:=by
  obtain⟨D,ld,cd,g2,hVn,hn2⟩:=hR'
  exact⟨D,ld,cd,by rw[hX];exact(g2.far (p:=⟨w.heap.size,0,none⟩) (fun e=>by simp at e;omega) _).far (p:=⟨w.heap.size+1,0,none⟩) (fun e=>by simp at e;omega) _,by rw[hX];exact(hVn.far m4).far m5,hn2⟩
 clear hX hV1 hV2 m4 n4 m5 n5 b4 b5 b6 b4' b5' b6' b5s hR hR' hE' hG hU hEW hVa hVb
 have hG:Ext X X:=Upd.refl _ _
 refine(sub_no _ _ (a % n) (b % n) k _ x1 x2 hFx hFy (by omega) hab.out).mono ?_
 rintro e w3 ⟨A3,l3,c3,rfl,hV3,hU⟩
 replace hG:=hG.trans hU
 go_wp2_with fail
 refine name_w (fun Y hY=>?_)
 have hXY:Ext X Y:=by rw[hY];exact hG.alloc _
 clear hY hU hG hV3
 replace d4:=d4.ext hXY
 replace d5:=d5.ext hXY
 replace d6:=d6.ext hXY
 replace x1:=x1.ext hXY
 replace x2:=x2.ext hXY
 replace hEX:=hEX.trans hXY
 obtain⟨D,ld,cd,g2,hVn,hn2⟩:=hRX.ext hXY
 have hFs:Fit (k+1) (a % n+n):=Fit.add hFx hFn
 have hFy':Fit (k+1) (b % n):=hFy.mono (by omega)
 clear hRX hXY
 refine wp_region_fs 13 [.val (.eq (.agg #[.slice A1 l1 c1])),.val (.eq (.pointer (some ⟨g,0,none⟩))),.val (.eq (.pointer (some ⟨g,0,none⟩))),.val (.eq (.pointer (some ⟨g,0,none⟩))),.val (.eq (.agg #[.slice D ld cd])),.val (.nat (a % n+n)),.val (.eq (.agg #[.slice A2 l2 c2])),.tup2 (.nat (a % n+n - b % n)) (.eq (.bool true)),.tup2 (.nat (a % n+n - b % n)) (.eq (.bool true)),.val (.nat (a % n+n - b % n)),.val (.eq (.bool true)),.new 33 (.slice none 0 0),.set 11 33 (a % n+n - b % n)] [(12,11)] (by kernel_rfl) rfl (by kernel_rfl) (by kernel_rfl) (by kernel_rfl) ?_ ?_
 · intro i hi
   match i,hi with
   | 0,_=>
     intro u wx S o ho hE hr hd hw
     injection (ho:some _=some o)with ho
     subst ho
     have hEx:Ext Y wx:=hE.undrew
     have cx:=(d4.ext hEx).cell
     simp only[fr,dstOf]
     go_simp
     go_wp2
     first | exact⟨Upd.refl _ _,rfl⟩ | exact⟨_,rfl,Upd.refl _ _,rfl⟩
   | 1,_=>
     intro u wx S o ho hE hr hd hw
     injection (ho:some _=some o)with ho
     subst ho
     have hEx:Ext Y wx:=hE.undrew
     simp only[fr,dstOf]
     go_simp
     go_wp2
     first | exact⟨Upd.refl _ _,rfl⟩ | exact⟨_,rfl,Upd.refl _ _,rfl⟩
   | 2,_=>
     intro u wx S o ho hE hr hd hw
     injection (ho:some _=some o)with ho
     subst ho
     have hEx:Ext Y wx:=hE.undrew
     have f1:u 1=.pointer (some ⟨g,0,none⟩):=hw 1 (by omega) (by kernel_rfl) (by simp)
     simp only[fr,dstOf]
     go_simp
     go_wp2
     first | exact⟨Upd.refl _ _,rfl⟩ | exact⟨_,rfl,Upd.refl _ _,rfl⟩
   | 3,_=>
     intro u wx S o ho hE hr hd hw
     injection (ho:some _=some o)with ho
     subst ho
     have hEx:Ext Y wx:=hE.undrew
     have f2:u 2=.pointer (some ⟨g,0,none⟩):=hw 2 (by omega) (by kernel_rfl) (by simp)
     simp only[fr,dstOf]
     go_simp
     go_wp2
     first | exact⟨Upd.refl _ _,rfl⟩ | exact⟨_,rfl,Upd.refl _ _,rfl⟩
   | 4,_=>
     intro u wx S o ho hE hr hd hw
     injection (ho:some _=some o)with ho
     subst ho
     have hEx:Ext Y wx:=hE.undrew
     have f3:u 3=.pointer (some ⟨g,0,none⟩):=hw 3 (by omega) (by kernel_rfl) (by simp)
     have cx:=(g2.ext hEx).cell0
     simp only[fr,dstOf]
     go_simp
     go_wp2
     first | exact⟨Upd.refl _ _,rfl⟩ | exact⟨_,rfl,Upd.refl _ _,rfl⟩
   | 5,_=>
     intro u wx S o ho hE hr hd hw
     injection (ho:some _=some o)with ho
     subst ho
     have hEx:Ext Y wx:=hE.undrew
     have f0:u 0=.agg #[.slice A1 l1 c1]:=hw 0 (by omega) (by kernel_rfl) (by simp)
     have f4:u 4=.agg #[.slice D ld cd]:=hw 4 (by omega) (by kernel_rfl) (by simp)
     simp only[fr,dstOf]
     go_simp
     go_wp2_with fail
     refine(add_any _ _ (a % n) n k _ (x1.ext hEx) (hVn.ext hEx) hFx hFn (by omega)).mono ?_
     rintro e wn ⟨A9,l9,c9,rfl,hVm,hU⟩
     go_wp2_with fail
     exact⟨_,rfl,hU.mono (fun _ _ h=>h.elim),_,_,_,rfl,hVm⟩
   | 6,_=>
     intro u wx S o ho hE hr hd hw
     injection (ho:some _=some o)with ho
     subst ho
     have hEx:Ext Y wx:=hE.undrew
     have cx:=(d5.ext hEx).cell
     simp only[fr,dstOf]
     go_simp
     go_wp2
     first | exact⟨Upd.refl _ _,rfl⟩ | exact⟨_,rfl,Upd.refl _ _,rfl⟩
   | 7,_=>
     intro u wx S o ho hE hr hd hw
     injection (ho:some _=some o)with ho
     subst ho
     have hEx:Ext Y wx:=hE.undrew
     obtain⟨aA5,aL5,aC5,f5,hV5⟩:Fsh.J 5 (.val (.nat (a % n+n))) u wx (S 5):=hw 5 (by omega) (by kernel_rfl) (by simp)
     have f6:u 6=.agg #[.slice A2 l2 c2]:=hw 6 (by omega) (by kernel_rfl) (by simp)
     simp only[fr,dstOf]
     go_simp
     go_wp2_with fail
     refine(sub_yes _ _ (a % n+n) (b % n) (k+1) _ hV5 (x2.ext hEx) hFs hFy' (by omega) Hle.out).mono ?_
     rintro e wn ⟨A9,l9,c9,rfl,hVm,hU⟩
     go_wp2_with fail
     exact⟨_,rfl,hU.mono (fun _ _ h=>h.elim),_,_,rfl,⟨_,_,_,rfl,hVm⟩,rfl⟩
   | 8,_=>
     intro u wx S o ho hE hr hd hw
     injection (ho:some _=some o)with ho
     subst ho
     have hEx:Ext Y wx:=hE.undrew
     obtain⟨_,_,f7,⟨aA7_0,aL7_0,aC7_0,rfl,hV7_0⟩,rfl⟩:Fsh.J 7 (.tup2 (.nat (a % n+n - b % n)) (.eq (.bool true))) u wx (S 7):=hw 7 (by omega) (by kernel_rfl) (by simp)
     simp only[fr,dstOf]
     go_simp
     go_wp2
     first | exact⟨Upd.refl _ _,_,_,rfl,⟨_,_,_,rfl,hV7_0⟩,rfl⟩ | exact⟨_,rfl,Upd.refl _ _,_,_,rfl,⟨_,_,_,rfl,hV7_0⟩,rfl⟩
   | 9,_=>
     intro u wx S o ho hE hr hd hw
     injection (ho:some _=some o)with ho
     subst ho
     have hEx:Ext Y wx:=hE.undrew
     obtain⟨_,_,f8,⟨aA8_0,aL8_0,aC8_0,rfl,hV8_0⟩,rfl⟩:Fsh.J 8 (.tup2 (.nat (a % n+n - b % n)) (.eq (.bool true))) u wx (S 8):=hw 8 (by omega) (by kernel_rfl) (by simp)
     simp only[fr,dstOf]
     go_simp
     go_wp2
     first | exact⟨Upd.refl _ _,aA8_0,aL8_0,aC8_0,rfl,hV8_0⟩ | exact⟨_,rfl,Upd.refl _ _,aA8_0,aL8_0,aC8_0,rfl,hV8_0⟩
   | 10,_=>
     intro u wx S o ho hE hr hd hw
     injection (ho:some _=some o)with ho
     subst ho
     have hEx:Ext Y wx:=hE.undrew
     obtain⟨_,_,f8,⟨aA8_0,aL8_0,aC8_0,rfl,hV8_0⟩,rfl⟩:Fsh.J 8 (.tup2 (.nat (a % n+n - b % n)) (.eq (.bool true))) u wx (S 8):=hw 8 (by omega) (by kernel_rfl) (by simp)
     simp only[fr,dstOf]
     go_simp
     go_wp2
     first | exact⟨Upd.refl _ _,rfl⟩ | exact⟨_,rfl,Upd.refl _ _,rfl⟩
   | 11,_=>
     intro u wx S o ho hE hr hd hw
     injection (ho:some _=some o)with ho
     subst ho
     have hEx:Ext Y wx:=hE.undrew
     simp only[fr,dstOf]
     go_simp
     go_wp2
     first | exact⟨(Upd.refl _ _).alloc _,wx.heap.size,rfl,Box.new _ _ _,⟨Nat.le_refl _,by first | exact Nat.lt_succ_self _ | simp⟩,fun b hb=>by first | omega | (simp at hb;omega)⟩ | exact⟨_,rfl,(Upd.refl _ _).alloc _,wx.heap.size,rfl,Box.new _ _ _,⟨Nat.le_refl _,by first | exact Nat.lt_succ_self _ | simp⟩,fun b hb=>by first | omega | (simp at hb;omega)⟩
   | 12,_=>
     intro u wx S o ho hE hr hd hw
     injection (ho:some _=some o)with ho
     subst ho
     have hEx:Ext Y wx:=hE.undrew
     obtain⟨aA9,aL9,aC9,f9,hV9⟩:Fsh.J 9 (.val (.nat (a % n+n - b % n))) u wx (S 9):=hw 9 (by omega) (by kernel_rfl) (by simp)
     obtain⟨g11,f11,hb11,hs11,hall11⟩:Fsh.J 11 (.new 33 (.slice none 0 0)) u wx (S 11):=hw 11 (by omega) (by kernel_rfl) (by simp)
     have cg11:=hb11.cell
     have fg11:=hb11.frozen
     simp only[fr,dstOf]
     go_simp
     go_wp2
     first | exact⟨(Upd.refl _ _).setCell (p:=⟨g11,0,none⟩) (.inl hs11) _,undef,g11,aA9,aL9,aC9,(updf_ne u _ (by decide)).trans f11,hb11.set _,.inr hs11,hV9.far cg11⟩ | exact⟨undef,(Upd.refl _ _).setCell (p:=⟨g11,0,none⟩) (.inl hs11) _,g11,aA9,aL9,aC9,(updf_ne u _ (by decide)).trans f11,hb11.set _,.inr hs11,hV9.far cg11⟩ | exact⟨trivial,(Upd.refl _ _).setCell (p:=⟨g11,0,none⟩) (.inl hs11) _,undef,g11,aA9,aL9,aC9,(updf_ne u _ (by decide)).trans f11,hb11.set _,.inr hs11,hV9.far cg11⟩
   | k+13,h=>exact absurd h (by omega)
 · intro u wx S hE hw hrg hdj
   have hEx:Ext Y wx:=hE.undrew
   have f0:u 0=.agg #[.slice A1 l1 c1]:=hw 0 (by omega) (by simp)
   have f1:u 1=.pointer (some ⟨g,0,none⟩):=hw 1 (by omega) (by simp)
   have f2:u 2=.pointer (some ⟨g,0,none⟩):=hw 2 (by omega) (by simp)
   have f3:u 3=.pointer (some ⟨g,0,none⟩):=hw 3 (by omega) (by simp)
   have f4:u 4=.agg #[.slice D ld cd]:=hw 4 (by omega) (by simp)
   obtain⟨aA5,aL5,aC5,f5,hV5⟩:Fsh.J 5 (.val (.nat (a % n+n))) u wx (S 5):=hw 5 (by omega) (by simp)
   have f6:u 6=.agg #[.slice A2 l2 c2]:=hw 6 (by omega) (by simp)
   obtain⟨_,_,f7,⟨aA7_0,aL7_0,aC7_0,rfl,hV7_0⟩,rfl⟩:Fsh.J 7 (.tup2 (.nat (a % n+n - b % n)) (.eq (.bool true))) u wx (S 7):=hw 7 (by omega) (by simp)
   obtain⟨_,_,f8,⟨aA8_0,aL8_0,aC8_0,rfl,hV8_0⟩,rfl⟩:Fsh.J 8 (.tup2 (.nat (a % n+n - b % n)) (.eq (.bool true))) u wx (S 8):=hw 8 (by omega) (by simp)
   obtain⟨aA9,aL9,aC9,f9,hV9⟩:Fsh.J 9 (.val (.nat (a % n+n - b % n))) u wx (S 9):=hw 9 (by omega) (by simp)
   have f10:u 10=.bool true:=hw 10 (by omega) (by simp)
   obtain⟨g12,aA12,aL12,aC12,f11,hb12,hs12,hV12⟩:Fsh.J 12 (.set 11 33 (a % n+n - b % n)) u wx (S 12):=hw 12 (by omega) (by simp)
   simp only[fr,dstOf]
   go_simp
   have d6':=d6.ext hEx
   have q1:=hb12.cell
   have q2:=d6'.cell
   have q3:=d6'.frozen
   clear hw hrg hdj f0 f1 f2 f3 f4 f5 f6 f7 f8 f9 f10 hs12
   go_wp2_with fail
   have q:=(d6'.set (.slice aA12 aL12 aC12)).cell
   exact bodyPost_ret (v:=.agg #[.slice aA12 aL12 aC12]) (by simp[results,Try.results103,go_sem,q]) rfl ⟨_,_,_,rfl,hV12.far q2,(hEX.trans hEx).setCell (p:=⟨w.heap.size+1+1,0,none⟩) (.inr (by simp;omega)) _⟩
def subm (a b n:Nat):Nat:=(a % n+n - b % n) % n
theorem msub_any (va vb:Value) (g a b n k:Nat) (w:World) (hR:RingV w g n) (hVa:NatV w va a) (hVb:NatV w vb b) (hFa:Fit k a) (hFb:Fit k b) (hFn:Fit k n) (hk:k≤100000):
 Calls Try.prog 103 #[.pointer (some ⟨g,0,none⟩),va,vb] w (RetN w (subm a b n)):=by
 have hn:=hR.two
 have h1:=Nat.mod_lt a (show 0<n by omega)
 have h2:=Nat.mod_lt b (show 0<n by omega)
 by_cases hab:b % n≤a % n
 · have:=msub_yes va vb g a b n k w hR hVa hVb hFa hFb hFn hk (hide hab)
   have e:subm a b n=a % n - b % n:=by
    unfold subm
    rw[show a % n+n - b % n=a % n - b % n+n by omega,Nat.add_mod_right,Nat.mod_eq_of_lt (by omega)]
   rwa [e]
 · have:=msub_no va vb g a b n k w hR hVa hVb hFa hFb hFn hk (hide (by omega))
   have e:subm a b n=a % n+n - b % n:=by
    unfold subm
    rw[Nat.mod_eq_of_lt (by omega)]
   rwa [e]
end
/- Powers in rings, walked: Exp with a short exponent. -/
section
open Go.RowKit
open Nt
attribute [local go_sem] steady steadyUpon Cls same_cell
attribute [local irreducible] wpHead wpTree
theorem NatV.only {w w':World} {g n:Nat} {v:Value} {t:TypeId} {A:Option Addr} {l c:Nat} (h:NatV w v n) (hb:Box w g t (.slice A l c)) (hu:Upd (only g) w w'):NatV w' v n:=
 h.change' hu fun b hb'=>by
   have:b=g:=hb'
   subst this
   exact⟨t,_,hb,rfl⟩
theorem div_two (e j:Nat):e / 2^j=2*(e / 2^(j+1))+e / 2^j % 2:=by
 rw[Nat.pow_succ,←Nat.div_div_eq_div_mul];omega
theorem exp_even {a e n j:Nat} (h:e / 2^j % 2=0):(a^(e / 2^(j+1)) % n)*(a^(e / 2^(j+1)) % n) % n=a^(e / 2^j) % n:=by
 have h1:=div_two e j
 rw[h]at h1
 rw[h1,←Nat.mul_mod,←Nat.pow_add]
 congr 2
 omega
theorem exp_odd {a e n j:Nat} (h:e / 2^j % 2=1):((a^(e / 2^(j+1)) % n)*(a^(e / 2^(j+1)) % n) % n)*(a % n) % n=a^(e / 2^j) % n:=by
 have h1:=div_two e j
 rw[h]at h1
 rw[h1,←Nat.mul_mod (a^(e / 2^(j+1))),←Nat.mul_mod (a^(e / 2^(j+1))*a^(e / 2^(j+1))),←Nat.pow_add,←Nat.pow_succ]
 congr 2
 omega
theorem exp_top {a e n:Nat}:1 % n=a^(e / 2^blen e) % n:=by
 have h:e<2^blen e:=(blen_le_iff).1 (Nat.le_refl _)
 rw[Nat.div_eq_of_lt h,Nat.pow_zero]
set_option maxRecDepth 100000 in
set_option maxHeartbeats 4000000 in
theorem mexp_zero (va vb:Value) (g a b n k m:Nat) (w:World) (hR:RingV w g n) (hVa:NatV w va a) (hVb:NatV w vb b) (hFn:Fit k n) (hk:k≤50000) (hb:b=0):
 Calls Try.prog 37 #[.pointer (some ⟨g,0,none⟩),va,vb] w (RetN w (a^b % n)):=by
 have Hb:=hide hb
 clear hb
 obtain⟨A,la,ca,xs,rfl, -⟩:=hVa.open_
 obtain⟨B,lb,cb,ys,rfl, -⟩:=hVb.open_
 have hn:=hR.two
 have hFx:Fit k (a % n):=hFn.le (Nat.le_of_lt (Nat.mod_lt _ (by omega)))
 have hF1:Fit k 1:=hFn.le (by omega)
 go_enter Try.func37,Try.ntmps37
 go_wp2_with fail
 refine name_c (fun W hW=>?_)
 have b4:Box W w.heap.size 33 (.slice A la ca):=by rw[hW];exact((Box.new _ _ _).alloc _).alloc _
 have b5:Box W (w.heap.size+1) 33 (.slice B lb cb):=by rw[hW];exact(Box.new_at (by simp)).alloc _
 have b6:Box W (w.heap.size+1+1) 33 (.slice none 0 0):=by rw[hW];exact Box.new_at (by simp)
 have hE:Ext w W:=by rw[hW];exact(((Upd.refl _ w).alloc _).alloc _).alloc _
 have hWz:W.heap.size=w.heap.size+1+1+1:=by rw[hW];simp
 clear hW
 replace hVa:=hVa.ext hE
 replace hVb:=hVb.ext hE
 replace hR:=hR.ext hE
 have hG:Ext W W:=Upd.refl _ _
 refine(new_any 1 _ (by omega)).mono ?_
 rintro e0 w1 ⟨A1,l1,c1,rfl,hV1,hU⟩
 replace hG:=hG.trans hU
 go_wp2_with fail
 refine(mof_any _ g 1 n k _ (hR.ext hG) hV1 hF1 hFn (by omega)).mono ?_
 rintro e w2 ⟨A2,l2,c2,rfl,hV2,hU⟩
 replace hG:=hG.trans hU
 have k5:=((b5.ext hG).alloc (.cells #[.slice A2 l2 c2] 33)).cell
 go_wp2_with fail
 clear k5
 refine name_c (fun X hX=>?_)
 have b7:Box X w2.heap.size 33 (.slice A2 l2 c2):=by rw[hX];exact Box.new _ _ _
 have hX2:Ext w2 X:=by rw[hX];exact(Upd.refl _ _).alloc _
 have h7:W.heap.size≤w2.heap.size:=hG.size
 clear hX
 replace hE:=hE.trans (hG.trans hX2)
 replace b4:=b4.ext (hG.trans hX2)
 replace b5:=b5.ext (hG.trans hX2)
 replace b6:=b6.ext (hG.trans hX2)
 replace hVa:=hVa.ext (hG.trans hX2)
 replace hVb:=hVb.ext (hG.trans hX2)
 replace hR:=hR.ext (hG.trans hX2)
 replace hV2:=hV2.ext hX2
 clear hG hX2 hV1 hU
 have hG:Ext X X:=Upd.refl _ _
 refine(zero_any _ b _ hVb).mono ?_
 rintro e0 w3 ⟨rfl,hU⟩
 replace hG:=hG.trans hU
 rw[decide_eq_true Hb.out]
 have k6:=(b6.ext hG).cell
 have f6:=(b6.ext hG).frozen
 have k7:=(b7.ext hG).cell
 go_wp2_with fail
 have q:=((b6.ext hG).set (.slice A2 l2 c2)).cell
 exact bodyPost_ret (v:=.agg #[.slice A2 l2 c2]) (by simp[results,Try.results37,go_sem,q]) rfl ⟨_,_,_,rfl,(((hV2.ext hG).of_eq (by rw[Hb.out,Nat.pow_zero])).far k6),(hE.trans hG).setCell (p:=⟨w.heap.size+1+1,0,none⟩) (.inr (by simp;omega)) _⟩
set_option maxRecDepth 100000 in
set_option maxHeartbeats 8000000 in
theorem mexp_short (va vb:Value) (g a b n k m:Nat) (w:World) (hR:RingV w g n) (hVa:NatV w va a) (hVb:NatV w vb b) (hFa:Fit k a) (hFn:Fit k n) (hFb:Fit m b) (hk:k≤50000) (hm:m≤50000) (hb:0<b) (hs:blen b≤24):
 Calls Try.prog 37 #[.pointer (some ⟨g,0,none⟩),va,vb] w (RetN w (a^b % n)):=by
 have hgw:g<w.heap.size:=by
  obtain⟨D,ld,cd,g2, -⟩:=hR
  exact g2.lt
 obtain⟨A,la,ca,xs,rfl, -⟩:=hVa.open_
 obtain⟨B,lb,cb,ys,rfl, -⟩:=hVb.open_
 have hn:=hR.two
 have hFx:Fit k (a % n):=hFn.le (Nat.le_of_lt (Nat.mod_lt _ (by omega)))
 have hF1:Fit k 1:=hFn.le (by omega)
 go_enter Try.func37,Try.ntmps37
 go_wp2_with fail
 refine name_c (fun W hW=>?_)
 have b4:Box W w.heap.size 33 (.slice A la ca):=by rw[hW];exact((Box.new _ _ _).alloc _).alloc _
 have b5:Box W (w.heap.size+1) 33 (.slice B lb cb):=by rw[hW];exact(Box.new_at (by simp)).alloc _
 have b6:Box W (w.heap.size+1+1) 33 (.slice none 0 0):=by rw[hW];exact Box.new_at (by simp)
 have hE:Ext w W:=by rw[hW];exact(((Upd.refl _ w).alloc _).alloc _).alloc _
 have hWz:W.heap.size=w.heap.size+1+1+1:=by rw[hW];simp
 clear hW
 replace hVa:=hVa.ext hE
 replace hVb:=hVb.ext hE
 replace hR:=hR.ext hE
 have hG:Ext W W:=Upd.refl _ _
 refine(new_any 1 _ (by omega)).mono ?_
 rintro e0 w1 ⟨A1,l1,c1,rfl,hV1,hU⟩
 replace hG:=hG.trans hU
 go_wp2_with fail
 refine(mof_any _ g 1 n k _ (hR.ext hG) hV1 hF1 hFn (by omega)).mono ?_
 rintro e w2 ⟨A2,l2,c2,rfl,hV2,hU⟩
 replace hG:=hG.trans hU
 have k5:=((b5.ext hG).alloc (.cells #[.slice A2 l2 c2] 33)).cell
 go_wp2_with fail
 clear k5
 refine name_c (fun X hX=>?_)
 have b7:Box X w2.heap.size 33 (.slice A2 l2 c2):=by rw[hX];exact Box.new _ _ _
 have hX2:Ext w2 X:=by rw[hX];exact(Upd.refl _ _).alloc _
 have h7:W.heap.size≤w2.heap.size:=hG.size
 clear hX
 replace hE:=hE.trans (hG.trans hX2)
 replace b4:=b4.ext (hG.trans hX2)
 replace b5:=b5.ext (hG.trans hX2)
 replace b6:=b6.ext (hG.trans hX2)
 replace hVa:=hVa.ext (hG.trans hX2)
 replace hVb:=hVb.ext (hG.trans hX2)
 replace hR:=hR.ext (hG.trans hX2)
 replace hV2:=hV2.ext hX2
 clear hG hX2 hV1 hU
 have hG:Ext X X:=Upd.refl _ _
 refine(zero_any _ b _ hVb).mono ?_
 rintro e0 w3 ⟨rfl,hU⟩
 replace hG:=hG.trans hU
 rw[decide_eq_false (by omega)]
 have k4:=(b4.ext hG).cell
 go_wp2_with fail
 refine(mof_any _ g a n k _ (hR.ext hG) (hVa.ext hG) hFa hFn (by omega)).mono ?_
 rintro e w4 ⟨A3,l3,c3,rfl,hV3,hU⟩
 replace hG:=hG.trans hU
 have b4':=b4.ext hG
 replace k4:=b4'.cell
 have f4:=b4'.frozen
 have b5':=(b5.ext hG).far (p:=⟨w.heap.size,0,none⟩) (by simp) (.slice A3 l3 c3)
 have k5:=b5'.cell
 go_wp2_with fail
 refine name_c (fun Y hY=>?_)
 have hY4:Upd (only w.heap.size) w4 Y:=by rw[hY];exact(Upd.refl (only w.heap.size) _).setCell (p:=⟨w.heap.size,0,none⟩) (.inl rfl) _
 have hEY:Ext w Y:=by rw[hY];exact(hE.trans hG).setCell (p:=⟨w.heap.size,0,none⟩) (.inr (Nat.le_refl _)) _
 have d4:Box Y w.heap.size 33 (.slice A3 l3 c3):=by rw[hY];exact b4'.set _
 have d5:Box Y (w.heap.size+1) 33 (.slice B lb cb):=by rw[hY];exact b5'
 have d6:Box Y (w.heap.size+1+1) 33 (.slice none 0 0):=by rw[hY];exact(b6.ext hG).far (p:=⟨w.heap.size,0,none⟩) (by simp;omega) _
 have d7:Box Y w2.heap.size 33 (.slice A2 l2 c2):=by rw[hY];exact(b7.ext hG).far (p:=⟨w.heap.size,0,none⟩) (by simp;omega) _
 have hVb':NatV Y (.agg #[.slice B lb cb]) b:=(hVb.ext hG).only b4' hY4
 have hV2':NatV Y (.agg #[.slice A2 l2 c2]) (1 % n):=(hV2.ext hG).only b4' hY4
 have hV3':NatV Y (.agg #[.slice A3 l3 c3]) (a % n):=hV3.only b4' hY4
 have hR':RingV Y g n:=by
  obtain⟨D,ld,cd,g2,hVn,hn2⟩:=hR.ext hG
  exact⟨D,ld,cd,by rw[hY];exact g2.far (p:=⟨w.heap.size,0,none⟩) (fun e=>by have:=hgw;simp at e;omega) _,hVn.only b4' hY4,hn2⟩
 clear hY hY4 b4 b5 b6 b7 b4' b5' k4 f4 hR hVa hVb hV2 hE hG hU hV3 k5
 have hG:Ext Y Y:=Upd.refl _ _
 refine(bits_any _ b m _ hVb' hFb (by omega)).mono ?_
 rintro e0 w5 ⟨rfl,hU⟩
 replace hG:=hG.trans hU
 have k7:=(d7.ext hG).cell
 have k5:=((d5.ext hG).alloc (.cells #[.slice A2 l2 c2] 33)).cell
 obtain⟨N,hN⟩:∃N,N=blen b:=⟨_,rfl⟩
 rw[←hN]at hs ⊢
 have HN:=hide hN
 clear hN
 go_wp2_with fail
 clear k7 k5
 refine name_c (fun Z hZ=>?_)
 have hZ5:Ext w5 Z:=by rw[hZ];exact(Upd.refl _ _).alloc _
 have d8:Box Z w5.heap.size 33 (.slice A2 l2 c2):=by rw[hZ];exact Box.new _ _ _
 have h8:Y.heap.size≤w5.heap.size:=hG.size
 have h8w:w.heap.size+1+1<w5.heap.size:=Nat.lt_of_lt_of_le d6.lt h8
 clear hZ
 replace hG:=hG.trans hZ5
 clear hU
 refine(bits_any _ b m _ (hVb'.ext hG) hFb (by omega)).mono ?_
 rintro e0 w6 ⟨rfl,hU⟩
 rw[←HN.out]
 replace hG:=hG.trans hU
 replace hV2':=hV2'.ext hG
 replace d8:=d8.ext hU
 go_wp2_with fail
 refine name_w (fun V hV=>?_)
 have hVG:Ext Y V:=by rw[hV];exact hG
 replace hV2':NatV V (.agg #[.slice A2 l2 c2]) (1 % n):=by rw[hV];exact hV2'
 replace d8:Box V w5.heap.size 33 (.slice A2 l2 c2):=by rw[hV];exact d8
 clear hV hG hU hZ5
 replace d4:=d4.ext hVG
 replace d5:=d5.ext hVG
 replace d6:=d6.ext hVG
 replace hR':=hR'.ext hVG
 replace hVb':=hVb'.ext hVG
 replace hV3':=hV3'.ext hVG
 have hEV:=hEY.trans hVG
 clear hVG hEY d7 hFx hF1
 have hgw':g<w5.heap.size:=by omega
 go_loopw [9] (fun i wr=>∃(j:Nat) (X:Option Addr) (lX cX:Nat),j≤N∧i=.int .i64 ((j:Int) - 1)∧Box wr w5.heap.size 33 (.slice X lX cX)∧NatV wr (.agg #[.slice X lX cX]) (a^(b / 2^j) % n)∧Upd (only w5.heap.size) V wr) (fun i _=>(intOf i+1).toNat)
 case atStart=>exact⟨N,_,_,_,Nat.le_refl _,rfl,d8,hV2'.of_eq (by rw[HN.out];exact exp_top),Upd.refl _ _⟩
 case round=>
  obtain⟨j,X',lX,cX,hj,rfl,e8,hVX,hUV⟩:=hrel
  have e4:=d4.upd hUV (fun h=>by unfold only at h;omega)
  have e5:=d5.upd hUV (fun h=>by unfold only at h;omega)
  have e6:=d6.upd hUV (fun h=>by unfold only at h;omega)
  have hRr:RingV wr g n:=by
   obtain⟨D,ld,cd,g2,hVn,hn2⟩:=hR'
   exact⟨D,ld,cd,g2.upd hUV (fun h=>by unfold only at h;omega),hVn.only d8 hUV,hn2⟩
  have hVbr:=hVb'.only d8 hUV
  have hV3r:=hV3'.only d8 hUV
  have hEr:Ext w wr:=Upd.fresh hUV hEV (fun i hi=>by unfold only at hi;omega)
  rcases Nat.eq_zero_or_pos j with hj0 | hj0
  · have k8:=e8.cell
    have k6:=e6.cell
    have f6:=e6.frozen
    go_wp2_with fail
    have q:=(e6.set (.slice X' lX cX)).cell
    exact bodyPost_ret (v:=.agg #[.slice X' lX cX]) (by simp[results,Try.results37,go_sem,q]) rfl ⟨_,_,_,rfl,(hVX.of_eq (by rw[hj0,Nat.pow_zero,Nat.div_one])).far k6,hEr.setCell (p:=⟨w.heap.size+1+1,0,none⟩) (.inr (by simp;omega)) _⟩
  · obtain⟨i,rfl⟩:∃i,j=i+1:=⟨j - 1,by omega⟩
    have hi:(((i+1:Nat):Int) - 1)=(i:Int):=by omega
    rw[hi]
    clear hi
    obtain⟨x,hx⟩:∃x,x=a^(b / 2^(i+1)) % n:=⟨_,rfl⟩
    rw[←hx]at hVX
    have Hx:=hide hx
    clear hx
    have hFX:Fit k x:=hFn.le (by rw[Hx.out];exact Nat.le_of_lt (Nat.mod_lt _ (by omega)))
    have k8:=e8.cell
    go_wp2_with fail
    have hG:Ext wr wr:=Upd.refl _ _
    refine(mmul_any _ _ g x x n k _ hRr hVX hVX hFX hFX hFn (by omega)).mono ?_
    rintro e0 w7 ⟨A7,l7,c7,rfl,hV7,hU⟩
    replace hG:=hG.trans hU
    have e8':=e8.ext hG
    replace k8:=e8'.cell
    have f8:=e8'.frozen
    have k5:=((e5.ext hG).far (p:=⟨w5.heap.size,0,none⟩) (by simp;omega) (.slice A7 l7 c7)).cell
    go_wp2_with fail
    refine name_c (fun S hS=>?_)
    have u4:Box S w.heap.size 33 (.slice A3 l3 c3):=by rw[hS];exact(e4.ext hG).far (p:=⟨w5.heap.size,0,none⟩) (by simp;omega) _
    have u8:Box S w5.heap.size 33 (.slice A7 l7 c7):=by rw[hS];exact e8'.set _
    have hUS:Upd (only w5.heap.size) V S:=by rw[hS];exact(hUV.ext hG).setCell (p:=⟨w5.heap.size,0,none⟩) (.inl rfl) _
    have hV7S:NatV S (.agg #[.slice A7 l7 c7]) (x*x % n):=by rw[hS];exact hV7.far e8'.cell
    clear hS k8 f8 k5 hV7 e8 e8' e4 e5 e6 hRr hVbr hV3r hVX hG hU hUV hEr
    have hFX2:Fit k (x*x % n):=hFn.le (Nat.le_of_lt (Nat.mod_lt _ (by omega)))
    have hG:Ext S S:=Upd.refl _ _
    refine(bit_any _ b m (i:Int) _ (hVb'.only d8 hUS) hFb (by omega) (by omega)).mono ?_
    rintro e0 w8 ⟨rfl,hU⟩
    rw[if_pos (by omega),Int.toNat_natCast]
    replace hG:=hG.trans hU
    have u8':=u8.ext hG
    by_cases hbit:b / 2^i % 2=1
    · rw[show((b / 2^i % 2:Nat):Int)=1 by omega]
      have k8:=u8'.cell
      have k4:=(u4.ext hG).cell
      have Hbit:=hide hbit
      clear hbit
      go_wp2_with fail
      clear k8 k4
      have hRS:RingV S g n:=by
       obtain⟨D,ld,cd,g2,hVn,hn2⟩:=hR'
       exact⟨D,ld,cd,g2.upd hUS (fun h=>by unfold only at h;omega),hVn.only d8 hUS,hn2⟩
      refine(mmul_any _ _ g (x*x % n) (a % n) n k _ (hRS.ext hG) (hV7S.ext hG) ((hV3'.only d8 hUS).ext hG) hFX2 (hFn.le (Nat.le_of_lt (Nat.mod_lt _ (by omega)))) hFn (by omega)).mono ?_
      rintro e0 w9 ⟨A9,l9,c9,rfl,hV9,hU9⟩
      have v8:=u8'.ext hU9
      have k8:=v8.cell
      have f8:=v8.frozen
      go_wp2_with fail
      go_roundw
      case rel=>exact⟨i,_,_,_,by omega,by go_num,v8.set _,(hV9.of_eq (by rw[Hx.out];exact exp_odd Hbit.out)).far k8,(hUS.ext (hG.trans hU9)).setCell (p:=⟨w5.heap.size,0,none⟩) (.inl rfl) _⟩
      case measure=>simp[intOf]
    · have hbit0:b / 2^i % 2=0:=by omega
      rw[show((b / 2^i % 2:Nat):Int)=0 by omega]
      have Hbit:=hide hbit0
      clear hbit hbit0
      go_wp2_with fail
      go_roundw
      case rel=>exact⟨i,_,_,_,by omega,by go_num,u8',(hV7S.ext hG).of_eq (by rw[Hx.out];exact exp_even Hbit.out),hUS.ext hG⟩
      case measure=>simp[intOf]
end
/- Rings of numbers, walked: Inv in no ring. -/
section
open Go.RowKit
open Nt
attribute [local go_sem] steady steadyUpon Cls same_cell
attribute [local irreducible] wpHead wpTree
end
/- The document's rings over rows of truths, walked: Of, Add, Sub, Mul. -/
section
open Go.RowKit
open Nt
theorem blen_sum {a b k:Nat} (ha:blen a≤k) (hb:blen b≤k):blen (a+b)≤k+1:=by
 rw[blen_le_iff]at*
 rw[Nat.pow_succ];omega
theorem blen_mul' {a b k:Nat} (ha:blen a≤k) (hb:blen b≤k):blen (a*b)≤k+k:=by
 rw[blen_le_iff]at*
 rw[Nat.pow_add]
 exact Nat.mul_lt_mul_of_lt_of_le ha (Nat.le_of_lt hb) (Nat.two_pow_pos k)
theorem blen_le_of {a b k:Nat} (h:a≤b) (hb:blen b≤k):blen a≤k:=by
 rw[blen_le_iff]at*;omega
set_option maxRecDepth 100000 in
set_option maxHeartbeats 1000000 in
theorem rmof_any (va vn:Value) (a n k:Nat) (w:World) (hVa:RefV w va a) (hVn:RefV w vn n) (hFa:blen a≤k) (hFn:blen n≤k) (hk:k≤4000000) (hn:0<n):
 Calls Try.prog 77 #[va,vn] w (RetR w (a % n)):=by
 obtain⟨A,la,ca,xs,rfl, -⟩:=hVa.open_
 obtain⟨B,lb,cb,ys,rfl, -⟩:=hVn.open_
 have hG:Ext w w:=Upd.refl _ _
 go_enter Try.func77,Try.ntmps77
 go_wp2_with fail
 refine(rdiv_any _ _ a n k _ hVa hVn hFa hFn hk hn).mono ?_
 rintro e w1 ⟨A1,l1,c1,A2,l2,c2,rfl,hV1,hV2,hU⟩
 replace hG:=hG.trans hU
 go_wp2_with fail
 go_ret
 exact⟨_,_,_,rfl,hV2,hG⟩
set_option maxRecDepth 100000 in
set_option maxHeartbeats 1000000 in
theorem rmmul_any (va vb vn:Value) (a b n k:Nat) (w:World) (hVa:RefV w va a) (hVb:RefV w vb b) (hVn:RefV w vn n) (hFa:blen a≤k) (hFb:blen b≤k) (hFn:blen n≤k) (hk:k≤1000000) (hn:0<n):
 Calls Try.prog 78 #[va,vb,vn] w (RetR w ((a*b) % n)):=by
 obtain⟨A,la,ca,xs,rfl, -⟩:=hVa.open_
 obtain⟨B,lb,cb,ys,rfl, -⟩:=hVb.open_
 obtain⟨D,ld,cd,zs,rfl, -⟩:=hVn.open_
 have hG:Ext w w:=Upd.refl _ _
 go_enter Try.func78,Try.ntmps78
 go_wp2_with fail
 refine(rmul_any _ _ a b k _ hVa hVb hFa hFb (by omega)).mono ?_
 rintro e w1 ⟨A1,l1,c1,rfl,hV1,hU⟩
 replace hG:=hG.trans hU
 go_wp2_with fail
 refine(rmof_any _ _ (a*b) n (k+k) _ hV1 (hVn.ext hG) (blen_mul' hFa hFb) (by omega) (by omega) hn).mono ?_
 rintro e w2 ⟨A2,l2,c2,rfl,hV2,hU⟩
 replace hG:=hG.trans hU
 go_wp2_with fail
 go_ret
 exact⟨_,_,_,rfl,hV2,hG⟩
set_option maxRecDepth 100000 in
set_option maxHeartbeats 1000000 in
theorem rmsub_any (va vb vn:Value) (a b n k:Nat) (w:World) (hVa:RefV w va a) (hVb:RefV w vb b) (hVn:RefV w vn n) (hFa:blen a≤k) (hFb:blen b≤k) (hFn:blen n≤k) (hk:k≤1000000) (hn:0<n):
 Calls Try.prog 112 #[va,vb,vn] w (RetR w (subm a b n)):=by
 obtain⟨A,la,ca,xs,rfl, -⟩:=hVa.open_
 obtain⟨B,lb,cb,ys,rfl, -⟩:=hVb.open_
 obtain⟨D,ld,cd,zs,rfl, -⟩:=hVn.open_
 have hle:b % n≤a % n+n:=by have:=Nat.mod_lt b hn;omega
 have hs:=blen_sum (blen_mod (a:=a) hFn hn) hFn
 have hG:Ext w w:=Upd.refl _ _
 go_enter Try.func112,Try.ntmps112
 go_wp2_with fail
 refine(rmof_any _ _ a n k _ hVa hVn hFa hFn (by omega) hn).mono ?_
 rintro e w1 ⟨A1,l1,c1,rfl,hV1,hU⟩
 replace hG:=hG.trans hU
 go_wp2_with fail
 refine(radd_any _ _ (a % n) n k _ hV1 (hVn.ext hG) (blen_mod hFn hn) hFn (by omega)).mono ?_
 rintro e w2 ⟨A2,l2,c2,rfl,hV2,hU⟩
 replace hG:=hG.trans hU
 go_wp2_with fail
 refine(rmof_any _ _ b n k _ (hVb.ext hG) (hVn.ext hG) hFb hFn (by omega) hn).mono ?_
 rintro e w3 ⟨A3,l3,c3,rfl,hV3,hU⟩
 replace hG:=hG.trans hU
 go_wp2_with fail
 refine(rsub_any _ _ (a % n+n) (b % n) (k+1) _ (hV2.ext hU) hV3 hs (by omega) hle).mono ?_
 rintro e w4 ⟨A4,l4,c4,rfl,hV4,hU⟩
 replace hG:=hG.trans hU
 go_wp2_with fail
 refine(rmof_any _ _ (a % n+n - b % n) n (k+1) _ hV4 (hVn.ext hG) (blen_le_of (Nat.sub_le _ _) hs) (by omega) (by omega) hn).mono ?_
 rintro e w5 ⟨A5,l5,c5,rfl,hV5,hU⟩
 replace hG:=hG.trans hU
 go_wp2_with fail
 go_ret
 exact⟨_,_,_,rfl,hV5,hG⟩
end
end Go.Proofs.Ytbhhjfhepkbfgaa
