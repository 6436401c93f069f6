/- Powers in rings, walked: Exp with a long exponent, by a table of sixteen powers. -/
import Derived.Test.YtbhhjfhepkbfgaaGnMods
namespace Go.Proofs.Ytbhhjfhepkbfgaa
set_option linter.unusedSimpArgs false
set_option linter.unusedVariables false
open Go.RowKit
open Nt
attribute [local go_sem] steady steadyUpon Cls same_cell
attribute [local irreducible] wpHead wpTree
abbrev SvF :=Nat→Option Addr × Nat × Nat
def sv (f:SvF) (j:Nat):Value:=.slice (f j).1 (f j).2.1 (f j).2.2
theorem sv_put (f:SvF) (i:Nat) (A:Option Addr) (l c:Nat):put1 (sv f) i (.slice A l c)=sv (put1 f i (A,l,c)):=by
 funext j
 unfold put1 sv
 by_cases h:j=i
 · subst h;simp
 · simp[h]
theorem sv_same (f:SvF) (i:Nat) (A:Option Addr) (l c:Nat):sv (put1 f i (A,l,c)) i=.slice A l c:=by unfold sv put1;simp
theorem sv_other (f:SvF) (i j:Nat) (x:Option Addr × Nat × Nat) (h:j≠i):sv (put1 f i x) j=sv f j:=by unfold sv put1;rw[if_neg h]
theorem NatV.onlyArr {w w':World} {v:Value} {n G m:Nat} {t:TypeId} {f:SvF} (h:NatV w v n) (hA:Arr w G t m (sv f)) (hU:Upd (Go.Proofs.Ytbhhjfhepkbfgaa.only G) w w'):NatV w' v n:=by
 obtain⟨s,h0,A,c,xs,h1,h2,h3,h4,h5⟩:=h
 refine⟨s,h0,A,c,xs,h1,h2,h3,(fun i hi=>?_),h5⟩
 obtain⟨b,o,e,hc⟩:=h4 i hi
 refine⟨b,o,e,?_⟩
 rw[←hc]
 refine hU.cell (p:=⟨b,o+i,none⟩) (World.block_lt_of_cell? w _ hc) (fun ht=>?_)
 have ht':b=G:=ht
 subst ht'
 unfold Arr at hA
 simp only[World.cell?,hA]at hc
 rcases Nat.lt_or_ge (o+i) m with hm | hm
 · simp[sv,by32,hm]at hc
 · rw[Array.getElem?_eq_none (by simp;omega)]at hc;cases hc
theorem bit_at (v:Value) (n k:Nat) (I:Int) (q B:Nat) (hI:I=(q:Int)) (hq:q≤9000000000) (hB:n / 2^q % 2=B) (w:World) (hV:NatV w v n) (hF:Fit k n) (hk:k≤1000000):
 Calls Try.prog 70 #[v,.int .i64 I] w (fun e w'=>e=.returned (.int .i64 (B:Int))∧Ext w w'):=by
 refine(bit_any v n k I w hV hF hk (by omega)).mono ?_
 rintro e w' ⟨rfl,hU⟩
 refine⟨?_,hU⟩
 rw[if_pos (by omega),hI,Int.toNat_natCast,hB]
theorem four_bits (b Q:Nat):b / 2^Q % 16=b / 2^Q % 2+2*(b / 2^(Q+1) % 2)+4*(b / 2^(Q+2) % 2)+8*(b / 2^(Q+3) % 2):=by
 rw[Nat.pow_add,Nat.pow_add,Nat.pow_add,←Nat.div_div_eq_div_mul,←Nat.div_div_eq_div_mul,←Nat.div_div_eq_div_mul]
 generalize b / 2^Q=c
 omega
theorem four_down (b i:Nat):b / 2^(4*i)=b / 2^(4*(i+1))*16+b / 2^(4*i) % 16:=by
 rw[show 4*(i+1)=4*i+4 by omega,Nat.pow_add,←Nat.div_div_eq_div_mul]
 generalize b / 2^(4*i)=c
 omega
set_option maxRecDepth 100000 in
set_option maxHeartbeats 8000000 in
theorem mexp_long (va vb:Value) (g a b n k m:Nat) (w:World) (hR:RingV w g n) (hVa:NatV w va a) (hVb:NatV w vb b) (hFa:Fit k a) (hFn:Fit k n) (hFb:Fit m b) (hk:k≤50000) (hm:m≤50000) (hb:0<b) (hs:¬blen b≤24):
 Calls Try.prog 37 #[.pointer (some ⟨g,0,none⟩),va,vb] w (RetN w (a^b % n)):=by
 have hgw:g<w.heap.size:=by
  obtain⟨D,ld,cd,g2, -⟩:=hR
  exact g2.lt
 obtain⟨A,la,ca,xs,rfl, -⟩:=hVa.open_
 obtain⟨B,lb,cb,ys,rfl, -⟩:=hVb.open_
 have hn:=hR.two
 have hFx:Fit k (a % n):=hFn.le (Nat.le_of_lt (Nat.mod_lt _ (by omega)))
 have hF1:Fit k 1:=hFn.le (by omega)
 go_enter Try.func37,Try.ntmps37
 go_wp2_with fail
 refine name_c (fun W hW=>?_)
 have b4:Box W w.heap.size 33 (.slice A la ca):=by rw[hW];exact((Box.new _ _ _).alloc _).alloc _
 have b5:Box W (w.heap.size+1) 33 (.slice B lb cb):=by rw[hW];exact(Box.new_at (by simp)).alloc _
 have b6:Box W (w.heap.size+1+1) 33 (.slice none 0 0):=by rw[hW];exact Box.new_at (by simp)
 have hE:Ext w W:=by rw[hW];exact(((Upd.refl _ w).alloc _).alloc _).alloc _
 have hWz:W.heap.size=w.heap.size+1+1+1:=by rw[hW];simp
 clear hW
 replace hVa:=hVa.ext hE
 replace hVb:=hVb.ext hE
 replace hR:=hR.ext hE
 have hG:Ext W W:=Upd.refl _ _
 refine(new_any 1 _ (by omega)).mono ?_
 rintro e0 w1 ⟨A1,l1,c1,rfl,hV1,hU⟩
 replace hG:=hG.trans hU
 go_wp2_with fail
 refine(mof_any _ g 1 n k _ (hR.ext hG) hV1 hF1 hFn (by omega)).mono ?_
 rintro e w2 ⟨A2,l2,c2,rfl,hV2,hU⟩
 replace hG:=hG.trans hU
 have k5:=((b5.ext hG).alloc (.cells #[.slice A2 l2 c2] 33)).cell
 go_wp2_with fail
 clear k5
 refine name_c (fun X hX=>?_)
 have b7:Box X w2.heap.size 33 (.slice A2 l2 c2):=by rw[hX];exact Box.new _ _ _
 have hX2:Ext w2 X:=by rw[hX];exact(Upd.refl _ _).alloc _
 have h7:W.heap.size≤w2.heap.size:=hG.size
 clear hX
 replace hE:=hE.trans (hG.trans hX2)
 replace b4:=b4.ext (hG.trans hX2)
 replace b5:=b5.ext (hG.trans hX2)
 replace b6:=b6.ext (hG.trans hX2)
 replace hVa:=hVa.ext (hG.trans hX2)
 replace hVb:=hVb.ext (hG.trans hX2)
 replace hR:=hR.ext (hG.trans hX2)
 replace hV2:=hV2.ext hX2
 clear hG hX2 hV1 hU
 have hG:Ext X X:=Upd.refl _ _
 refine(zero_any _ b _ hVb).mono ?_
 rintro e0 w3 ⟨rfl,hU⟩
 replace hG:=hG.trans hU
 rw[decide_eq_false (by omega)]
 have k4:=(b4.ext hG).cell
 go_wp2_with fail
 refine(mof_any _ g a n k _ (hR.ext hG) (hVa.ext hG) hFa hFn (by omega)).mono ?_
 rintro e w4 ⟨A3,l3,c3,rfl,hV3,hU⟩
 replace hG:=hG.trans hU
 have b4':=b4.ext hG
 replace k4:=b4'.cell
 have f4:=b4'.frozen
 have b5':=(b5.ext hG).far (p:=⟨w.heap.size,0,none⟩) (by simp) (.slice A3 l3 c3)
 have k5:=b5'.cell
 go_wp2_with fail
 refine name_c (fun Y hY=>?_)
 have hY4:Upd (only w.heap.size) w4 Y:=by rw[hY];exact(Upd.refl (only w.heap.size) _).setCell (p:=⟨w.heap.size,0,none⟩) (.inl rfl) _
 have hEY:Ext w Y:=by rw[hY];exact(hE.trans hG).setCell (p:=⟨w.heap.size,0,none⟩) (.inr (Nat.le_refl _)) _
 have d4:Box Y w.heap.size 33 (.slice A3 l3 c3):=by rw[hY];exact b4'.set _
 have d5:Box Y (w.heap.size+1) 33 (.slice B lb cb):=by rw[hY];exact b5'
 have d6:Box Y (w.heap.size+1+1) 33 (.slice none 0 0):=by rw[hY];exact(b6.ext hG).far (p:=⟨w.heap.size,0,none⟩) (by simp;omega) _
 have d7:Box Y w2.heap.size 33 (.slice A2 l2 c2):=by rw[hY];exact(b7.ext hG).far (p:=⟨w.heap.size,0,none⟩) (by simp;omega) _
 have hVb':NatV Y (.agg #[.slice B lb cb]) b:=(hVb.ext hG).only b4' hY4
 have hV2':NatV Y (.agg #[.slice A2 l2 c2]) (1 % n):=(hV2.ext hG).only b4' hY4
 have hV3':NatV Y (.agg #[.slice A3 l3 c3]) (a % n):=hV3.only b4' hY4
 have hR':RingV Y g n:=by
  obtain⟨D,ld,cd,g2,hVn,hn2⟩:=hR.ext hG
  exact⟨D,ld,cd,by rw[hY];exact g2.far (p:=⟨w.heap.size,0,none⟩) (fun e=>by have:=hgw;simp at e;omega) _,hVn.only b4' hY4,hn2⟩
 clear hY hY4 b4 b5 b6 b7 b4' b5' k4 f4 hR hVa hVb hV2 hE hG hU hV3 k5
 have hG:Ext Y Y:=Upd.refl _ _
 refine(bits_any _ b m _ hVb' hFb (by omega)).mono ?_
 rintro e0 w5 ⟨rfl,hU⟩
 replace hG:=hG.trans hU
 obtain⟨N,hN⟩:∃N,N=blen b:=⟨_,rfl⟩
 rw[←hN]at hs ⊢
 have hsI:¬(N:Int)≤24:=by omega
 have HN:=hide hN
 have hA0:Arr (w5.alloc (.cells #[.slice none 0 0,.slice none 0 0,.slice none 0 0,.slice none 0 0,.slice none 0 0,.slice none 0 0,.slice none 0 0,.slice none 0 0,.slice none 0 0,.slice none 0 0,.slice none 0 0,.slice none 0 0,.slice none 0 0,.slice none 0 0,.slice none 0 0,.slice none 0 0] 120)) w5.heap.size 120 16 (sv fun _=>(none,0,0)):=Arr.new _ _ _ _ _ rfl (fun i hi=>by
   match i,hi with
   | 0,_ | 1,_ | 2,_ | 3,_ | 4,_ | 5,_ | 6,_ | 7,_ | 8,_ | 9,_ | 10,_ | 11,_ | 12,_ | 13,_ | 14,_ | 15,_=>rfl
   | n+16,h=>exact absurd h (by omega))
 have k7:=((d7.ext hG).alloc (.cells #[.slice none 0 0,.slice none 0 0,.slice none 0 0,.slice none 0 0,.slice none 0 0,.slice none 0 0,.slice none 0 0,.slice none 0 0,.slice none 0 0,.slice none 0 0,.slice none 0 0,.slice none 0 0,.slice none 0 0,.slice none 0 0,.slice none 0 0,.slice none 0 0] 120)).cell
 have k10:(w5.alloc (.cells #[.slice none 0 0,.slice none 0 0,.slice none 0 0,.slice none 0 0,.slice none 0 0,.slice none 0 0,.slice none 0 0,.slice none 0 0,.slice none 0 0,.slice none 0 0,.slice none 0 0,.slice none 0 0,.slice none 0 0,.slice none 0 0,.slice none 0 0,.slice none 0 0] 120)).cell? ⟨w5.heap.size,0,none⟩=some (.slice none 0 0):=hA0.cell (i:=0) (by omega)
 have f10:=hA0.frozen 0
 clear hN hA0
 go_wp2_with fail
 clear k7 k10 f10
 refine name_w (fun Z hZ=>?_)
 have hEZ:Ext w5 Z:=by rw[hZ];exact(Upd.refl _ _).alloc _
 have hA:Arr Z w5.heap.size 120 16 (sv (put1 (fun _=>(none,0,0)) 0 (A2,l2,c2))):=by
   rw[hZ]
   exact Arr.new _ _ _ _ _ rfl (fun i hi=>by
     match i,hi with
     | 0,_ | 1,_ | 2,_ | 3,_ | 4,_ | 5,_ | 6,_ | 7,_ | 8,_ | 9,_ | 10,_ | 11,_ | 12,_ | 13,_ | 14,_ | 15,_=>rfl
     | n+16,h=>exact absurd h (by omega))
 have h8:Y.heap.size≤w5.heap.size:=hG.size
 have h8w:w.heap.size+1+1<w5.heap.size:=Nat.lt_of_lt_of_le d6.lt h8
 clear hZ
 replace hG:=hG.trans hEZ
 clear hU hEZ
 replace hV2':=hV2'.ext hG
 replace d4:=d4.ext hG
 replace d5:=d5.ext hG
 replace d6:=d6.ext hG
 have h7b:w2.heap.size<w5.heap.size:=Nat.lt_of_lt_of_le d7.lt h8
 replace d7:=d7.ext hG
 replace hR':=hR'.ext hG
 replace hVb':=hVb'.ext hG
 replace hV3':=hV3'.ext hG
 have hEV:=hEY.trans hG
 clear hG hEY hF1
 have hgw':g<w5.heap.size:=by omega
 obtain⟨G,hGe⟩:∃G,G=w5.heap.size:=⟨_,rfl⟩
 rw[←hGe]at hA hgw' h8w h7b ⊢
 clear hGe h8
 go_loopw [11] (fun i wr=>∃(j:Nat) (f:SvF),1≤j∧j≤16∧i=.int .i64 (j:Int)∧Arr wr G 120 16 (sv f)∧(∀q,q<j→NatV wr (.agg #[sv f q]) (a^q % n))∧Upd (only G) Z wr) (fun i _=>(16 - intOf i).toNat)
 case atStart=>
  refine⟨1,_,by omega,by omega,rfl,hA,fun q hq=>?_,Upd.refl _ _⟩
  obtain rfl:q=0:=by omega
  rw[sv_same,Nat.pow_zero]
  exact hV2'
 case round=>
  obtain⟨j,f,hj1,hj16,rfl,hAr,hTab,hUV⟩:=hrel
  have e4:=d4.upd hUV (fun h=>by unfold only at h;omega)
  have e5:=d5.upd hUV (fun h=>by unfold only at h;omega)
  have e6:=d6.upd hUV (fun h=>by unfold only at h;omega)
  have e7:=d7.upd hUV (fun h=>by unfold only at h;omega)
  have hRr:RingV wr g n:=by
   obtain⟨D,ld,cd,g2,hVn,hn2⟩:=hR'
   exact⟨D,ld,cd,g2.upd hUV (fun h=>by unfold only at h;omega),hVn.onlyArr hA hUV,hn2⟩
  have hVbr:=hVb'.onlyArr hA hUV
  have hV3r:=hV3'.onlyArr hA hUV
  have hEr:Ext w wr:=Upd.fresh hUV hEV (fun i hi=>by unfold only at hi;omega)
  by_cases hlt:j<16
  · obtain⟨i,rfl⟩:∃i,j=i+1:=⟨j - 1,by omega⟩
    have hi:(((i+1:Nat):Int) - 1)=(i:Int):=by omega
    have hiw:IntKind.i64.wrap (((i+1:Nat):Int) - 1)=(i:Int):=by rw[hi];exact IntWalk.i64_in _ (by omega)
    obtain⟨Ai,li,ci,hsvi⟩:∃Ai li ci,sv f i=.slice Ai li ci:=⟨_,_,_,rfl⟩
    have hVi:NatV wr (.agg #[.slice Ai li ci]) (a^i % n):=by rw[←hsvi];exact hTab i (by omega)
    have hci:wr.cell? ⟨G,i,none⟩=some (.slice Ai li ci):=by rw[←hsvi];exact hAr.cell (by omega)
    have cG:=fun x:Wd (Ext wr.drew)=>(x.ok.cell (p:=⟨G,i,none⟩) (show G<wr.drew.heap.size from hAr.lt) (fun h=>h)).trans hci
    have k4:=fun x:Wd (Ext wr.drew)=>(x.ok.cell (p:=⟨w.heap.size,0,none⟩) e4.drew.lt (fun h=>h)).trans e4.drew.cell
    have hiw2:IntKind.i64.wrap (i:Int)=(i:Int):=IntWalk.i64_in _ (by omega)
    have b0:(0:Int)≤(i:Int):=by omega
    have b1:(i:Int)<16:=by omega
    go_wp2_with fail
    have hFi:Fit k (a^i % n):=hFn.le (Nat.le_of_lt (Nat.mod_lt _ (by omega)))
    refine wp_region_plan (Ext _) 9 [(false,0),(false,1),(false,2),(false,3),(false,4),(false,5),(false,6),(true,7),(false,8)] (by kernel_rfl) (by kernel_rfl) (Upd.refl _ _) (fun hne=>?_)
    repeat (refine head_q rfl (fun K hK=>?_);have hK2:=hide hK;clear hK;go_simp;refine hK2.out _ ?_;clear hK2 K)
    refine head_l rfl ?_
    go_wp2_with (refine(mmul_any _ _ g (a^i % n) (a % n) n k _ (hRr.ext (Upd.refl _ _).drew) (hVi.ext (Upd.refl _ _).drew) (hV3r.ext (Upd.refl _ _).drew) hFi hFx hFn (by omega)).mono ?_;rintro e0 w6 ⟨A6,l6,c6,rfl,hV6,hU6⟩)
    refine⟨Cls (Ext _),cls_narrow hU6,⟨⟨_,Upd.refl _ _⟩,rfl⟩,?_⟩
    have hE6:Ext wr w6:=hU6.undrew
    have hA6:=hAr.ext hE6
    have b2:(i:Int)+1<16:=by omega
    have b3:(0:Int)≤(i:Int)+1:=by omega
    repeat (refine head_q rfl (fun K hK=>?_);have hK2:=hide hK;clear hK;go_simp;refine hK2.out _ ?_;clear hK2 K)
    refine head_nil ?_
    try simp only[List.drop_succ_cons,List.drop_zero]
    obtain⟨Aj,lj,cj,hsvj⟩:∃Aj lj cj,sv f (i+1)=.slice Aj lj cj:=⟨_,_,_,rfl⟩
    have cj1:w6.cell? ⟨G,i+1,none⟩=some (.slice Aj lj cj):=by rw[←hsvj];exact hA6.cell (by omega)
    have fj1:=hA6.frozen (i+1)
    have hA7:=hA6.set (i+1) (.slice A6 l6 c6)
    rw[sv_put]at hA7
    have HA7:=hide hA7
    have hT7:∀q,q<i+1+1→NatV (w6.setCell ⟨G,i+1,none⟩ (.slice A6 l6 c6)) (.agg #[sv (put1 f (i+1) (A6,l6,c6)) q]) (a^q % n):=fun q hq=>by
      by_cases h:q=i+1
      · subst h
        rw[sv_same,Nat.pow_succ,Nat.mul_mod]
        exact hV6.far (v:=.slice A6 l6 c6) cj1
      · rw[sv_other _ _ _ _ h]
        exact((hTab q (by omega)).ext hE6).far cj1
    have HT7:=hide hT7
    have hU7:=(hUV.ext hE6).setCell (p:=⟨G,i+1,none⟩) (.inl rfl) (.slice A6 l6 c6)
    have HU7:=hide hU7
    clear hA7 hT7 hU7 hTab hAr hA6 cG k4 hU6 hV6 hVi hci hsvi hsvj
    go_wp2_with fail
    go_roundw
    case rel=>exact⟨i+1+1,_,by omega,by omega,by go_num,HA7.out,HT7.out,HU7.out⟩
    case measure=>simp[intOf];omega
  · obtain rfl:j=16:=by omega
    have k7:=e7.cell
    have k5:=(e5.alloc (.cells #[.slice A2 l2 c2] 33)).cell
    go_wp2_with fail
    clear k7 k5
    refine name_c (fun S hS=>?_)
    have hES:Ext wr S:=by rw[hS];exact(Upd.refl _ _).alloc _
    have e12:Box S wr.heap.size 33 (.slice A2 l2 c2):=by rw[hS];exact Box.new _ _ _
    have hGlt:G<wr.heap.size:=hAr.lt
    have hgr:g<wr.heap.size:=Nat.lt_trans hgw' hGlt
    clear hS
    refine(bits_any _ b m _ (hVbr.ext hES) hFb (by omega)).mono ?_
    rintro e0 V ⟨rfl,hU⟩
    rw[←HN.out]
    replace e12:Box V wr.heap.size 33 (.slice A2 l2 c2):=e12.ext hU
    replace hES:=hES.trans hU
    clear hU
    replace e4:=e4.ext hES
    replace e5:=e5.ext hES
    replace e6:=e6.ext hES
    replace hRr:=hRr.ext hES
    replace hVbr:=hVbr.ext hES
    replace hAr:=hAr.ext hES
    have hTabV:∀q,q<16→NatV V (.agg #[sv f q]) (a^q % n):=fun q hq=>(hTab q hq).ext hES
    have hVo:NatV V (.agg #[.slice A2 l2 c2]) (1 % n):=(hV2'.onlyArr hA hUV).ext hES
    replace hEr:=hEr.trans hES
    have hg2:w.heap.size+1+1<wr.heap.size:=Nat.lt_trans h8w hGlt
    clear d4 d5 d6 d7 hR' hVb' hV3' hV2' hEV hUV hTab hES hA hV3r e7
    obtain⟨G2,hG2⟩:∃G2,G2=wr.heap.size:=⟨_,rfl⟩
    rw[←hG2]at hGlt hgr hg2 e12 ⊢
    clear hG2
    obtain⟨J,hJ⟩:∃J,J=(N - 1) / 4:=⟨_,rfl⟩
    have hJI:((N:Int) - 1).tdiv 4=(J:Int):=by rw[Int.tdiv_eq_ediv_of_nonneg (by omega)];omega
    have hJI2:((N:Int) - 1) / 4=(J:Int):=by omega
    have hJm:N≤4*(J+1):=by omega
    have hNm:J≤10000000:=by
     have h1:blen b≤32*m:=blen_le_iff.2 (by
      have h:=hFb
      unfold Fit at h
      rw[show W32=2^32 from rfl,←Nat.pow_mul]at h
      exact h)
     rw[←HN.out]at h1
     omega
    have HJ:=hide hJ
    clear hJ
    go_wp2_with fail
    clear hJI hJI2
    go_loopw [13] (fun i wx=>∃(j:Nat) (X:Option Addr) (lX cX:Nat),j≤J+1∧i=.int .i64 ((j:Int) - 1)∧Box wx G2 33 (.slice X lX cX)∧NatV wx (.agg #[.slice X lX cX]) (a^(b / 2^(4*j)) % n)∧Upd (only G2) V wx) (fun i _=>(intOf i+1).toNat)
    case atStart=>exact⟨J+1,_,_,_,Nat.le_refl _,by go_num,e12,hVo.of_eq (by rw[Nat.div_eq_of_lt (Nat.lt_of_lt_of_le (blen_le_iff.1 (Nat.le_refl _)) (Nat.pow_le_pow_right (by omega) (by rw[←HN.out];exact hJm))),Nat.pow_zero]),Upd.refl _ _⟩
    case round=>
     obtain⟨j,X',lX,cX,hj,rfl,x12,hVX,hUV⟩:=hrel
     have x4:=e4.upd hUV (fun h=>by unfold only at h;omega)
     have x5:=e5.upd hUV (fun h=>by unfold only at h;omega)
     have x6:=e6.upd hUV (fun h=>by unfold only at h;omega)
     have hEx:Ext w wr:=Upd.fresh hUV hEr (fun i hi=>by unfold only at hi;omega)
     rcases Nat.eq_zero_or_pos j with hj0 | hj0
     · have k8:=x12.cell
       have k6:=x6.cell
       have f6:=x6.frozen
       go_wp2_with fail
       have q:=(x6.set (.slice X' lX cX)).cell
       exact bodyPost_ret (v:=.agg #[.slice X' lX cX]) (by simp[results,Try.results37,go_sem,q]) rfl ⟨_,_,_,rfl,(hVX.of_eq (by rw[hj0,Nat.mul_zero,Nat.pow_zero,Nat.div_one])).far k6,hEx.setCell (p:=⟨w.heap.size+1+1,0,none⟩) (.inr (by simp;omega)) _⟩
     · obtain⟨i,rfl⟩:∃i,j=i+1:=⟨j - 1,by omega⟩
       have hi:(((i+1:Nat):Int) - 1)=(i:Int):=by omega
       rw[hi]
       clear hi
       obtain⟨x,hx⟩:∃x,x=b / 2^(4*(i+1)):=⟨_,rfl⟩
       rw[←hx]at hVX
       have Hx:=hide hx
       have hib:i≤10000000:=by omega
       clear hx x4 x5 x6 hEx
       go_wp2_with fail
       go_loopw [72] (fun qv wr=>∃(q:Nat) (X:Option Addr) (lX cX:Nat),q≤4∧qv=.int .i64 (q:Int)∧Box wr G2 33 (.slice X lX cX)∧NatV wr (.agg #[.slice X lX cX]) (a^(x*2^q) % n)∧Upd (only G2) V wr) (fun qv _=>4 - (intOf qv).toNat)
       case atStart=>exact⟨0,_,_,_,by omega,rfl,x12,hVX.of_eq (by rw[Nat.pow_zero,Nat.mul_one]),hUV⟩
       case round=>
        clear hVX x12 hUV
        obtain⟨q,X2,lX2,cX2,hq,rfl,x12,hVX,hUV⟩:=hrel
        have hRx:RingV wr g n:=by
         obtain⟨D,ld,cd,g2,hVn,hn2⟩:=hRr
         exact⟨D,ld,cd,g2.upd hUV (fun h=>by unfold only at h;omega),hVn.only e12 hUV,hn2⟩
        by_cases hq4:q<4
        · have hqI:(q:Int)<4:=by omega
          have k8:=x12.cell
          have hFX:Fit k (a^(x*2^q) % n):=hFn.le (Nat.le_of_lt (Nat.mod_lt _ (by omega)))
          go_wp2_with fail
          refine(mmul_any _ _ g _ _ n k _ hRx hVX hVX hFX hFX hFn (by omega)).mono ?_
          rintro e0 w7 ⟨A7,l7,c7,rfl,hV7,hU⟩
          have x12':=x12.ext hU
          replace k8:=x12'.cell
          have f8:=x12'.frozen
          have hV7':NatV w7 (.agg #[.slice A7 l7 c7]) (a^(x*2^(q+1)) % n):=hV7.of_eq (by rw[←Nat.mul_mod,←Nat.pow_add,Nat.pow_succ,←Nat.mul_assoc];congr 2;omega)
          have HV7:=hide hV7'
          clear hV7 hV7' hVX hRx
          go_wp2_with fail
          go_roundw
          case rel=>exact⟨q+1,_,_,_,by omega,by go_num,x12'.set _,HV7.out.far k8,(hUV.ext hU).setCell (p:=⟨G2,0,none⟩) (.inl rfl) _⟩
          case measure=>simp[intOf];omega
        · obtain rfl:q=4:=by omega
          have hqI:¬((4:Nat):Int)<4:=by omega
          have x5:=e5.upd hUV (fun h=>by unfold only at h;omega)
          have hVby:=hVbr.only e12 hUV
          obtain⟨Q,hQ⟩:∃Q,Q=4*i:=⟨_,rfl⟩
          have hQI:4*(i:Int)=(Q:Int):=by omega
          have hQb:Q≤40000000:=by omega
          have hQw:IntKind.i64.wrap (Q:Int)=(Q:Int):=IntWalk.i64_in _ (by omega)
          have hQ1:IntKind.i64.wrap ((Q:Int)+1)=(Q:Int)+1:=IntWalk.i64_in _ (by omega)
          have hQ2:IntKind.i64.wrap ((Q:Int)+2)=(Q:Int)+2:=IntWalk.i64_in _ (by omega)
          have hQ3:IntKind.i64.wrap ((Q:Int)+3)=(Q:Int)+3:=IntWalk.i64_in _ (by omega)
          have k5:=fun x:Wd (Ext wr.drew)=>(x.ok.cell (p:=⟨w.heap.size+1,0,none⟩) x5.drew.lt (fun h=>h)).trans x5.drew.cell
          have HQ:=hide hQ
          clear hQ
          go_wp2_with fail
          have h4:=four_bits b Q
          have hdn:=four_down b i
          rw[←HQ.out,←Hx.out]at hdn
          have lB0:b / 2^Q % 2<2:=Nat.mod_lt _ (by omega)
          have lB1:b / 2^(Q+1) % 2<2:=Nat.mod_lt _ (by omega)
          have lB2:b / 2^(Q+2) % 2<2:=Nat.mod_lt _ (by omega)
          have lB3:b / 2^(Q+3) % 2<2:=Nat.mod_lt _ (by omega)
          obtain⟨B0,hB0⟩:∃B,b / 2^Q % 2=B:=⟨_,rfl⟩
          obtain⟨B1,hB1⟩:∃B,b / 2^(Q+1) % 2=B:=⟨_,rfl⟩
          obtain⟨B2,hB2⟩:∃B,b / 2^(Q+2) % 2=B:=⟨_,rfl⟩
          obtain⟨B3,hB3⟩:∃B,b / 2^(Q+3) % 2=B:=⟨_,rfl⟩
          obtain⟨D,hD⟩:∃D,D=b / 2^Q % 16:=⟨_,rfl⟩
          rw[←hD,hB0,hB1,hB2,hB3]at h4
          rw[←hD]at hdn
          rw[hB0]at lB0
          rw[hB1]at lB1
          rw[hB2]at lB2
          rw[hB3]at lB3
          have HB0:=hide hB0
          have HB1:=hide hB1
          have HB2:=hide hB2
          have HB3:=hide hB3
          have Hdn:=hide hdn
          have w1:IntKind.i64.wrap (2*(B1:Int))=2*(B1:Int):=IntWalk.i64_in _ (by omega)
          have w2':IntKind.i64.wrap ((B0:Int)+2*(B1:Int))=(B0:Int)+2*(B1:Int):=IntWalk.i64_in _ (by omega)
          have w3':IntKind.i64.wrap (4*(B2:Int))=4*(B2:Int):=IntWalk.i64_in _ (by omega)
          have w4':IntKind.i64.wrap ((B0:Int)+2*(B1:Int)+4*(B2:Int))=(B0:Int)+2*(B1:Int)+4*(B2:Int):=IntWalk.i64_in _ (by omega)
          have w5':IntKind.i64.wrap (8*(B3:Int))=8*(B3:Int):=IntWalk.i64_in _ (by omega)
          have w6':IntKind.i64.wrap ((B0:Int)+2*(B1:Int)+4*(B2:Int)+8*(B3:Int))=(D:Int):=by rw[IntWalk.i64_in _ (by omega)];omega
          have hD16:D<16:=by rw[hD];exact Nat.mod_lt _ (by omega)
          clear hB0 hB1 hB2 hB3 hdn hD h4
          refine wp_region_plan (Ext _) 25 [(false,0),(false,1),(false,2),(false,4),(false,5),(false,6),(false,7),(false,11),(false,12),(false,13),(false,14),(false,18),(false,19),(false,20),(false,21),(true,3),(true,8),(false,9),(false,10),(true,15),(false,16),(false,17),(true,22),(false,23),(false,24)] (by kernel_rfl) (by kernel_rfl) (Upd.refl _ _) (fun hne=>?_)
          repeat (refine head_q rfl (fun K hK=>?_);have hK2:=hide hK;clear hK;go_simp;refine hK2.out _ ?_;clear hK2 K)
          refine head_l rfl ?_
          go_wp2_with (refine(bit_at _ b m _ Q B0 rfl (by omega) HB0.out _ (hVby.ext (Upd.refl _ _).drew) hFb (by omega)).mono ?_;rintro e0 y1 ⟨rfl,hU1⟩)
          refine⟨Cls (Ext _),fun _ h=>h,⟨⟨_,hU1⟩,rfl⟩,?_⟩
          repeat (refine head_q rfl (fun K hK=>?_);have hK2:=hide hK;clear hK;go_simp;refine hK2.out _ ?_;clear hK2 K)
          refine head_l rfl ?_
          go_wp2_with (refine(bit_at _ b m _ (Q+1) B1 (by omega) (by omega) HB1.out _ ((hVby.ext (Upd.refl _ _).drew).ext hU1) hFb (by omega)).mono ?_;rintro e0 y2 ⟨rfl,hU2⟩)
          refine⟨Cls (Ext _),fun _ h=>h,⟨⟨_,(hU1.trans hU2)⟩,rfl⟩,?_⟩
          repeat (refine head_q rfl (fun K hK=>?_);have hK2:=hide hK;clear hK;go_simp;refine hK2.out _ ?_;clear hK2 K)
          replace hU2:=hU1.trans hU2
          clear hU1
          refine head_l rfl ?_
          go_wp2_with (refine(bit_at _ b m _ (Q+2) B2 (by omega) (by omega) HB2.out _ ((hVby.ext (Upd.refl _ _).drew).ext hU2) hFb (by omega)).mono ?_;rintro e0 y3 ⟨rfl,hU3⟩)
          refine⟨Cls (Ext _),fun _ h=>h,⟨⟨_,(hU2.trans hU3)⟩,rfl⟩,?_⟩
          repeat (refine head_q rfl (fun K hK=>?_);have hK2:=hide hK;clear hK;go_simp;refine hK2.out _ ?_;clear hK2 K)
          replace hU3:=hU2.trans hU3
          clear hU2
          refine head_l rfl ?_
          go_wp2_with (refine(bit_at _ b m _ (Q+3) B3 (by omega) (by omega) HB3.out _ ((hVby.ext (Upd.refl _ _).drew).ext hU3) hFb (by omega)).mono ?_;rintro e0 y4 ⟨rfl,hU4⟩)
          refine⟨Cls (Ext _),fun _ h=>h,⟨⟨_,(hU3.trans hU4)⟩,rfl⟩,?_⟩
          repeat (refine head_q rfl (fun K hK=>?_);have hK2:=hide hK;clear hK;go_simp;refine hK2.out _ ?_;clear hK2 K)
          replace hU4:=(hU3.trans hU4).undrew
          clear hU3 k5
          refine head_nil ?_
          try simp only[List.drop_succ_cons,List.drop_zero]
          clear w1 w2' w3' w4' w5' w6' hQw hQ1 hQ2 hQ3 hQI
          have y12:=x12.ext hU4
          have hVy:=hVX.ext hU4
          have hUy:=hUV.ext hU4
          by_cases hD0:D=0
          · have hD0I:¬(0:Int)<(D:Int):=by omega
            have hVz:NatV y4 (.agg #[.slice X2 lX2 cX2]) (a^(b / 2^(4*i)) % n):=hVy.of_eq (by rw[←HQ.out,Hdn.out,hD0];rfl)
            have HVz:=hide hVz
            clear hVy hVX hVz
            go_wp2_with fail
            go_roundw
            case rel=>exact⟨i,_,_,_,by omega,by go_num,y12,HVz.out,hUy⟩
            case measure=>simp[intOf]
          · have hD0I:(0:Int)<(D:Int):=by omega
            obtain⟨Ad,ld,cd,hsvd⟩:∃Ad ld cd,sv f D=.slice Ad ld cd:=⟨_,_,_,rfl⟩
            have hAy:=(hAr.upd hUy (fun h=>by unfold only at h;omega))
            have hVd:NatV y4 (.agg #[.slice Ad ld cd]) (a^D % n):=by rw[←hsvd];exact(hTabV D hD16).only e12 hUy
            have hcd:y4.cell? ⟨G,D,none⟩=some (.slice Ad ld cd):=by rw[←hsvd];exact hAy.cell hD16
            have cG:=fun x:Wd (Ext y4.drew)=>(x.ok.cell (p:=⟨G,D,none⟩) (show G<y4.drew.heap.size from hAy.lt) (fun h=>h)).trans hcd
            have c12:=fun x:Wd (Ext y4.drew)=>(x.ok.cell (p:=⟨G2,0,none⟩) y12.drew.lt (fun h=>h)).trans y12.drew.cell
            have b0:(0:Int)≤(D:Int):=by omega
            have b1:(D:Int)<16:=by omega
            have hRy:RingV y4 g n:=by
             obtain⟨D',ld',cd',g2,hVn,hn2⟩:=hRr
             exact⟨D',ld',cd',g2.upd hUy (fun h=>by unfold only at h;omega),hVn.only e12 hUy,hn2⟩
            go_wp2_with fail
            refine wp_region_plan (Ext _) 6 [(false,0),(false,1),(false,2),(false,3),(false,4),(true,5)] (by kernel_rfl) (by kernel_rfl) (Upd.refl _ _) (fun hne=>?_)
            repeat (refine head_q rfl (fun K hK=>?_);have hK2:=hide hK;clear hK;go_simp;refine hK2.out _ ?_;clear hK2 K)
            refine head_l rfl ?_
            go_wp2_with (refine(mmul_any _ _ g _ _ n k _ (hRy.ext (Upd.refl _ _).drew) (hVy.ext (Upd.refl _ _).drew) (hVd.ext (Upd.refl _ _).drew) (hFn.le (Nat.le_of_lt (Nat.mod_lt _ (by omega)))) (hFn.le (Nat.le_of_lt (Nat.mod_lt _ (by omega)))) hFn (by omega)).mono ?_;rintro e0 y5 ⟨A5,l5,c5,rfl,hV5,hU5⟩)
            refine⟨Cls (Ext _),fun _ h=>h,⟨⟨_,hU5⟩,rfl⟩,?_⟩
            repeat (refine head_q rfl (fun K hK=>?_);have hK2:=hide hK;clear hK;go_simp;refine hK2.out _ ?_;clear hK2 K)
            have hE5:Ext y4 y5:=hU5.undrew
            have z12:=y12.ext hE5
            have k12:=z12.cell
            have f12:=z12.frozen
            have hVz:NatV y5 (.agg #[.slice A5 l5 c5]) (a^(b / 2^(4*i)) % n):=hV5.of_eq (by rw[←Nat.mul_mod,←Nat.pow_add,←HQ.out,Hdn.out])
            have HVz:=hide hVz
            have hUz:=hUy.ext hE5
            clear hVy hVX hVz hV5 hU5 hVd cG c12 hRy
            refine head_nil ?_
            try simp only[List.drop_succ_cons,List.drop_zero]
            go_wp2_with fail
            go_roundw
            case rel=>exact⟨i,_,_,_,by omega,by go_num,z12.set _,HVz.out.far k12,hUz.setCell (p:=⟨G2,0,none⟩) (.inl rfl) _⟩
            case measure=>simp[intOf]
theorem mexp_any (va vb:Value) (g a b n k m:Nat) (w:World) (hR:RingV w g n) (hVa:NatV w va a) (hVb:NatV w vb b) (hFa:Fit k a) (hFn:Fit k n) (hFb:Fit m b) (hk:k≤50000) (hm:m≤50000):
 Calls Try.prog 37 #[.pointer (some ⟨g,0,none⟩),va,vb] w (RetN w (a^b % n)):=by
 rcases Nat.eq_zero_or_pos b with h | h
 · exact mexp_zero va vb g a b n k m w hR hVa hVb hFn hk h
 · by_cases hs:blen b≤24
   · exact mexp_short va vb g a b n k m w hR hVa hVb hFa hFn hFb hk hm h hs
   · exact mexp_long va vb g a b n k m w hR hVa hVb hFa hFn hFb hk hm h hs
end Go.Proofs.Ytbhhjfhepkbfgaa
