/- The document's tag of a message, walked: Of. -/
import Derived.Test.YtdohmikoafkniaaGreatLsTagM
namespace Go.Proofs.YtdohmikoafkniaaGreat
set_option linter.unusedSimpArgs false
set_option linter.unusedVariables false
open Go.RowKit
open Nt
theorem and15_mod (x:BitVec 8):(n8 x).tmod 16=n8 (x &&& 15):=by revert x;unfold n8;decide+kernel
theorem and252_quo (x:BitVec 8):(n8 x).tdiv 4 % (256:Int)*4 % (256:Int)=n8 (x &&& 252):=by revert x;unfold n8;decide+kernel
attribute [local go_sem] steady steadyUpon Cls same_cell by8 and15_mod and252_quo
attribute [local irreducible] wpHead wpTree
def RetSl (w:World) (n:Nat) (bs:List (BitVec 8)) (e:Ending) (w':World):Prop:=∃A c,e=.returned (.slice A n c)∧(n≤c∧c≤maxLen)∧Sl by8 w' A bs∧Ext w w'
def lenS :Value→Nat
 | .slice _ n _=>n
 | _=>0
theorem bits_low {xs:List Bool} {l S:Nat} (hl:xs.length=l) (h:numOf 2 d1 xs=S):vf 2 (dig d1 xs) (min l 128)=S % 2^128:=by
 unfold numOf at h
 rw[hl]at h
 rw[←h]
 rcases Nat.le_total l 128 with h1 | h1
 · rw[Nat.min_eq_left h1,Nat.mod_eq_of_lt (Nat.lt_of_lt_of_le (vf_lt (f:=dig d1 xs) fun i _=>d1_lt _) (Nat.pow_le_pow_right (by decide) h1))]
 · obtain⟨m,rfl⟩:∃m,l=128+m:=⟨l - 128,by omega⟩
   rw[Nat.min_eq_right h1,vf_split 128 m,Nat.add_mul_mod_self_right,Nat.mod_eq_of_lt (vf_lt (f:=dig d1 xs) fun i _=>d1_lt _)]
set_option maxRecDepth 100000 in
set_option maxHeartbeats 4000000 in
theorem prtag_any (A B:Option Addr) (c nb cb:Nat) (key b:List (BitVec 8)) (w:World) (hk:key.length=32) (hb:b.length=nb) (hc:32≤c) (hcb:nb≤cb) (hnb:nb≤1000000) (hK:Sl by8 w A key) (hB:Sl by8 w B b):
 Calls Tryz.prog 179 #[.slice A 32 c,.slice B nb cb] w (RetSl w 16 (tagOf key b)):=by
 have HK:=hide hK
 have HB:=hide hB
 have Hk:=hide hk
 have Hb:=hide hb
 have hs1:∀w,(Instr.sliceAt 23 (.slice A 32 c) none (some (.int .i64 16)) none).run Tryz.prog w=.ok (.slice A 16 c) w:=fun w=>run_cut_h Tryz.n_el8.under Tryz.n_sz8 A 32 c 16 .i64 (by omega) w
 have hst:(key.take 16).length=16:=by rw[List.length_take,hk];rfl
 clear hK hB hk hb
 go_enter Tryz.func179,Tryz.ntmps179
 go_wp2_with (at_builtin;go_must (refine wpList_apd by8 one8 Tryz.n_el8 [] (key.take 16) (key.take 16) 16 rfl hst (by omega) (by unfold maxLen;omega) rfl rfl rfl rfl (own_none8 w (Nat.le_refl _)) rfl hst ((HK.out.take 16).ext ((Upd.refl _ _).alloc _)) (by simp) ?_);intro A1 c1 w1 hO1 hU1 hin1)
 obtain⟨g,rfl,hg0,hg1⟩:=hO1.open_ (by rw[List.length_map,hst];omega)
 have hE1:Ext w w1:=Upd.fresh hU1 ((Upd.refl _ _).alloc _) (fun k hk=>by unfold inA at hk;simp at hk;omega)
 clear hin1 hU1
 go_loopw [23] (fun i wr=>∃(k j:Nat),k≤4∧j=3+4*k∧i=.int .i64 (k:Int)∧Own wr w.heap.size 5 (some ⟨g,0,none⟩) c1 ((setr (fun x:BitVec 8=>x &&& 15) 3 k (key.take 16)).map by8)∧Upd (only g) w1 wr) (fun i _=>20 - (intOf i).toNat)
 case atStart=>exact⟨0,3,Nat.zero_le _,rfl,rfl,hO1,Upd.refl _ _⟩
 case round=>
  clear hO1
  obtain⟨k,j,hk,hj,rfl,hO,hU⟩:=hrel
  have hzl:(setr (fun x:BitVec 8=>x &&& 15) 3 k (key.take 16)).length=16:=by rw[setr_length];exact hst
  have Hj:=hide hj
  have Hzl:=hide hzl
  clear hj hzl
  by_cases hk4:k<4
  · have hkI:(k:Int)<4:=by omega
    have hj16:j<16:=by have:=Hj.out;omega
    have hidx:∀w,(Instr.index 237 (.agg #[.int .i64 3,.int .i64 7,.int .i64 11,.int .i64 15]) (.int .i64 (k:Int))).run Tryz.prog w=.ok (.int .i64 (j:Int)) w:=fun w=>by
      have h:=Hj.out
      have e:(Array.ofFn fun i:Fin 4=>Value.int .i64 ((3+4*i.1:Nat):Int))=#[.int .i64 3,.int .i64 7,.int .i64 11,.int .i64 15]:=by rfl
      have h2:=run_index_arr (P:=Tryz.prog) (T:=237) (e:=3) (n:=4) (by kernel_rfl) (by kernel_rfl) (de:=.int .i64) (by kernel_rfl) rfl (fun i=>Value.int .i64 ((3+4*i:Nat):Int)) hk4 .i64 w
      rw[e]at h2
      rw[h]
      exact h2
    have ck:=hO.row.cell (i:=j) (by rw[Hzl.out];omega)
    have fk:=hO.row.frozen j
    have hO4:Own (wr.setCell ⟨g,j,none⟩ (by8 ((fun x:BitVec 8=>x &&& 15) (gat (setr (fun x:BitVec 8=>x &&& 15) 3 k (key.take 16)) j)))) w.heap.size 5 (some ⟨g,0,none⟩) c1 ((setr (fun x:BitVec 8=>x &&& 15) 3 (k+1) (key.take 16)).map by8):=by
      have h:=Hj.out
      have hO3:=hO.set (i:=j) (by rw[Hzl.out];omega) ((fun x:BitVec 8=>x &&& 15) (gat (setr (fun x:BitVec 8=>x &&& 15) 3 k (key.take 16)) j)) rfl
      rw[h]at hO3 ⊢
      exact hO3
    have hU4:Upd (only g) w1 (wr.setCell ⟨g,j,none⟩ (by8 ((fun x:BitVec 8=>x &&& 15) (gat (setr (fun x:BitVec 8=>x &&& 15) 3 k (key.take 16)) j)))):=hU.setCell (p:=⟨g,j,none⟩) (.inl rfl) _
    have HO4:=hide hO4
    have HU4:=hide hU4
    clear hO4 hU4
    go_wp2_with fail
    go_roundw
    case rel=>exact⟨k+1,j+4,by omega,by have:=Hj.out;omega,by go_num,HO4.out,HU4.out⟩
    case measure=>simp[intOf];omega
  · have hkI:¬(k:Int)<4:=by omega
    obtain rfl:k=4:=by omega
    go_wp2_with fail
    have hO1:=hO
    have hl2:(setr (fun x:BitVec 8=>x &&& 15) 3 4 (key.take 16)).length=16:=Hzl.out
    clear hO Hzl hk hst
    go_loopw [36] (fun i wr=>∃(k j:Nat),k≤3∧j=4+4*k∧i=.int .i64 (k:Int)∧Own wr w.heap.size 5 (some ⟨g,0,none⟩) c1 ((setr (fun x:BitVec 8=>x &&& 252) 4 k (setr (fun x:BitVec 8=>x &&& 15) 3 4 (key.take 16))).map by8)∧Upd (only g) w1 wr) (fun i _=>20 - (intOf i).toNat)
    case atStart=>exact⟨0,4,Nat.zero_le _,rfl,rfl,hO1,hU⟩
    case round=>
     clear hO1
     obtain⟨k,j,hk,hj,rfl,hO,hU⟩:=hrel
     have hzl:(setr (fun x:BitVec 8=>x &&& 252) 4 k (setr (fun x:BitVec 8=>x &&& 15) 3 4 (key.take 16))).length=16:=by rw[setr_length];exact hl2
     have Hj:=hide hj
     have Hzl:=hide hzl
     clear hj hzl
     by_cases hk4:k<3
     · have hkI:(k:Int)<3:=by omega
       have hj16:j<16:=by have:=Hj.out;omega
       have hidx:∀w,(Instr.index 238 (.agg #[.int .i64 4,.int .i64 8,.int .i64 12]) (.int .i64 (k:Int))).run Tryz.prog w=.ok (.int .i64 (j:Int)) w:=fun w=>by
         have h:=Hj.out
         have e:(Array.ofFn fun i:Fin 3=>Value.int .i64 ((4+4*i.1:Nat):Int))=#[.int .i64 4,.int .i64 8,.int .i64 12]:=by rfl
         have h2:=run_index_arr (P:=Tryz.prog) (T:=238) (e:=3) (n:=3) (by kernel_rfl) (by kernel_rfl) (de:=.int .i64) (by kernel_rfl) rfl (fun i=>Value.int .i64 ((4+4*i:Nat):Int)) hk4 .i64 w
         rw[e]at h2
         rw[h]
         exact h2
       have ck:=hO.row.cell (i:=j) (by rw[Hzl.out];omega)
       have fk:=hO.row.frozen j
       have hO4:Own (wr.setCell ⟨g,j,none⟩ (by8 ((fun x:BitVec 8=>x &&& 252) (gat (setr (fun x:BitVec 8=>x &&& 252) 4 k (setr (fun x:BitVec 8=>x &&& 15) 3 4 (key.take 16))) j)))) w.heap.size 5 (some ⟨g,0,none⟩) c1 ((setr (fun x:BitVec 8=>x &&& 252) 4 (k+1) (setr (fun x:BitVec 8=>x &&& 15) 3 4 (key.take 16))).map by8):=by
         have h:=Hj.out
         have hO3:=hO.set (i:=j) (by rw[Hzl.out];omega) ((fun x:BitVec 8=>x &&& 252) (gat (setr (fun x:BitVec 8=>x &&& 252) 4 k (setr (fun x:BitVec 8=>x &&& 15) 3 4 (key.take 16))) j)) rfl
         rw[h]at hO3 ⊢
         exact hO3
       have hU4:Upd (only g) w1 (wr.setCell ⟨g,j,none⟩ (by8 ((fun x:BitVec 8=>x &&& 252) (gat (setr (fun x:BitVec 8=>x &&& 252) 4 k (setr (fun x:BitVec 8=>x &&& 15) 3 4 (key.take 16))) j)))):=hU.setCell (p:=⟨g,j,none⟩) (.inl rfl) _
       have HO4:=hide hO4
       have HU4:=hide hU4
       clear hO4 hU4
       go_wp2_with fail
       go_roundw
       case rel=>exact⟨k+1,j+4,by omega,by have:=Hj.out;omega,by go_num,HO4.out,HU4.out⟩
       case measure=>simp[intOf];omega
     · have hkI:¬(k:Int)<3:=by omega
       obtain rfl:k=3:=by omega
       go_wp2_with fail
       have hR:Own wr w.heap.size 5 (some ⟨g,0,none⟩) c1 ((clamp (key.take 16)).map by8):=hO
       have hRl:(clamp (key.take 16)).length=16:=Hzl.out
       have hE:Ext w wr:=Upd.fresh hU hE1 (fun i hi=>by unfold only at hi;omega)
       have HRl:=hide hRl
       clear hO Hzl hU hE1 hk hkI hl2 hg1 hg0 hRl
       obtain⟨r,hr⟩:∃r,r=leN (clamp (key.take 16)):=⟨_,rfl⟩
       have Hr2:=hide hr
       have hrb:blen r≤128:=blen_le_iff.2 (by
        rw[hr]
        have h:=leN_lt (clamp (key.take 16))
        rw[HRl.out]at h
        exact h)
       clear hr
       refine(rsmall_any 1 _ (by decide)).mono ?_
       rintro e w2 ⟨A2,l2,c2,rfl,hV2,hU2⟩
       go_wp2_with fail
       refine(rshift_any _ 1 130 10 _ hV2 (by decide) (by decide) (by decide)).mono ?_
       rintro e w3 ⟨A3,l3,c3,rfl,hV3,hU3⟩
       go_wp2_with fail
       refine(rsmall_any 5 _ (by decide)).mono ?_
       rintro e w4 ⟨A4,l4,c4,rfl,hV4,hU4⟩
       go_wp2_with fail
       refine(rsub_any _ _ (1*2^130) 5 200 _ (hV3.ext hU4) hV4 (blen_le_iff.2 (by decide+kernel)) (by decide) (by decide+kernel)).mono ?_
       rintro e w5 ⟨A5,l5,c5,rfl,hV5,hU5⟩
       have hP:RefV w5 (.slice A5 l5 c5) P130:=hV5.of_eq (by decide+kernel)
       have hU:=((hU2.trans hU3).trans hU4).trans hU5
       replace hE:=hE.trans hU
       have hR5:=(hR.ext hU).sl
       clear hU hU2 hU3 hU4 hU5 hV2 hV3 hV4 hV5 hR
       go_wp2_with fail
       refine name_w (fun W1 hW1=>?_)
       have hA0:RefV W1 (.slice (some ⟨w5.heap.size,0,none⟩) 0 0) 0:=NumS.cut (xs:=[]) Sl.nil (Nat.le_refl 0) (Nat.le_refl 0) (Nat.zero_le _) rfl (.inl rfl)
       replace hP:RefV W1 (.slice A5 l5 c5) P130:=by rw[hW1];exact hP.ext ((Upd.refl _ _).alloc _)
       have hR1:Sl by8 W1 (some ⟨g,0,none⟩) (clamp (key.take 16)):=by rw[hW1];exact hR5.ext ((Upd.refl _ _).alloc _)
       replace hE:Ext w W1:=by rw[hW1];exact hE.alloc _
       generalize w5.heap.size=G5 at hA0 ⊢
       have hrb':=hide hrb
       clear hW1 hR5 hrb w5
       go_loopw [1,11] (fun bv av wr=>∃(k j L:Nat) (C:Option Addr) (cc:Nat) (Z:Option Addr) (lz cz:Nat),j+L=nb∧(16*k=j∨(L=0∧k=chn nb))∧bv=.slice C L cc∧L≤cc∧Sl by8 wr C (b.drop j)∧av=.slice Z lz cz∧RefV wr (.slice Z lz cz) (tacc r b k)∧Ext W1 wr) (fun bv _ _=>lenS bv)
       case atStart=>exact⟨0,0,nb,B,cb,_,0,0,by omega,.inl rfl,rfl,hcb,HB.out.ext hE,rfl,hA0,Upd.refl _ _⟩
       case round=>
        clear hA0
        obtain⟨k,j,L,C,cc,Z,lz,cz,hjL,hkj,rfl,hLc,hSb,rfl,hVa,hU⟩:=hrel
        have Hkj:=hide hkj
        have HSb:=hide hSb
        clear hkj hSb
        by_cases hL:0<L
        · have hLI:(0:Int)<(L:Int):=by omega
          have hk:16*k=j:=by rcases Hkj.out with h | h<;>omega
          obtain⟨e,he⟩:∃e,e=min L 16:=⟨_,rfl⟩
          have hmin:min (L:Int) 16=(e:Int):=by omega
          have he1:1≤e∧e≤16∧e≤L:=by omega
          obtain⟨p,hp⟩:∃p,p=(b.drop j).take e:=⟨_,rfl⟩
          have hpl:p.length=e:=by rw[hp,List.length_take,List.length_drop,Hb.out];omega
          have hp16:p=(b.drop (16*k)).take 16:=by
           rw[hp,hk,he]
           rcases Nat.le_total L 16 with h | h
           · rw[Nat.min_eq_left h,List.take_of_length_le (by rw[List.length_drop,Hb.out];omega),List.take_of_length_le (by rw[List.length_drop,Hb.out];omega)]
           · rw[Nat.min_eq_right h]
          have hs2:∀w,(Instr.sliceAt 23 (.slice C L cc) none (some (.int .i64 (e:Int))) none).run Tryz.prog w=.ok (.slice C e cc) w:=fun w=>run_cut_h Tryz.n_el8.under Tryz.n_sz8 C L cc e .i64 (by omega) w
          have hs3:∀w,(Instr.sliceAt 23 (.slice C L cc) (some (.int .i64 (e:Int))) none none).run Tryz.prog w=.ok (.slice (shA C cc e) (L - e) (cc - e)) w:=fun w=>run_cut_l Tryz.n_el8.under Tryz.n_sz8 C L cc e .i64 (by omega) w
          have Hpl:=hide hpl
          have Hp:=hide hp
          have Hp16:=hide hp16
          have Hk:=hide hk
          have He:=hide he
          clear hpl hp hp16 hk he
          go_wp2_with (first
           | (at_builtin;refine wpList_apd by8 one8 Tryz.n_el8 [] p p e rfl Hpl.out (by omega) (by unfold maxLen;omega) rfl rfl rfl rfl (own_none8 wr (B:=wr.heap.size) (Nat.le_refl _)) rfl Hpl.out (by rw[Hp.out];exact(HSb.out.take e).ext ((Upd.refl _ _).alloc _)) (by simp) ?_;intro A2 c2 w2 hO2 hU2 hin2)
           | (at_builtin;refine wpList_apd by8 one8 Tryz.n_el8 p [(1:BitVec 8)] (p++[1]) (e+1) rfl (by rw[List.length_append,Hpl.out];rfl) (by omega) (by unfold maxLen;omega) rfl rfl rfl Hpl.out (hO2.ext ((Upd.refl _ _).alloc _)) rfl rfl (Sl.new_at by8 [(1:BitVec 8)] rfl rfl) (by have:=hU2.size;simp at this ⊢;omega) ?_;intro A3 c3 w3 hO3 hU3 hin3))
          have hE2:Ext wr w2:=Upd.fresh hU2 ((Upd.refl _ _).alloc _) (fun i hi=>by unfold inA at hi;simp at hi;omega)
          have hE3:Ext wr w3:=Upd.fresh hU3 (hE2.alloc _) (fun i hi=>(hO2.in_ hi).1)
          have hS3:=hO3.sl
          clear hO2 hU2 hin2 hO3 hU3 hin3 hE2
          have hxb:blen (leN (p++[1]))≤140:=blen_le_iff.2 (by
           have h:=leN_lt (p++[1])
           rw[List.length_append,Hpl.out]at h
           exact Nat.lt_of_lt_of_le h (Nat.le_trans (Nat.pow_le_pow_right (by decide) (show e+[(1:BitVec 8)].length≤17 by simp only[List.length_singleton];omega)) (by decide+kernel)))
          have hta:blen (tacc r b k)≤140:=blen_le_iff.2 (Nat.lt_trans (tacc_lt r b k) (by decide+kernel))
          have hrb:blen r≤141:=Nat.le_trans hrb'.out (by decide)
          refine(rlow_any A3 (e+1) c3 (p++[1]) w3 (by rw[List.length_append,Hpl.out];rfl) (by omega) hS3).mono ?_
          rintro e4 w4 ⟨A4,l4,c4,rfl,hV4,hU4⟩
          clear hS3
          have hE4:=hE3.trans hU4
          clear hE3 hU4
          go_wp2_with fail
          refine(radd_any _ _ _ _ 140 _ (hVa.ext hE4) hV4 hta hxb (by decide)).mono ?_
          rintro e5 w5 ⟨A6,l6,c6,rfl,hV6,hU6⟩
          have hE6:=hE4.trans hU6
          clear hE4 hU6 hV4
          go_wp2_with fail
          refine(rlow_any (some ⟨g,0,none⟩) 16 c1 (clamp (key.take 16)) _ HRl.out (by decide) ((hR1.ext hU).ext hE6)).mono ?_
          rintro e7 w7 ⟨A7,l7,c7,rfl,hV7,hU7⟩
          have hV7':=hV7.of_eq Hr2.out.symm
          have hE7:=hE6.trans hU7
          have hV6':=hV6.ext hU7
          clear hE6 hU7 hV6 hV7
          go_wp2_with fail
          refine(rmul_any _ _ _ _ 141 _ hV6' hV7' (blen_sum hta hxb) hrb (by decide)).mono ?_
          rintro e8 w8 ⟨A8,l8,c8,rfl,hV8,hU8⟩
          have hE8:=hE7.trans hU8
          clear hE7 hU8 hV6' hV7'
          go_wp2_with fail
          refine(rdiv_any _ _ _ _ 300 _ hV8 (hP.ext (hU.trans hE8)) (Nat.le_trans (blen_mul' (blen_sum hta hxb) hrb) (by decide)) (blen_le_iff.2 (by decide+kernel)) (by decide) (by decide+kernel)).mono ?_
          rintro e9 w9 ⟨A9,l9,c9,A10,l10,c10,rfl, -,hV10,hU9⟩
          have hE9:=hE8.trans hU9
          clear hE8 hU9 hV8
          have hV11:RefV w9 (.slice A10 l10 c10) (tacc r b (k+1)):=hV10.of_eq (by rw[Hp16.out];rfl)
          have HV11:=hide hV11
          have HE9:=hide hE9
          clear hV10 hE9 hV11 hta hxb hrb
          go_wp2_with fail
          go_roundw
          case rel=>
           refine⟨k+1,j+e,L - e,_,_,A10,l10,c10,by omega,?_,rfl,by omega,?_,rfl,HV11.out,hU.trans HE9.out⟩
           · have h1:=He.out
             have h2:=Hk.out
             unfold chn
             rcases Nat.lt_or_ge L 16 with h | h
             · right;rw[Nat.min_eq_left (by omega)]at h1;omega
             · left;rw[Nat.min_eq_right h]at h1;omega
           · have h:=((HSb.out.ext HE9.out).shA (c:=cc) (k:=e) (by rw[List.length_drop,Hb.out];omega))
             rw[List.drop_drop]at h
             exact h
          case measure=>simp[lenS];omega
        · obtain rfl:L=0:=by omega
          have hk:k=chn nb:=by
           rcases Hkj.out with h | h
           · unfold chn;omega
           · exact h.2
          have hLI:¬(0:Int)<((0:Nat):Int):=by omega
          have hs4:∀w,(Instr.sliceAt 23 (.slice A 32 c) (some (.int .i64 16)) none none).run Tryz.prog w=.ok (.slice (shA A c 16) 16 (c - 16)) w:=fun w=>run_cut_l Tryz.n_el8.under Tryz.n_sz8 A 32 c 16 .i64 (by omega) w
          have hS16:Sl by8 wr (shA A c 16) (key.drop 16):=((HK.out.ext hE).ext hU).shA (by rw[Hk.out];exact hc)
          have hl16:(key.drop 16).length=16:=by rw[List.length_drop,Hk.out]
          have hta:blen (tacc r b k)≤140:=blen_le_iff.2 (Nat.lt_trans (tacc_lt r b k) (by decide+kernel))
          have hxb:blen (leN (key.drop 16))≤140:=blen_le_iff.2 (by
           have h:=leN_lt (key.drop 16)
           rw[hl16]at h
           exact Nat.lt_trans h (by decide+kernel))
          have hSS:tacc r b k+leN (key.drop 16)=tagN key b:=by unfold tagN;rw[Hb.out,←Hr2.out,hk]
          have HSS:=hide hSS
          clear hk hSS
          go_wp2_with fail
          refine(rlow_any (shA A c 16) 16 (c - 16) (key.drop 16) _ hl16 (by decide) hS16).mono ?_
          rintro e4 w4 ⟨A4,l4,c4,rfl,hV4,hU4⟩
          clear hS16 hl16
          go_wp2_with fail
          refine(radd_any _ _ _ _ 140 _ (hVa.ext hU4) hV4 hta hxb (by decide)).mono ?_
          rintro e5 w5 ⟨A6,l6,c6,rfl,hV6,hU6⟩
          have hE6:=hU.trans (hU4.trans hU6)
          have hSb:blen (tagN key b)≤141:=by rw[←HSS.out];exact blen_sum hta hxb
          replace hV6:=hV6.of_eq HSS.out
          clear hV4 hU4 hU6 hta hxb
          obtain⟨A',la,ca,xs,heq,hlx,hca,hma,hSa,hTa,hna⟩:=hV6.open_
          injection heq with h1 h2 h3
          subst h1 h2 h3
          have hla:l6=blen (tagN key b):=by have:=bits_len (hlx▸hTa);rw[hna,hlx]at this;exact this
          have hla2:l6≤141:=by omega
          have hlow:=bits_low (xs:=xs) (l:=l6) hlx hna
          have HSa:=hide hSa
          have Hlow:=hide hlow
          have Hlx:=hide hlx
          clear hV6 hTa hSa hna hlx hla hlow
          have HE6:=hide (hE.trans hE6)
          clear hE6 hSb hU hVa hP hR1 hE HSb
          go_wp2_with (at_make;go_must (refine wpList_mk _ _ _ Tryz.n_el8 rfl rfl 16 rfl rfl rfl rfl (by omega) (by unfold maxLen;omega) by8 rfl rfl (B:=w5.heap.size) (by simp) ?_);intro g2 w6 hO hg hU6)
          subst hg
          go_loopw [90] (fun i wr=>∃(j:Nat) (zs:List (BitVec 8)),j≤l6∧i=.int .i64 j∧zs.length=16∧Own wr w5.heap.size 5 (some ⟨w5.heap.size,0,none⟩) 16 (zs.map by8)∧leN zs=vf 2 (dig d1 xs) (min j 128)∧Ext w5 wr) (fun i _=>l6 - (intOf i).toNat)
          case atStart=>exact⟨0,_,Nat.zero_le _,rfl,List.length_replicate,hO,leN_zeros _,hU6⟩
          case round=>
           clear hO hU6
           obtain⟨j,zs,hj,rfl,hzl,hO,hv,hE⟩:=hrel
           have Hzl:=hide hzl
           have Hv:=hide hv
           clear hzl hv
           by_cases hjl:j<l6
           · have hjI:(j:Int)<(l6:Int):=by omega
             obtain⟨b1,o1,rfl,hbl1,hcells⟩:=(HSa.out.ext hE).open_ (by rw[Hlx.out];omega)
             have hcell:=hcells j (by rw[Hlx.out];omega)
             obtain⟨x,hx⟩:∃x,gat xs j=x:=⟨_,rfl⟩
             rw[hx]at hcell
             have hxd:dig d1 xs j=d1 x:=by unfold dig;rw[hx]
             have Hx:=hide hxd
             clear hcells hx hxd
             by_cases h128:j<128
             · have h128I:(j:Int)<128:=by omega
               cases x with
               | false=>
                 have hnx:leN zs=vf 2 (dig d1 xs) (min (j+1) 128):=by
                  have h:=Hv.out
                  rw[Nat.min_eq_left (by omega)]at h ⊢
                  rw[vf_succ,Hx.out,h];show _=_+0*_;omega
                 have Hnx:=hide hnx
                 clear hnx
                 go_wp2_with fail
                 go_roundw
                 case rel=>exact⟨j+1,zs,by omega,by go_num,Hzl.out,hO,Hnx.out,hE⟩
                 case measure=>simp[intOf];omega
               | true=>
                 have hnx:leN (zs.set (j / 8) (w8 (n8 (gat zs (j / 8))+n8 (w8 (2^(j % 8))))))=vf 2 (dig d1 xs) (min (j+1) 128):=by
                  have h:=Hv.out
                  rw[Nat.min_eq_left (by omega)]at h ⊢
                  exact tag_bit (xs:=xs) (i:=j) Hzl.out (by omega) h Hx.out
                 obtain⟨I,hI⟩:∃I,I=j / 8:=⟨_,rfl⟩
                 obtain⟨q,hq⟩:∃q,q=j % 8:=⟨_,rfl⟩
                 have hIs:I<16:=by omega
                 have hcx:=(hO.row.ext (Upd.refl _ _).drew).cell (i:=I) (by rw[Hzl.out];omega)
                 go_wp2_with fail
                 have e1:IntKind.i64.wrap ((j:Int) / 8)=(I:Int):=by rw[hI];exact IntWalk.i64_in _ (by omega)
                 have e1':(j:Int) / 8=(I:Int):=by rw[hI];rfl
                 have e2:(j:Int).tmod 8=(q:Int):=by rw[hq];exact IntWalk.rem_in _ _ (by omega)
                 have e2':(j:Int) % 8=(q:Int):=by rw[hq];rfl
                 have e3:IntKind.i64.wrap (I:Int)=(I:Int):=IntWalk.i64_in _ (by omega)
                 have e4:IntKind.i64.wrap (q:Int)=(q:Int):=IntWalk.i64_in _ (by omega)
                 have p0:(0:Int)≤(I:Int):=by omega
                 have p1:(I:Int)<16:=by omega
                 have p2:(0:Int)≤(q:Int):=by omega
                 rw[←hI,←hq]at hnx
                 have Hnx:=hide hnx
                 have c1:=fun x:Wd (Same wr.drew)=>(same_cell x ⟨w5.heap.size,I,none⟩).trans hcx
                 clear hI hq hnx
                 refine wp_region_plan (Same _) 13 [(false,0),(false,1),(false,2),(false,3),(false,4),(false,5),(false,6),(false,7),(false,8),(false,9),(false,10),(false,11),(false,12)] (by kernel_rfl) (by kernel_rfl) rfl (fun hne=>?_)
                 repeat (refine head_q rfl (fun K hK=>?_);have hK2:=hide hK;clear hK;go_simp;refine hK2.out _ ?_;clear hK2 K)
                 clear e1 e1' e2 e2' e3 e4 c1
                 refine head_nil ?_
                 try simp only[List.drop_succ_cons,List.drop_zero]
                 refine wpList_store_own by8 one8 (w8 (n8 (gat zs I)+n8 (w8 (2^q)))) rfl rfl Tryz.n_sz8 rfl rfl (hO.ext (Upd.refl _ _).drew) (by rw[Hzl.out];exact hIs) ?_
                 intro w7 hO3 hU3
                 go_wp2_with fail
                 go_roundw
                 case rel=>exact⟨j+1,_,by omega,by go_num,by rw[List.length_set];exact Hzl.out,hO3,Hnx.out,Upd.fresh hU3.undrew hE (fun i hi=>by unfold only at hi;omega)⟩
                 case measure=>simp[intOf];omega
             · have h128I:¬(j:Int)<128:=by omega
               have hnx:leN zs=vf 2 (dig d1 xs) (min (j+1) 128):=by
                have h:=Hv.out
                rw[Nat.min_eq_right (by omega)]at h ⊢
                exact h
               have Hnx:=hide hnx
               clear hnx
               cases x with
               | false=>
                 go_wp2_with fail
                 go_roundw
                 case rel=>exact⟨j+1,zs,by omega,by go_num,Hzl.out,hO,Hnx.out,hE⟩
                 case measure=>simp[intOf];omega
               | true=>
                 go_wp2_with fail
                 go_roundw
                 case rel=>exact⟨j+1,zs,by omega,by go_num,Hzl.out,hO,Hnx.out,hE⟩
                 case measure=>simp[intOf];omega
           · obtain rfl:j=l6:=by omega
             have hjI:¬(j:Int)<(j:Int):=by omega
             have hfin:zs=tagOf key b:=tag_low Hzl.out (by rw[Hv.out,Hlow.out]) (Nat.lt_trans (tagN_lt Hk.out b) (by decide+kernel))
             subst hfin
             go_wp2_with fail
             go_ret
             have hcp:=hO.cap
             rw[List.length_map,tagOf_length]at hcp
             exact⟨_,_,rfl,hcp,hO.sl,HE6.out.trans hE⟩
end Go.Proofs.YtdohmikoafkniaaGreat
