/- Merged: TagA TagB TagC. -/
import Derived.Test.YtbhhjfhepkbfgaaLbMods
import Derived.Test.YtbhhjfhepkbfgaaLbSli
import Derived.Test.YtbhhjfhepkbfgaaLbRange
namespace Go.Proofs.Ytbhhjfhepkbfgaa
set_option linter.unusedSimpArgs false
set_option linter.unusedVariables false
/- The number of bytes, the lowest first; 2^130 - 5: walked. -/
section
open Go.RowKit
open Nt
attribute [local go_sem] steady steadyUpon Cls same_cell anyW
attribute [local irreducible] wpHead wpHeadR
def leN (bs:List (BitVec 8)):Nat:=ofB bs.reverse
set_option maxRecDepth 100000 in
set_option maxHeartbeats 1000000 in
theorem low_any (A:Option Addr) (n c:Nat) (bs:List (BitVec 8)) (w:World) (hl:bs.length=n) (hn:n≤128) (hS:Sl by8 w A bs):
 Calls Try.prog 121 #[.slice A n c] w (RetN w (leN bs)):=by
 have Hl:=hide hl
 have HS:=hide hS
 clear hl hS
 go_enter Try.func121,Try.ntmps121
 go_wp2_with fail
 refine name_c (fun W hW=>?_)
 have b2:Box W w.heap.size 33 (.slice none 0 0):=by rw[hW];exact Box.new _ _ _
 have hE:Ext w W:=by rw[hW];exact(Upd.refl _ w).alloc _
 clear hW
 have hG:Ext W W:=Upd.refl _ _
 refine(clone_any A n c bs _ Hl.out (by omega) (HS.out.ext hE)).mono ?_
 rintro e w1 ⟨A1,c1,rfl, -,hO1,hU⟩
 replace hG:=hG.trans hU
 go_wp2_with fail
 refine(rev_any A1 n c1 W.heap.size bs _ Hl.out (by omega) hO1).mono ?_
 rintro e w2 ⟨rfl,hO2,hU2⟩
 replace hG:Ext W w2:=Upd.fresh hU2 hG (fun k hk=>(hO1.in_ hk).1)
 clear hU hU2 hO1
 go_wp2_with fail
 refine(from_any A1 n c1 bs.reverse _ (by rw[List.length_reverse];exact Hl.out) hn hO2.sl).mono ?_
 rintro e w3 ⟨A3,l3,c3,rfl,hV3,hU⟩
 replace hG:=hG.trans hU
 have b2':=(b2.ext hG).alloc (.cells #[.slice A3 l3 c3] 33)
 have q2:=b2'.cell
 have f2:=b2'.frozen
 go_wp2_with fail
 have q:=(b2'.set (.slice A3 l3 c3)).cell
 exact bodyPost_ret (v:=.agg #[.slice A3 l3 c3]) (by simp[results,Try.results121,go_sem,q]) rfl ⟨_,_,_,rfl,(hV3.ext ((Upd.refl _ _).alloc _)).far q2,((hE.trans hG).alloc _).setCell (p:=⟨w.heap.size,0,none⟩) (.inr (Nat.le_refl _)) _⟩
def P130 :Nat:=1361129467683753853853498429727072845819
theorem ofB_head :ofB ((4:BitVec 8) :: List.replicate 16 0)=1361129467683753853853498429727072845824:=by decide+kernel
set_option maxRecDepth 100000 in
set_option maxHeartbeats 2000000 in
theorem prime_any (w:World):Calls Try.prog 120 #[] w (RetN w P130):=by
 go_enter Try.func120,Try.ntmps120
 go_wp2_with (first
  | (at_make;go_must (refine wpList_mk _ _ _ Try.n_el8 rfl rfl 17 rfl rfl rfl rfl (by omega) (by unfold maxLen;omega) by8 rfl rfl (B:=w.heap.size+1) (by simp) ?_);intro g w2 hO hg hU;have b0:Box w2 w.heap.size 33 (.slice none 0 0):=(by repeat (first | (with_reducible refine Box.new_at ?_;(simp;done)) | (with_reducible assumption) | (with_reducible refine Box.alloc ?_ _) | (with_reducible refine Box.drew ?_) | (with_reducible refine Box.ext ?_ (by with_reducible assumption))));have hE:Ext w w2:=(by repeat (first | (with_reducible exact Upd.refl _ _) | (with_reducible assumption) | (refine Upd.setCell ?_ (.inr (by first | exact Nat.le_refl _ | (dsimp only;omega) | (simp;done) | (simp;omega))) _) | (with_reducible refine Upd.alloc ?_ _) | (with_reducible refine Upd.drew ?_) | (with_reducible refine Upd.trans ?_ (by with_reducible assumption))));obtain rfl:g=w.heap.size+1:=(by rw[hg];simp);clear hg hU)
  | (refine wpList_store_own by8 one8 (4:BitVec 8) rfl rfl Try.n_sz8 rfl rfl hO (by simp) ?_;intro w3 hO3 hU3))
 have hG:=Upd.fresh hU3 hE (fun k hk=>by unfold only at hk;omega)
 replace b0:=b0.upd hU3 (fun h=>by unfold only at h;omega)
 clear hO hU3 hE w2
 go_wp2_with fail
 refine(from_any _ 17 17 ((4:BitVec 8) :: List.replicate 16 0) _ rfl (by omega) hO3.sl).mono ?_
 rintro e w4 ⟨A4,l4,c4,rfl,hV4,hU⟩
 replace hG:=hG.trans hU
 replace b0:=b0.ext hU
 rw[ofB_head]at hV4
 have b0lt:w.heap.size<w4.heap.size:=b0.lt
 clear hU
 go_wp2_with fail
 obtain⟨G,hGe⟩:∃G,G=w4.heap.size:=⟨_,rfl⟩
 refine name_w (fun W hW=>?_)
 have b1:Box W G 33 (.slice A4 l4 c4):=by rw[hW,hGe];exact Box.new _ _ _
 replace b0:Box W w.heap.size 33 (.slice none 0 0):=by rw[hW];exact b0.alloc _
 replace hV4:NatV W (.agg #[.slice A4 l4 c4]) 1361129467683753853853498429727072845824:=by rw[hW];exact hV4.ext ((Upd.refl _ _).alloc _)
 replace hG:Ext w W:=by rw[hW];exact hG.alloc _
 have hlt:w.heap.size<G:=by rw[hGe];exact b0lt
 rw[←hGe]
 clear hW hGe hO3 b0lt w4 w3
 have k1:=fun x:Wd (Ext W.drew)=>(x.ok.cell (p:=⟨G,0,none⟩) b1.drew.lt (fun h=>h)).trans b1.drew.cell
 refine wp_region_r (Ext _) [2,6] [(0,0),(1,1),(1,2),(2,3),(2,4),(2,5),(1,6)] (by kernel_rfl) (by kernel_rfl) (Upd.refl _ _) (fun hne=>?_)
 repeat (first | (refine headR_q rfl (fun K hK=>?_);have hK2:=hide hK;clear hK;go_simp;refine hK2.out _ ?_;clear hK2 K) | (refine headR_p rfl (fun K hK=>?_);have hK2:=hide hK;clear hK;go_simp;refine hK2.out _ ?_;clear hK2 K))
 refine headR_l rfl ?_
 go_wp2_with (refine(new_any 5 _ (by omega)).mono ?_;rintro e w5 ⟨A5,l5,c5,rfl,hV5,hU5⟩)
 refine⟨_,.inr fun _ h=>h,⟨⟨_,hU5⟩,rfl⟩,?_⟩
 repeat (first | (refine headR_q rfl (fun K hK=>?_);have hK2:=hide hK;clear hK;go_simp;refine hK2.out _ ?_;clear hK2 K) | (refine headR_p rfl (fun K hK=>?_);have hK2:=hide hK;clear hK;go_simp;refine hK2.out _ ?_;clear hK2 K))
 have hE5:Ext W w5:=(Upd.drew (Upd.refl _ W)).trans hU5
 refine headR_l rfl ?_
 go_wp2_with (refine(sub_any _ _ _ 5 10 _ (hV4.ext hE5) hV5 (show _<W32^10 by decide+kernel) (show _<W32^10 by decide+kernel) (by omega)).mono ?_;rw[if_neg (by omega)];rintro e w6 ⟨A6,l6,c6,rfl,hV6,hU6⟩)
 refine⟨Cls (Ext _),.inl (by decide),⟨⟨_,Upd.refl _ _⟩,rfl⟩,?_⟩
 have hE6:Ext W w6:=hE5.trans hU6
 clear hU5 hE5 hU6 hV5 hV4 k1
 replace b0:=b0.ext hE6
 replace b1:=b1.ext hE6
 replace hG:=hG.trans hE6
 clear hE6
 repeat (first | (refine headR_q rfl (fun K hK=>?_);have hK2:=hide hK;clear hK;go_simp;refine hK2.out _ ?_;clear hK2 K) | (refine headR_p rfl (fun K hK=>?_);have hK2:=hide hK;clear hK;go_simp;refine hK2.out _ ?_;clear hK2 K))
 have c1:=b1.cell
 have f1:=b1.frozen
 have c0:=b0.cell
 have f0:=b0.frozen
 have hne:w.heap.size≠G:=by omega
 refine headR_l rfl ?_
 go_wp2_with fail
 refine⟨Cls (Ext _),.inl (by decide),⟨⟨_,Upd.refl _ _⟩,rfl⟩,?_⟩
 refine headR_nil ?_
 go_wp2_with fail
 have q:=((b0.far (p:=⟨G,0,none⟩) hne (.slice A6 l6 c6)).set (.slice A6 l6 c6)).cell
 exact bodyPost_ret (v:=.agg #[.slice A6 l6 c6]) (by simp[results,Try.results120,go_sem,q]) rfl ⟨_,_,_,rfl,((hV6.far c1).far (b0.far (p:=⟨G,0,none⟩) hne (.slice A6 l6 c6)).cell),(hG.setCell (p:=⟨G,0,none⟩) (.inr (Nat.le_of_lt hlt)) _).setCell (p:=⟨w.heap.size,0,none⟩) (.inr (Nat.le_refl _)) _⟩
end
/- slices.Chunk over bytes, by sixteen: what it hands to a loop. -/
section
open Go.RowKit Go.Shelf
open Nt
attribute [local go_sem] Oper.semAt_some by8 steady steadyUpon Cls same_cell
attribute [local irreducible] wpHead
theorem run_cut_lhm {P:Program} {T e:TypeId} (hT:P.underlying T=some (.slice e)) (hs:(P.info? e).map (·.size)=some 1) (A:Option Addr) (len cap l h m:Nat) (k k' k2:IntKind) (hl:l≤h) (hh:h≤m) (hm:m≤cap) (w:World):(Instr.sliceAt T (.slice A len cap) (some (.int k (l:Int))) (some (.int k' (h:Int))) (some (.int k2 (m:Int)))).run P w=.ok (.slice (shA A m l) (h - l) (m - l)) w:=by
 have hT':P.underlying T=some (.slice (P.elem T)):=by simp[Program.elem,hT]
 rw[run_sliceAt_slice w T _ _ _ _ hT',run_slice_lhm w T A len cap hT' k k' k2 l h m (by omega) (by omega) (by omega) (by omega)]
 exact run_cut_at hT hs w A len cap l h m
def chn (len:Nat):Nat:=(len+15) / 16
def chl (len i:Nat):Nat:=min 16 (len - 16*i)
def chv (A:Option Addr) (len:Nat) (x:Ix (chn len)):Array Value:=#[.slice (shA A (16*x.1+chl len x.1) (16*x.1)) (chl len x.1) (chl len x.1)]
def Fk {len:Nat} (k:Nat) (pre:List (Ix len)):Prop:=pre.map (·.1)=List.range k
theorem Fk.nil {len:Nat}:Fk (len:=len) 0 []:=rfl
theorem Fk.length {len k:Nat} {pre:List (Ix len)} (h:Fk k pre):pre.length=k:=by
 have:=congrArg List.length h
 simpa using this
theorem Fk.snoc {len k:Nat} {pre:List (Ix len)} (h:Fk k pre) {x:Ix len} (hx:x.1=k):Fk (k+1) (pre++[x]):=by
 unfold Fk at*
 rw[List.map_append,h,List.range_succ,List.map_singleton,hx]
theorem Fk.last {len k:Nat} {ini:List (Ix len)} {x:Ix len} (h:Fk k (ini++[x])):∃j,k=j+1∧Fk j ini∧x.1=j:=by
 have hl:=h.length
 simp at hl
 subst hl
 unfold Fk at*
 rw[List.map_append,List.range_succ,List.map_singleton]at h
 obtain⟨h1,h2⟩:=List.append_inj' h rfl
 exact⟨_,rfl,h1,by simpa using h2⟩
set_option maxRecDepth 100000 in
set_option maxHeartbeats 2000000 in
theorem chunk1_in (n:Nat) (hn:1≤n) (l Bs Bn:Nat) (A:Option Addr) (len cap:Nat) (R:Nat→Prop) (hreach:len≤1000000) (hcap:len≤cap) (J Jx:List (Ix (chn len))→World→Prop)
 (hY:∀pre x W,J pre W→pre.length<chn len→YieldAt Fence.wide (n - 1) Try.prog l (chv A len x) W fun e W'=>
  (e=.returned (.bool true)∧J (pre++[x]) W'∧Kept R W W')∨(e=.returned (.bool false)∧Jx (pre++[x]) W'))
 (hJd:∀pre W,J pre W→J pre W.drew) (W:World) (hBs:W.cell? ⟨Bs,0,none⟩=some (.slice A len cap)) (hBn:W.cell? ⟨Bn,0,none⟩=some (.int .i64 16)) (hRs:R Bs) (hRn:R Bn) (hJ0:J [] W):
 CallsIn Fence.wide n Try.prog 130 #[.func (.yield l) #[] #[],.pointer (some ⟨Bs,0,none⟩),.pointer (some ⟨Bn,0,none⟩)] W fun e W'=>(∃v,e=.returned v)∧
   ((∃ys,Fk (chn len) ys∧J ys W')∨(∃pre,True∧Jx pre W')):=by
 refine callsIn_of_wp Try.func130 rfl trivial ?_ rfl
 simp only[Try.ntmps130,List.size_toArray,List.length_cons,List.length_nil,Nat.reduceAdd,Nat.reduceSub,Array.replicate_succ,Array.replicate_zero,List.push_toArray,List.append_toArray,List.nil_append,List.cons_append]
 gi_wp2
 gi_loopw [4] (fun i wr=>∃(k:Nat) (pre:List (Ix (chn len))),k≤chn len∧i=.int .i64 ((16*k:Nat):Int)∧Fk k pre∧J pre wr∧Kept R W wr)
   (fun i _=>len+16 - (intOf i).toNat)
 case atStart=>exact⟨0,[],Nat.zero_le _,rfl,Fk.nil,hJ0,Kept.refl _ _⟩
 case round=>
  obtain⟨k,pre,hk,rfl,hF,hJs,hnx⟩:=hrel
  have hBs':wr.cell? ⟨Bs,0,none⟩=some (.slice A len cap):=(hnx.cell (p:=⟨Bs,0,none⟩) hRs).trans hBs
  have hBn':wr.cell? ⟨Bn,0,none⟩=some (.int .i64 16):=(hnx.cell (p:=⟨Bn,0,none⟩) hRn).trans hBn
  obtain⟨i,hi⟩:∃i,i=16*k:=⟨_,rfl⟩
  rw[←hi]
  have Hi:=hide hi
  clear hi
  by_cases hil:i<len
  · have hil':(i:Int)<(len:Int):=by omega
    obtain⟨e,he⟩:∃e,e=chl len k:=⟨_,rfl⟩
    have hk2:k<chn len:=by have:=Hi.out;unfold chn at*;omega
    have hie:i+e≤len:=by have:=Hi.out;unfold chl at he;omega
    have hs1:∀w,(Instr.sliceAt 23 (.slice A len cap) (some (.int .i64 (i:Int))) none none).run Try.prog w=.ok (.slice (shA A cap i) (len - i) (cap - i)) w:=fun w=>run_cut_l Try.n_el8.under Try.n_sz8 A len cap i .i64 (by omega) w
    have hs2:∀w,(Instr.sliceAt 23 (.slice A len cap) (some (.int .i64 (i:Int))) (some (.int .i64 ((i:Int)+(e:Int)))) (some (.int .i64 ((i:Int)+(e:Int))))).run Try.prog w=.ok (.slice (shA A (i+e) i) e e) w:=fun w=>by
      have:=run_cut_lhm Try.n_el8.under Try.n_sz8 A len cap i (i+e) (i+e) .i64 .i64 .i64 (by omega) (by omega) (by omega) w
      rw[show i+e - i=e by omega]at this
      exact this
    have hmin:min (16:Int) ((len - i:Nat):Int)=(e:Int):=by have:=Hi.out;unfold chl at he;omega
    have e0:(0:Int)≤(e:Int):=by omega
    have hieI:(i:Int)+(e:Int)≤(len:Int):=by omega
    have He:=hide he
    clear he hie
    gi_wp2
    refine wpIn_wide.2 ?_
    refine wp_region_all (Same _) [(false,0),(false,1),(false,2),(false,3),(false,4),(false,5),(false,6)] (by kernel_rfl) (by kernel_rfl) rfl (fun hne=>?_)
    repeat (refine head_q rfl (fun K hK=>?_);have hK2:=hide hK;clear hK;go_simp;refine hK2.out _ ?_;clear hK2 K)
    refine head_nil ?_
    try simp only[List.drop_succ_cons,List.drop_zero]
    go_wp2_with fail
    have HF:=hide (hF.snoc (x:=⟨k,hk2⟩) rfl)
    obtain⟨fn,tmps,assign,body,hy,hR⟩:=hY pre ⟨k,hk2⟩ wr.drew (hJd _ _ hJs) (by rw[hF.length];omega)
    dsimp only[chv]at hy
    rw[←Hi.out,←He.out]at hy
    clear hF hmin
    gi_wp2
    refine hR.mono ?_
    rintro e2 W3 (⟨rfl,hJ3,hk3⟩ | ⟨rfl,hJx3⟩)
    · have hBn3:W3.cell? ⟨Bn,0,none⟩=some (.int .i64 16):=(hk3.cell (p:=⟨Bn,0,none⟩) hRn).trans hBn'
      gi_wp2
      go_roundw
      case rel=>exact⟨k+1,_,hk2,by have:=Hi.out;rw[show 16*(k+1)=i+16 by omega];go_num,HF.out,hJ3,hnx.t hk3⟩
      case measure=>simp[intOf];omega
    · gi_wp2
      refine bodyPost_ret (results_none rfl _ _ _) rfl ?_
      exact⟨⟨_,rfl⟩,.inr ⟨_,trivial,hJx3⟩⟩
  · have hil':¬(i:Int)<(len:Int):=by omega
    gi_wp2
    go_end0
    refine⟨⟨_,rfl⟩,.inl ⟨_,?_,hJs⟩⟩
    have:k=chn len:=by have:=Hi.out;unfold chn at*;omega
    exact this▸hF
set_option maxHeartbeats 1000000 in
theorem chunk_in (n:Nat) (a:Option Addr) (len cap:Nat) (w:World):
 CallsIn Fence.wide n Try.prog 122 #[.slice a len cap,.int .i64 16] w fun e w'=>e=.returned (.func (.func 130) #[] #[.pointer (some ⟨w.heap.size,0,none⟩),.pointer (some ⟨w.heap.size+1,0,none⟩)])∧w'=(w.alloc (.cells #[.slice a len cap] 23)).alloc (.cells #[.int .i64 16] 3):=by
 refine callsIn_of_wp Try.func122 rfl trivial ?_ rfl
 simp only[Try.ntmps122,List.size_toArray,List.length_cons,List.length_nil,Nat.reduceAdd,Nat.reduceSub,Array.replicate_succ,Array.replicate_zero,List.push_toArray,List.append_toArray,List.nil_append,List.cons_append]
 gi_wp2
 go_ret
 exact⟨rfl,rfl⟩
theorem chunk_stops (n:Nat) (hn:1≤n) (Bs Bn:Nat) (R:Nat→Prop) (A:Option Addr) (len cap:Nat) (hreach:len≤1000000) (hcap:len≤cap) (w:World) (hRs:R Bs) (hRn:R Bn) (hBs:Bs<w.heap.size) (hBn:Bn<w.heap.size)
 (hc:w.cell? ⟨Bs,0,none⟩=some (.slice A len cap)) (hc2:w.cell? ⟨Bn,0,none⟩=some (.int .i64 16)):
 SeqStopsK Fence.wide n Try.prog 130 #[.pointer (some ⟨Bs,0,none⟩),.pointer (some ⟨Bn,0,none⟩)] (chv A len) (Kept R) (Fk (chn len)) (fun _=>True) (chn len) w:=fun l J Jx W hW hJ _ hY h0=>
 chunk1_in n hn l Bs Bn A len cap R hreach hcap J Jx hY (fun pre W1 h=>hJ pre W1 W1.drew none h ⟨rfl,rfl,rfl,Nat.le_refl _,fun _ _ _=>rfl⟩ (fun r e=>by cases e)) W ((hW.cell (p:=⟨Bs,0,none⟩) hBs).trans hc) ((hW.cell (p:=⟨Bn,0,none⟩) hBn).trans hc2) hRs hRn h0
end
/- The tag of a message, walked: Of. -/
section
open Go.RowKit Go.Shelf
open Nt
theorem and_u8 (x y:BitVec 8):bits .and .u8 (n8 x) (n8 y)=n8 (x &&& y):=by
 show IntKind.u8.wrap ((BitVec.ofInt 8 (x.toNat:Int) &&& BitVec.ofInt 8 (y.toNat:Int)).toNat:Int)=_
 rw[ofInt_toNat,ofInt_toNat];exact wrapu_toNat .u8 rfl _
theorem and15_u8 (x:BitVec 8):bits .and .u8 (n8 x) 15=n8 (x &&& 15):=and_u8 x 15
theorem and252_u8 (x:BitVec 8):bits .and .u8 (n8 x) 252=n8 (x &&& 252):=and_u8 x 252
def setr (f:BitVec 8→BitVec 8) (o:Nat):Nat→List (BitVec 8)→List (BitVec 8)
 | 0,bs=>bs
 | k+1,bs=>(setr f o k bs).set (o+4*k) (f (gat (setr f o k bs) (o+4*k)))
theorem setr_length (f:BitVec 8→BitVec 8) (o k:Nat) (bs:List (BitVec 8)):(setr f o k bs).length=bs.length:=by
 induction k with
 | zero=>rfl
 | succ k ih=>rw[setr,List.length_set,ih]
def clamp (bs:List (BitVec 8)):List (BitVec 8):=setr (· &&& 252) 4 3 (setr (· &&& 15) 3 4 bs)
theorem clamp_length (bs:List (BitVec 8)):(clamp bs).length=bs.length:=by unfold clamp;rw[setr_length,setr_length]
def tacc (r:Nat) (b:List (BitVec 8)):Nat→Nat
 | 0=>0
 | k+1=>(tacc r b k+leN ((b.drop (16*k)).take 16++[1]))*r % P130
def tagN (key b:List (BitVec 8)):Nat:=tacc (leN (clamp (key.take 16))) b (chn b.length)+leN (key.drop 16)
def tagOf (key b:List (BitVec 8)):List (BitVec 8):=(toB (tagN key b) 18).reverse.take 16
attribute [local go_sem] steady steadyUpon Cls same_cell by8 and15_u8 and252_u8 Oper.semAt_some
attribute [local irreducible] wpHead wpTree
structure TagI (b:List (BitVec 8)) (G G3 g3:Nat) (A4:Option Addr) (l4 c4 r m:Nat) (pre:List (Ix m)) (W:World):Prop where
 ex:∃(A:Option Addr) (l c a:Nat),Box W G 33 (.slice A l c)∧NatV W (.agg #[.slice A l c]) a∧a<P130∧(Fk pre.length pre→a=tacc r b pre.length)
 b9:Box W G3 77 (.pointer (some ⟨g3,0,none⟩))
 b12:Box W (G+1) 33 (.slice A4 l4 c4)
 ring:RingV W g3 P130
 by_:NatV W (.agg #[.slice A4 l4 c4]) r
 sz:G+1+1+1<W.heap.size
theorem RingV.far {w:World} {g n G:Nat} {t:TypeId} {A:Option Addr} {l c:Nat} (h:RingV w g n) (b:Box w G t (.slice A l c)) (u:Value):RingV (w.setCell ⟨G,0,none⟩ u) g n:=by
 obtain⟨A2,l2,c2,h1,h2,h3⟩:=h
 refine⟨A2,l2,c2,h1.far (fun e=>?_) u,h2.far b.cell,h3⟩
 have e':g=G:=e
 subst e'
 unfold Two at h1
 unfold Box at b
 rw[h1]at b
 simp at b
theorem two_kept {W W':World} {row:Option Nat} {g:Nat} {t:TypeId} {a b:Value} (h:Two W g t a b) (hg:W.grownBy W' row) (hr:∀r,row=some r→∃o:Obj,W.heap[r]? =some o∧o.isCells=false):Two W' g t a b:=by
 refine(hg.block g h.lt (fun e=>?_)).trans h
 obtain⟨o,ho,hc⟩:=hr g e.symm
 unfold Two at h
 rw[h]at ho
 injection ho with ho
 subst ho
 simp[Obj.isCells]at hc
theorem RingV.kept {W W':World} {row:Option Nat} {g n:Nat} (h:RingV W g n) (hg:W.grownBy W' row) (hr:∀r,row=some r→∃o:Obj,W.heap[r]? =some o∧o.isCells=false):RingV W' g n:=by
 obtain⟨A,l,c,h1,h2,h3⟩:=h
 exact⟨A,l,c,two_kept h1 hg hr,h2.kept hg hr,h3⟩
theorem TagI.own {b:List (BitVec 8)} {G G3 g3:Nat} {A4:Option Addr} {l4 c4 r m:Nat}:_root_.Go.Own (TagI b G G3 g3 A4 l4 c4 r m):=fun s A B row hs hg hr=>by
  obtain⟨⟨A,l,c,a,h1,h2,h3,h4⟩,b9,b12,ring,by_,sz⟩:=hs
  exact⟨⟨A,l,c,a,box_kept h1 hg hr,h2.kept hg hr,h3,h4⟩,box_kept b9 hg hr,box_kept b12 hg hr,ring.kept hg hr,by_.kept hg hr,Nat.lt_of_lt_of_le sz hg.size⟩
set_option maxRecDepth 100000 in
set_option maxHeartbeats 4000000 in
theorem ptag_any (A B:Option Addr) (c nb cb:Nat) (key b:List (BitVec 8)) (w:World) (hk:key.length=32) (hb:b.length=nb) (hc:32≤c) (hcb:nb≤cb) (hnb:nb≤1000000) (hK:Sl by8 w A key) (hB:Sl by8 w B b):
 Calls Try.prog 100 #[.slice A 32 c,.slice B nb cb] w fun e w'=>∃A2,e=.returned (.tuple #[.slice A2 16 16,.int .i64 0])∧Sl by8 w' A2 (tagOf key b)∧Ext w w':=by
 have HK:=hide hK
 have HB:=hide hB
 have Hk:=hide hk
 have Hb:=hide hb
 clear hK hB hk hb
 refine(callsIn_wide (n:=3)).1 ?_
 refine callsIn_of_wp_marks Try.func100 rfl trivial ?_ rfl
 refine wpIn_wide.2 ?_
 simp only[Try.ntmps100,List.size_toArray,List.length_cons,List.length_nil,Nat.reduceAdd,Nat.reduceSub,Array.replicate_succ,Array.replicate_zero,List.push_toArray,List.append_toArray,List.nil_append,List.cons_append]
 have hs1:∀w,(Instr.sliceAt 23 (.slice A 32 c) none (some (.int .i64 16)) none).run Try.prog w=.ok (.slice A 16 c) w:=fun w=>run_cut_h Try.n_el8.under Try.n_sz8 A 32 c 16 .i64 (by omega) w
 go_wp2_with fail
 refine(clone_any A 16 c (key.take 16) _ (by rw[List.length_take,Hk.out];rfl) (by omega) (HK.out.take 16)).mono ?_
 rintro e w1 ⟨A1,c1,rfl,hl1,hO1,hU1⟩
 obtain⟨g,rfl,hg0,hg1⟩:=hO1.open_ (by rw[List.length_map,hl1];omega)
 go_wp2_with fail
 go_loopw [7] (fun i wr=>∃(k j:Nat),k≤4∧j=3+4*k∧i=.int .i64 (j:Int)∧Own wr w.heap.size 5 (some ⟨g,0,none⟩) c1 ((setr (· &&& 15) 3 k (key.take 16)).map by8)∧Upd (only g) w1 wr) (fun i _=>20 - (intOf i).toNat)
 case atStart=>exact⟨0,3,Nat.zero_le _,rfl,rfl,by have h:=hO1;exact h,Upd.refl _ _⟩
 case round=>
  clear hO1
  obtain⟨k,j,hk,hj,rfl,hO,hU⟩:=hrel
  have hzl:(setr (· &&& 15) 3 k (key.take 16)).length=16:=by rw[setr_length];exact hl1
  have Hj:=hide hj
  have Hzl:=hide hzl
  clear hj hzl
  by_cases hj16:j<16
  · have hjI:(j:Int)<16:=by omega
    have ck:=hO.row.cell (i:=j) (by rw[Hzl.out];omega)
    go_wp2_with (refine wpList_store_own by8 one8 ((fun x:BitVec 8=>x &&& 15) (gat (setr (· &&& 15) 3 k (key.take 16)) j)) rfl rfl Try.n_sz8 rfl rfl hO (by rw[Hzl.out];omega) ?_;intro w3 hO3 hU3)
    have hO4:Own w3 w.heap.size 5 (some ⟨g,0,none⟩) c1 ((setr (· &&& 15) 3 (k+1) (key.take 16)).map by8):=by
     have h:=Hj.out
     unfold setr
     rw[←h]
     exact hO3
    have hU4:=hU.trans hU3
    clear hO3 hU3
    go_roundw
    case rel=>exact⟨k+1,j+4,by have:=Hj.out;omega,by have:=Hj.out;omega,by go_num,hO4,hU4⟩
    case measure=>simp[intOf];omega
  · have hjI:¬(j:Int)<16:=by omega
    obtain rfl:k=4:=by have:=Hj.out;omega
    clear Hj
    go_wp2_with fail
    have hO1:=hO
    have hl2:(setr (fun x:BitVec 8=>x &&& 15) 3 4 (key.take 16)).length=16:=Hzl.out
    clear hO Hzl hjI hj16 hk hl1
    go_loopw [8] (fun i wr=>∃(k j:Nat),k≤3∧j=4+4*k∧i=.int .i64 (j:Int)∧Own wr w.heap.size 5 (some ⟨g,0,none⟩) c1 ((setr (fun x:BitVec 8=>x &&& 252) 4 k (setr (fun x:BitVec 8=>x &&& 15) 3 4 (key.take 16))).map by8)∧Upd (only g) w1 wr) (fun i _=>20 - (intOf i).toNat)
    case atStart=>exact⟨0,4,Nat.zero_le _,rfl,rfl,hO1,hU⟩
    case round=>
     clear hO1
     obtain⟨k,j,hk,hj,rfl,hO,hU⟩:=hrel
     have hzl:(setr (fun x:BitVec 8=>x &&& 252) 4 k (setr (fun x:BitVec 8=>x &&& 15) 3 4 (key.take 16))).length=16:=by rw[setr_length];exact hl2
     have Hj:=hide hj
     have Hzl:=hide hzl
     clear hj hzl
     by_cases hj16:j<16
     · have hjI:(j:Int)<16:=by omega
       have ck:=hO.row.cell (i:=j) (by rw[Hzl.out];omega)
       go_wp2_with (refine wpList_store_own by8 one8 ((fun x:BitVec 8=>x &&& 252) (gat (setr (fun x:BitVec 8=>x &&& 252) 4 k (setr (fun x:BitVec 8=>x &&& 15) 3 4 (key.take 16))) j)) rfl rfl Try.n_sz8 rfl rfl hO (by rw[Hzl.out];omega) ?_;intro w3 hO3 hU3)
       have hO4:Own w3 w.heap.size 5 (some ⟨g,0,none⟩) c1 ((setr (fun x:BitVec 8=>x &&& 252) 4 (k+1) (setr (fun x:BitVec 8=>x &&& 15) 3 4 (key.take 16))).map by8):=by
         have h:=Hj.out
         unfold setr
         rw[←h]
         exact hO3
       have hU4:=hU.trans hU3
       clear hO3 hU3
       go_roundw
       case rel=>exact⟨k+1,j+4,by have:=Hj.out;omega,by have:=Hj.out;omega,by go_num,hO4,hU4⟩
       case measure=>simp[intOf];omega
     · have hjI:¬(j:Int)<16:=by omega
       obtain rfl:k=3:=by have:=Hj.out;omega
       clear Hj
       go_wp2_with fail
       have hR:Own wr w.heap.size 5 (some ⟨g,0,none⟩) c1 ((clamp (key.take 16)).map by8):=hO
       have hRl:(clamp (key.take 16)).length=16:=Hzl.out
       have hE:Ext w wr:=Upd.fresh hU hU1 (fun i hi=>by unfold only at hi;omega)
       clear hO Hzl hU hU1 hk hjI hl2 hg1 hg0
       refine(prime_any wr).mono ?_
       rintro e w2 ⟨A2,l2,c2,rfl,hV2,hU2⟩
       replace hE:=hE.trans hU2
       replace hR:=hR.ext hU2
       clear hU2
       go_wp2_with fail
       refine(mnew_yes _ P130 10 _ hV2 (show P130<W32^10 by decide+kernel) (by omega) (by decide+kernel)).mono ?_
       rintro e w3 ⟨g3,rfl,hR3,hg3,hU3⟩
       replace hE:=hE.trans hU3
       replace hR:=hR.ext hU3
       clear hU3 hV2 hg3
       go_wp2_with fail
       refine(low_any _ 16 c1 (clamp (key.take 16)) _ hRl (by omega) (hR.ext ((Upd.refl _ _).alloc _)).sl).mono ?_
       rintro e w4 ⟨A4,l4,c4,rfl,hV4,hU4⟩
       have b9:Box w4 w3.heap.size 77 (.pointer (some ⟨g3,0,none⟩)):=(Box.new _ _ _).ext hU4
       replace hE:=(hE.alloc _).trans hU4
       replace hR3:=hR3.ext (((Upd.refl _ _).alloc _).trans hU4)
       obtain⟨G3,hG3⟩:∃G,G=w3.heap.size:=⟨_,rfl⟩
       rw[←hG3]at b9 ⊢
       clear hU4 hR hRl hG3
       go_wp2_with (go_at_call 122;refine(callsIn_wide (n:=3)).1 ((chunk_in 3 _ _ _ _).mono ?_);rintro e w' ⟨rfl,rfl⟩)
       obtain⟨G,hG⟩:∃G,G=w4.heap.size:=⟨_,rfl⟩
       obtain⟨W0,hW0⟩:∃W0,W0=((((w4.alloc (.cells #[.slice none 0 0] 33)).alloc (.cells #[.slice A4 l4 c4] 33)).alloc (.cells #[.slice B nb cb] 23)).alloc (.cells #[.int .i64 16] 3)):=⟨_,rfl⟩
       have hz0:W0.heap.size=G+1+1+1+1:=by rw[hW0,hG];simp
       have b11:Box W0 G 33 (.slice none 0 0):=by rw[hW0,hG];exact(((Box.new _ _ _).alloc _).alloc _).alloc _
       have b12:Box W0 (G+1) 33 (.slice A4 l4 c4):=by rw[hW0,hG];exact((Box.new_at (by simp)).alloc _).alloc _
       have bT:Box W0 (G+1+1) 23 (.slice B nb cb):=by rw[hW0,hG];exact(Box.new_at (by simp)).alloc _
       have bN:Box W0 (G+1+1+1) 3 (.int .i64 16):=by rw[hW0,hG];exact Box.new_at (by simp)
       have hE4:Ext w4 W0:=by rw[hW0];exact(by repeat (first | (with_reducible exact Upd.refl _ _) | (with_reducible assumption) | (refine Upd.setCell ?_ (.inr (by first | exact Nat.le_refl _ | (dsimp only;omega) | (simp;done) | (simp;omega))) _) | (with_reducible refine Upd.alloc ?_ _) | (with_reducible refine Upd.drew ?_) | (with_reducible refine Upd.trans ?_ (by with_reducible assumption))))
       have hws:w.heap.size≤G:=by rw[hG];exact hE.size
       have hG3:G3<G:=by rw[hG];exact b9.lt
       replace b9:=b9.ext hE4
       replace hE:=hE.trans hE4
       replace hR3:=hR3.ext hE4
       replace hV4:=hV4.ext hE4
       rw[←hW0,←hG]
       clear hW0 hG hE4
       obtain⟨r,hr⟩:∃r,r=leN (clamp (key.take 16)):=⟨_,rfl⟩
       rw[←hr]at hV4
       have Hr:Hid (Fit 10 r):=hide (by
        rw[hr]
        have h:=ofB_lt (clamp (key.take 16)).reverse
        have h2:(clamp (key.take 16)).reverse.length≤40:=by rw[List.length_reverse,clamp_length,List.length_take];omega
        exact Nat.lt_of_lt_of_le h (Nat.le_trans (Nat.pow_le_pow_right (by decide) h2) (by decide+kernel)))
       have Hr2:=hide hr
       clear hr
       have Hz0:=hide hz0
       clear hz0
       refine wp_range (chv B nb) (fun k=>k=G+1+1∨k=G+1+1+1) (chn nb) (Fk (chn nb)) rfl (enters_of Try.func130 (by kernel_rfl) rfl)
         (chunk_stops 2 (by omega) (G+1+1) (G+1+1+1) _ B nb cb (by omega) hcb W0 (.inl rfl) (.inr rfl) (by rw[Hz0.out];omega) (by rw[Hz0.out];omega) bT.cell bN.cell) (fun i hi=>by rw[Hz0.out];omega) (fun _=>rfl)
         (fun pre W=>TagI b G G3 g3 A4 l4 c4 r (chn nb) pre W∧Below w.heap.size w W) ?hI ?h0 ?hb ?done
       case hI=>exact OwnFrom.and (_root_.Go.Own.from TagI.own _) (ownFrom_below (Nat.le_refl _) (by rw[Hz0.out];omega))
       case h0=>exact⟨⟨⟨none,0,0,0,b11,NatV.nil _,by decide+kernel,fun _=>rfl⟩,b9,b12,hR3,hV4,by rw[Hz0.out];omega⟩,hE.below⟩
       case hb=>
        apply Exists.intro
        refine And.intro (fun l x W K hK=>?_) (fun l pre x W hi hpl=>?_)
        · dsimp only[chv]
          gi_wp2
          exact hK
        · obtain⟨⟨⟨Aa,la,ca,a,hba,hVa,hap,hrel⟩,b9,b12,hR3,hV4,hsz⟩,hBl⟩:=hi
          have hx:=x.2
          have hE:Ext w W:=ext_of_below hBl
          obtain⟨n,hn⟩:∃n,n=chl nb x.1:=⟨_,rfl⟩
          have hn1:1≤n∧n≤16:=by rw[hn];unfold chl;unfold chn at hx;omega
          obtain⟨p,hp⟩:∃p,p=(b.drop (16*x.1)).take 16:=⟨_,rfl⟩
          have hpl2:p.length=n:=by rw[hp,hn,List.length_take,List.length_drop,Hb.out];rfl
          obtain⟨C,hC⟩:∃C,C=shA B (16*x.1+n) (16*x.1):=⟨_,rfl⟩
          have hS:Sl by8 W C p:=by
           have h:=((HB.out.ext hE).shA (c:=nb+16*x.1+1) (k:=16*x.1) (by rw[Hb.out];omega)).take 16
           have h2:shA B (nb+16*x.1+1) (16*x.1)=C:=by
            rw[hC];unfold shA;rw[if_neg (by omega),if_neg (by omega)]
           rw[h2,←hp]at h
           exact h
          rw[←hn,←hC]
          have Hrel:=hide hrel
          have Hp:=hide hp
          have Hp2:=hide hpl2
          have HS:=hide hS
          clear hrel hn hp hpl2 hC hS
          have k9:=fun y:Wd (Ext W.drew)=>(y.ok.cell (p:=⟨G3,0,none⟩) b9.drew.lt (fun h=>h)).trans b9.drew.cell
          have k11:=fun y:Wd (Ext W.drew)=>(y.ok.cell (p:=⟨G,0,none⟩) hba.drew.lt (fun h=>h)).trans hba.drew.cell
          have k12:=fun y:Wd (Ext W.drew)=>(y.ok.cell (p:=⟨G+1,0,none⟩) b12.drew.lt (fun h=>h)).trans b12.drew.cell
          gi_wp2
          refine wpIn_region_tree (Ext _) 10 (.q 0 (.q 1 (.q 2 (.q 8 (.two 3 4 (.l 4 (.l 5 (.l 6 (.l 7 (.l 9 .done))))) (.l 3 (.l 5 (.l 6 (.l 7 (.l 9 .done)))))))))) (by kernel_rfl) (by kernel_rfl) (by kernel_rfl) (Upd.refl _ _) (fun hne=>?_)
          repeat (refine tree_q rfl (fun K hK=>?_);go_simp;refine hK _ ?_;clear hK K)
          refine tree_two rfl rfl ?_ ?_
          · go_wp2_with fail
            refine(clone_any C n n p _ Hp2.out (by omega) (HS.out.ext (Upd.refl _ _).drew)).mono ?_
            rintro e w5 ⟨A5,c5,rfl, -,hO5,hU5⟩
            go_wp2_with fail
            refine⟨_,fun _ h=>h,⟨⟨_,hU5⟩,rfl⟩,?_⟩
            repeat (refine tree_q rfl (fun K hK=>?_);go_simp;refine hK _ ?_;clear hK K)
            refine tree_l rfl ?_
            go_wp2_with fail
            refine⟨_,fun _ h=>h,⟨⟨_,(hU5.alloc _)⟩,rfl⟩,?_⟩
            repeat (refine tree_q rfl (fun K hK=>?_);go_simp;refine hK _ ?_;clear hK K)
            have hS1:Sl by8 (w5.alloc (.cells #[.int .u8 1] 5)) (some ⟨w5.heap.size,0,none⟩) [(1:BitVec 8)]:=Sl.new_at by8 [(1:BitVec 8)] (by simp) rfl
            have hU6:=hU5.alloc (.cells #[.int .u8 1] 5)
            have hO6:=hO5.ext ((Upd.refl _ _).alloc (.cells #[.int .u8 1] 5))
            generalize w5.alloc (.cells #[.int .u8 1] 5)=w6 at hS1 hU6 hO6 ⊢
            clear hO5
            refine tree_l rfl ?_
            refine wpList_apd by8 one8 Try.n_el8 p [(1:BitVec 8)] (p++[1]) (n+1) rfl (by rw[List.length_append,Hp2.out];rfl) (by omega) (by unfold maxLen;omega) rfl rfl rfl Hp2.out hO6 rfl rfl hS1 (hU6.size) ?_
            intro A7 c7 w7 hO7 hU7 hin7
            have hU7':Ext W.drew w7:=Upd.fresh hU7 hU6 (fun k hk=>(hO6.in_ hk).1)
            clear hin7 hU7 hO6 hS1 hU6
            go_wp2_with fail
            refine⟨_,fun _ h=>h,⟨⟨_,hU7'⟩,rfl⟩,?_⟩
            repeat (refine tree_q rfl (fun K hK=>?_);go_simp;refine hK _ ?_;clear hK K)
            refine tree_l rfl ?_
            go_wp2_with (refine(low_any A7 (n+1) c7 (p++[1]) _ (by rw[List.length_append,Hp2.out];rfl) (by omega) hO7.sl).mono ?_;rintro e w8 ⟨A8,l8,c8,rfl,hV8,hU8⟩)
            refine⟨_,fun _ h=>h,⟨⟨_,(hU7'.trans hU8)⟩,rfl⟩,?_⟩
            repeat (refine tree_q rfl (fun K hK=>?_);go_simp;refine hK _ ?_;clear hK K)
            replace hU8:=hU7'.trans hU8
            clear hO7 hU7'
            have hF8:Fit 6 (leN (p++[1])):=by
             have h:=ofB_lt (p++[1]).reverse
             have h2:(p++[(1:BitVec 8)]).reverse.length≤24:=by rw[List.length_reverse,List.length_append,Hp2.out];simp;omega
             exact Nat.lt_of_lt_of_le h (Nat.le_trans (Nat.pow_le_pow_right (by decide) h2) (by decide+kernel))
            have hFa:Fit 6 a:=Nat.lt_trans hap (by decide+kernel)
            refine tree_l rfl ?_
            go_wp2_with (refine(add_any _ _ a (leN (p++[1])) 6 _ (hVa.ext hU8.undrew) hV8 hFa hF8 (by omega)).mono ?_;rintro e w9 ⟨A9,l9,c9,rfl,hV9,hU9⟩)
            refine⟨_,fun _ h=>h,⟨⟨_,(hU8.trans hU9)⟩,rfl⟩,?_⟩
            repeat (refine tree_q rfl (fun K hK=>?_);go_simp;refine hK _ ?_;clear hK K)
            replace hU9:=hU8.trans hU9
            clear hU8 hV8
            have hF9:=(Fit.add hFa hF8).mono (show 6+1≤10 by omega)
            refine tree_l rfl ?_
            go_wp2_with (refine(mmul_any _ _ g3 (a+leN (p++[1])) r P130 10 _ (hR3.ext hU9.undrew) hV9 (hV4.ext hU9.undrew) hF9 Hr.out (show P130<W32^10 by decide+kernel) (by omega)).mono ?_;rintro e w10 ⟨A10,l10,c10,rfl,hV10,hU10⟩)
            refine⟨_,fun _ h=>h,⟨⟨_,(hU9.trans hU10)⟩,rfl⟩,?_⟩
            repeat (refine tree_q rfl (fun K hK=>?_);go_simp;refine hK _ ?_;clear hK K)
            replace hU10:=(hU9.trans hU10).undrew
            clear hU9 hV9 hF9 hFa hF8
            refine tree_done ?_
            try simp only[List.drop_succ_cons,List.drop_zero]
            replace hba:=hba.ext hU10
            have cba:=hba.cell
            have fba:=hba.frozen
            go_wp2_with fail
            have hGW:W.grownBy w10 none:=⟨hU10.os,hU10.tape,hU10.output,hU10.size,fun k hk _=>hU10.block k hk (fun h=>h)⟩
            have hU11:Upd (only G) W (w10.setCell ⟨G,0,none⟩ (.slice A10 l10 c10)):=(show Upd (only G) W w10 from Upd.ofExt hU10).setCell (p:=⟨G,0,none⟩) (.inl rfl) _
            refine⟨(KeepsFrom.of_grownBy hGW (fun j e=>by cases e)).trans ((KeepsOthers.setCell _ _ _).from _),(show Kept _ W w10 from fun k hk=>hU10.block k (by omega) (fun h=>h)).t (Kept.setCell (p:=⟨G,0,none⟩) (fun h=>by simp at h;omega) _),⟨⟨_,_,_,_,hba.set _,hV10.far cba,Nat.mod_lt _ (by decide+kernel),fun hf=>?_⟩,b9.upd hU11 (fun h=>by unfold only at h;omega),b12.upd hU11 (fun h=>by unfold only at h;omega),(hR3.ext hU10).far hba _,(hV4.ext hU10).far cba,Nat.lt_of_lt_of_le hsz hU11.size⟩,(hBl.grown hGW hBl.size (fun k e=>by cases e)).setCell (p:=⟨G,0,none⟩) hws _⟩
            obtain⟨j0,hj0,hfj,hxj⟩:=hf.last
            have e1:(pre++[x]).length=pre.length+1:=by simp
            obtain rfl:j0=pre.length:=by omega
            rw[e1,Hrel.out hfj,tacc,Hp.out,hxj]
          · go_wp2_with fail
            refine⟨_,fun _ h=>h,⟨⟨_,((Upd.refl _ W.drew).alloc (.cells #[.int .u8 1] 5))⟩,rfl⟩,?_⟩
            repeat (refine tree_q rfl (fun K hK=>?_);go_simp;refine hK _ ?_;clear hK K)
            have hU4:Ext W.drew (W.drew.alloc (.cells #[.int .u8 1] 5)):=(Upd.refl _ W.drew).alloc (.cells #[.int .u8 1] 5)
            have hS4:Sl by8 (W.drew.alloc (.cells #[.int .u8 1] 5)) (some ⟨W.drew.heap.size,0,none⟩) [(1:BitVec 8)]:=Sl.new_at by8 [(1:BitVec 8)] (by simp) rfl
            refine tree_l rfl ?_
            go_wp2_with (refine(clone_any C n n p _ Hp2.out (by omega) (HS.out.ext ((Upd.refl _ _).drew.trans hU4))).mono ?_;rintro e w6 ⟨A5,c5,rfl, -,hO5,hU5⟩)
            refine⟨_,fun _ h=>h,⟨⟨_,(hU4.trans hU5)⟩,rfl⟩,?_⟩
            repeat (refine tree_q rfl (fun K hK=>?_);go_simp;refine hK _ ?_;clear hK K)
            have hU6:=hU4.trans hU5
            have hO6:=hO5.mono (hU4.size)
            have hS1:=hS4.ext hU5
            clear hO5 hU4 hS4 hU5
            refine tree_l rfl ?_
            refine wpList_apd by8 one8 Try.n_el8 p [(1:BitVec 8)] (p++[1]) (n+1) rfl (by rw[List.length_append,Hp2.out];rfl) (by omega) (by unfold maxLen;omega) rfl rfl rfl Hp2.out hO6 rfl rfl hS1 (hU6.size) ?_
            intro A7 c7 w7 hO7 hU7 hin7
            have hU7':Ext W.drew w7:=Upd.fresh hU7 hU6 (fun k hk=>(hO6.in_ hk).1)
            clear hin7 hU7 hO6 hS1 hU6
            go_wp2_with fail
            refine⟨_,fun _ h=>h,⟨⟨_,hU7'⟩,rfl⟩,?_⟩
            repeat (refine tree_q rfl (fun K hK=>?_);go_simp;refine hK _ ?_;clear hK K)
            refine tree_l rfl ?_
            go_wp2_with (refine(low_any A7 (n+1) c7 (p++[1]) _ (by rw[List.length_append,Hp2.out];rfl) (by omega) hO7.sl).mono ?_;rintro e w8 ⟨A8,l8,c8,rfl,hV8,hU8⟩)
            refine⟨_,fun _ h=>h,⟨⟨_,(hU7'.trans hU8)⟩,rfl⟩,?_⟩
            repeat (refine tree_q rfl (fun K hK=>?_);go_simp;refine hK _ ?_;clear hK K)
            replace hU8:=hU7'.trans hU8
            clear hO7 hU7'
            have hF8:Fit 6 (leN (p++[1])):=by
             have h:=ofB_lt (p++[1]).reverse
             have h2:(p++[(1:BitVec 8)]).reverse.length≤24:=by rw[List.length_reverse,List.length_append,Hp2.out];simp;omega
             exact Nat.lt_of_lt_of_le h (Nat.le_trans (Nat.pow_le_pow_right (by decide) h2) (by decide+kernel))
            have hFa:Fit 6 a:=Nat.lt_trans hap (by decide+kernel)
            refine tree_l rfl ?_
            go_wp2_with (refine(add_any _ _ a (leN (p++[1])) 6 _ (hVa.ext hU8.undrew) hV8 hFa hF8 (by omega)).mono ?_;rintro e w9 ⟨A9,l9,c9,rfl,hV9,hU9⟩)
            refine⟨_,fun _ h=>h,⟨⟨_,(hU8.trans hU9)⟩,rfl⟩,?_⟩
            repeat (refine tree_q rfl (fun K hK=>?_);go_simp;refine hK _ ?_;clear hK K)
            replace hU9:=hU8.trans hU9
            clear hU8 hV8
            have hF9:=(Fit.add hFa hF8).mono (show 6+1≤10 by omega)
            refine tree_l rfl ?_
            go_wp2_with (refine(mmul_any _ _ g3 (a+leN (p++[1])) r P130 10 _ (hR3.ext hU9.undrew) hV9 (hV4.ext hU9.undrew) hF9 Hr.out (show P130<W32^10 by decide+kernel) (by omega)).mono ?_;rintro e w10 ⟨A10,l10,c10,rfl,hV10,hU10⟩)
            refine⟨_,fun _ h=>h,⟨⟨_,(hU9.trans hU10)⟩,rfl⟩,?_⟩
            repeat (refine tree_q rfl (fun K hK=>?_);go_simp;refine hK _ ?_;clear hK K)
            replace hU10:=(hU9.trans hU10).undrew
            clear hU9 hV9 hF9 hFa hF8
            refine tree_done ?_
            try simp only[List.drop_succ_cons,List.drop_zero]
            replace hba:=hba.ext hU10
            have cba:=hba.cell
            have fba:=hba.frozen
            go_wp2_with fail
            have hGW:W.grownBy w10 none:=⟨hU10.os,hU10.tape,hU10.output,hU10.size,fun k hk _=>hU10.block k hk (fun h=>h)⟩
            have hU11:Upd (only G) W (w10.setCell ⟨G,0,none⟩ (.slice A10 l10 c10)):=(show Upd (only G) W w10 from Upd.ofExt hU10).setCell (p:=⟨G,0,none⟩) (.inl rfl) _
            refine⟨(KeepsFrom.of_grownBy hGW (fun j e=>by cases e)).trans ((KeepsOthers.setCell _ _ _).from _),(show Kept _ W w10 from fun k hk=>hU10.block k (by omega) (fun h=>h)).t (Kept.setCell (p:=⟨G,0,none⟩) (fun h=>by simp at h;omega) _),⟨⟨_,_,_,_,hba.set _,hV10.far cba,Nat.mod_lt _ (by decide+kernel),fun hf=>?_⟩,b9.upd hU11 (fun h=>by unfold only at h;omega),b12.upd hU11 (fun h=>by unfold only at h;omega),(hR3.ext hU10).far hba _,(hV4.ext hU10).far cba,Nat.lt_of_lt_of_le hsz hU11.size⟩,(hBl.grown hGW hBl.size (fun k e=>by cases e)).setCell (p:=⟨G,0,none⟩) hws _⟩
            obtain⟨j0,hj0,hfj,hxj⟩:=hf.last
            have e1:(pre++[x]).length=pre.length+1:=by simp
            obtain rfl:j0=pre.length:=by omega
            rw[e1,Hrel.out hfj,tacc,Hp.out,hxj]
       case done=>
        rintro D ys W hD hF ⟨⟨⟨Aa,la,ca,a,hba,hVa,hap,hrel⟩,b9,b12,hR3,hV4,hsz⟩,hBl⟩ hK
        have hE1:Ext w W:=ext_of_below hBl
        have hat:a=tacc r b (chn nb):=by rw[hrel (by rw[hF.length];exact hF),hF.length]
        have Hat:=hide hat
        have hs2:∀w,(Instr.sliceAt 23 (.slice A 32 c) (some (.int .i64 16)) none none).run Try.prog w=.ok (.slice (shA A c 16) 16 (c - 16)) w:=fun w=>run_cut_l Try.n_el8.under Try.n_sz8 A 32 c 16 .i64 (by omega) w
        have hS2:=(HK.out.ext hE1).shA (c:=c) (k:=16) (by rw[Hk.out];exact hc)
        have hS2l:(key.drop 16).length=16:=by rw[List.length_drop,Hk.out]
        have k11:=fun y:Wd (Ext W.drew)=>(y.ok.cell (p:=⟨G,0,none⟩) hba.drew.lt (fun h=>h)).trans hba.drew.cell
        have HS2:=hide hS2
        have HS2l:=hide hS2l
        have hF4:leN (key.drop 16)<256^16:=by
         have h:=ofB_lt (key.drop 16).reverse
         rw[List.length_reverse,hS2l]at h
         exact h
        have hFa:Fit 5 a:=Nat.lt_trans hap (by decide+kernel)
        have hFb:Fit 5 (leN (key.drop 16)):=Nat.lt_trans hF4 (by decide+kernel)
        have hab:a+leN (key.drop 16)<256^18:=Nat.lt_of_lt_of_le (Nat.add_lt_add hap hF4) (by decide+kernel)
        have HF4:=hide hF4
        have Hab:=hide hab
        clear hat hrel hS2 hS2l hF4 hab b9 b12 hR3 hV4 hsz hap
        go_wp2_with fail
        refine wp_region_plan (Ext _) 10 [(false,0),(false,1),(false,2),(true,3),(true,4),(true,5),(false,6),(false,7),(false,8),(false,9)] (by kernel_rfl) (by kernel_rfl) (Upd.refl _ _) (fun hne=>?_)
        repeat (refine head_q rfl (fun K hK=>?_);have hK2:=hide hK;clear hK;go_simp;refine hK2.out _ ?_;clear hK2 K)
        refine head_l rfl ?_
        go_wp2_with (refine(low_any (shA A c 16) 16 (c - 16) (key.drop 16) _ HS2l.out (by omega) (HS2.out.ext (Upd.refl _ _).drew)).mono ?_;rintro e w5 ⟨A5,l5,c5,rfl,hV5,hU5⟩)
        refine⟨Cls (Ext _),fun _ h=>h,⟨⟨_,hU5⟩,rfl⟩,?_⟩
        repeat (refine head_q rfl (fun K hK=>?_);have hK2:=hide hK;clear hK;go_simp;refine hK2.out _ ?_;clear hK2 K)
        refine head_l rfl ?_
        go_wp2_with (refine(add_any _ _ a (leN (key.drop 16)) 5 _ (hVa.ext hU5.undrew) hV5 hFa hFb (by omega)).mono ?_;rintro e w6 ⟨A6,l6,c6,rfl,hV6,hU6⟩)
        refine⟨Cls (Ext _),fun _ h=>h,⟨⟨_,(hU5.trans hU6)⟩,rfl⟩,?_⟩
        repeat (refine head_q rfl (fun K hK=>?_);have hK2:=hide hK;clear hK;go_simp;refine hK2.out _ ?_;clear hK2 K)
        replace hU6:=hU5.trans hU6
        clear hU5 hV5
        refine head_l rfl ?_
        go_wp2_with (refine(bytes_any _ (a+leN (key.drop 16)) 6 18 _ hV6 (Fit.add hFa hFb) (by omega) (bytelen_le_iff.2 Hab.out) (by omega)).mono ?_;rintro e w7 ⟨A7,c7,rfl,hl7,hO7,hU7⟩)
        refine⟨Cls (Ext _),fun _ h=>h,⟨⟨_,(hU6.trans hU7)⟩,rfl⟩,?_⟩
        repeat (refine head_q rfl (fun K hK=>?_);have hK2:=hide hK;clear hK;go_simp;refine hK2.out _ ?_;clear hK2 K)
        have hU7':=(hU6.trans hU7).undrew
        have hD7:=hK
        have hsz6:=hU6.undrew.size
        clear hU6 hU7 hV6 k11 hFa hFb
        refine head_nil ?_
        try simp only[List.drop_succ_cons,List.drop_zero]
        go_wp2_with fail
        refine(rev_any A7 18 c7 _ _ _ hl7 (by omega) hO7).mono ?_
        rintro e w8 ⟨rfl,hO8,hU8⟩
        have hE8:Ext W w8:=Upd.fresh hU8 hU7' (fun k hk=>Nat.le_trans hsz6 (hO7.in_ hk).1)
        have hs3:∀w,(Instr.sliceAt 23 (.slice A7 18 c7) none (some (.int .i64 16)) (some (.int .i64 16))).run Try.prog w=.ok (.slice A7 16 16) w:=fun w=>run_cut_hm Try.n_el8.under Try.n_sz8 A7 18 c7 16 16 .i64 .i64 (by omega) (by have:=hO7.cap.1;rw[List.length_map,hl7]at this;omega) w
        clear hO7 hU8 hU7'
        go_wp2_with fail
        have hK8:w8.heap[D]? =some (.deferred (some [])):=(hE8.block D (Array.getElem?_eq_some_iff.1 hK).1 (fun h=>h)).trans hK
        refine⟨by simp,.inl ⟨_,_,rfl,run_takeDeferred hK8,?_⟩⟩
        have hgr:=grownBy_putObj' w8 D (.deferred none)
        have hrow:∀r,some D=some r→∃o:Obj,w8.heap[r]? =some o∧o.isCells=false:=fun r e=>by cases e;exact⟨_,hK8,rfl⟩
        obtain⟨g7,rfl, -, -⟩:=hO8.open_ (by rw[List.length_map,List.length_reverse,hl7];omega)
        have hO9:=(own_kept hO8 hgr hrow).sl.take 16
        refine⟨.tuple #[.slice (some ⟨g7,0,none⟩) 16 16,.int .i64 0],by simp[results,Try.f100,go_sem],some ⟨g7,0,none⟩,rfl,?_,(hE1.trans hE8).grown hgr (fun k e=>by injection e with e;rw[Hz0.out]at hD;exact .inr (by omega))⟩
        rw[Hat.out,Hr2.out,show chn nb=chn b.length by rw[Hb.out]]at hO9
        exact hO9
end
end Go.Proofs.Ytbhhjfhepkbfgaa
