/- Merged: GrpK GrpE GrpF. -/
import Derived.Test.YtbhhjfhepkbfgaaGnGrpD
namespace Go.Proofs.Ytbhhjfhepkbfgaa
set_option linter.unusedSimpArgs false
set_option linter.unusedVariables false
/- The second bases of the three groups, reckoned by the kernel. -/
section
open Go.RowKit
open Sha
open Mac Pk Nt
def gPrkIn :List (BitVec 8):=[0xe7,0x2b,0xbd,0x4d,0x42,0x9a,0xc9,0x14,0xa8,0xa6,0xc5,0xbd,0x49,0x63,0x2f,0xf6,0xb0,0x0d,0x4f,0xef,0x42,0xaf,0xb4,0x43,0xf0,0xb8,0x04,0x7d,0xf0,0x6c,0x85,0xd2]
def gPrk :List (BitVec 8):=[0xb6,0x13,0x67,0x9a,0x08,0x14,0xd9,0xec,0x77,0x2f,0x95,0xd7,0x78,0xc3,0x5f,0xc5,0xff,0x16,0x97,0xc4,0x93,0x71,0x56,0x53,0xc6,0xc7,0x12,0x14,0x42,0x92,0xc5,0xad]
theorem gPrk_kb :kb []=[]:=by unfold kb;rw[if_neg (by decide)]
theorem gPrk_inner :inner [] []=gPrkIn:=
 sum_is _ _ [54,54,54,54,54,54,54,54,54,54,54,54,54,54,54,54,54,54,54,54,54,54,54,54,54,54,54,54,54,54,54,54,54,54,54,54,54,54,54,54,54,54,54,54,54,54,54,54,54,54,54,54,54,54,54,54,54,54,54,54,54,54,54,54,128,0,0,0,0,0,0,0,0,0,0,0,0,0,0,0,0,0,0,0,0,0,0,0,0,0,0,0,0,0,0,0,0,0,0,0,0,0,0,0,0,0,0,0,0,0,0,0,0,0,0,0,0,0,0,0,0,0,0,0,0,0,2,0] _ (by unfold padk;rw[gPrk_kb];decide+kernel) rfl (by decide+kernel)
theorem gPrk_tag :tag [] []=gPrk:=by
 unfold tag
 rw[gPrk_inner]
 exact sum_is _ _ [92,92,92,92,92,92,92,92,92,92,92,92,92,92,92,92,92,92,92,92,92,92,92,92,92,92,92,92,92,92,92,92,92,92,92,92,92,92,92,92,92,92,92,92,92,92,92,92,92,92,92,92,92,92,92,92,92,92,92,92,92,92,92,92,231,43,189,77,66,154,201,20,168,166,197,189,73,99,47,246,176,13,79,239,66,175,180,67,240,184,4,125,240,108,133,210,128,0,0,0,0,0,0,0,0,0,0,0,0,0,0,0,0,0,0,0,0,0,0,0,0,0,0,0,0,0,3,0] _ (by unfold padk;rw[gPrk_kb];decide+kernel) rfl (by decide+kernel)
def gT1In :List (BitVec 8):=[0x7c,0x50,0x8a,0x41,0xb5,0x0a,0xee,0xe4,0xdd,0xcb,0x55,0x95,0x4f,0x6f,0x13,0x11,0x07,0xe9,0xf7,0x2c,0x3a,0x12,0x7c,0xe6,0xb9,0x6c,0x3b,0x4d,0x4d,0x43,0xe2,0x04]
def gT1 :List (BitVec 8):=[0x16,0x09,0x5e,0x60,0x89,0xc9,0x84,0x87,0x0c,0xd7,0x61,0xa5,0x77,0xad,0x54,0xc1,0x31,0x03,0x0a,0x9a,0x0c,0x90,0x45,0xac,0x95,0xb1,0xe0,0xe6,0x0d,0xfd,0x79,0x72]
theorem gT1_kb :kb gPrk=gPrk:=by unfold kb;rw[if_neg (by decide)]
theorem gT1_inner :inner gPrk [104,0,1]=gT1In:=
 sum_is _ _ [128,37,81,172,62,34,239,218,65,25,163,225,78,245,105,243,201,32,161,242,165,71,96,101,240,241,36,34,116,164,243,155,54,54,54,54,54,54,54,54,54,54,54,54,54,54,54,54,54,54,54,54,54,54,54,54,54,54,54,54,54,54,54,54,104,0,1,128,0,0,0,0,0,0,0,0,0,0,0,0,0,0,0,0,0,0,0,0,0,0,0,0,0,0,0,0,0,0,0,0,0,0,0,0,0,0,0,0,0,0,0,0,0,0,0,0,0,0,0,0,0,0,0,0,0,0,2,24] _ (by unfold padk;rw[gT1_kb];decide+kernel) rfl (by decide+kernel)
theorem gT1_tag :tag gPrk [104,0,1]=gT1:=by
 unfold tag
 rw[gT1_inner]
 exact sum_is _ _ [234,79,59,198,84,72,133,176,43,115,201,139,36,159,3,153,163,74,203,152,207,45,10,15,154,155,78,72,30,206,153,241,92,92,92,92,92,92,92,92,92,92,92,92,92,92,92,92,92,92,92,92,92,92,92,92,92,92,92,92,92,92,92,92,124,80,138,65,181,10,238,228,221,203,85,149,79,111,19,17,7,233,247,44,58,18,124,230,185,108,59,77,77,67,226,4,128,0,0,0,0,0,0,0,0,0,0,0,0,0,0,0,0,0,0,0,0,0,0,0,0,0,0,0,0,0,3,0] _ (by unfold padk;rw[gT1_kb];decide+kernel) rfl (by decide+kernel)
theorem gExp_T1 (n:Nat) (h:n≤32):expand gPrk [104,BitVec.ofNat 8 0] n=gT1.take n:=by
 rw[←parts_take gPrk [104,BitVec.ofNat 8 0] 1 n (by omega)]
 have:parts gPrk [104,BitVec.ofNat 8 0] 1=gT1:=by
  show []++tag gPrk ([]++[104,BitVec.ofNat 8 0]++[BitVec.ofNat 8 (0+1)])=gT1
  rw[List.nil_append]
  exact gT1_tag
 rw[this]
theorem gTry0 :hTry 607 6 [] 0=597:=by
 unfold hTry
 rw[gPrk_tag,show byteSz 607=2 by decide+kernel,gExp_T1 _ (by decide)]
 rw[show ofB (gT1.take (2+8)) % 607=323 by decide+kernel,pow_is 8 (by decide)]
 decide+kernel
theorem gTry1 :hTry 655211 10 [] 0=96520:=by
 unfold hTry
 rw[gPrk_tag,show byteSz 655211=3 by decide+kernel,gExp_T1 _ (by decide)]
 rw[show ofB (gT1.take (3+8)) % 655211=235602 by decide+kernel,pow_is 8 (by decide)]
 decide+kernel
theorem gTry2 :hTry 20752587082923246163 18 [] 0=12833098634328171918:=by
 unfold hTry
 rw[gPrk_tag,show byteSz 20752587082923246163=9 by decide+kernel,gExp_T1 _ (by decide)]
 rw[show ofB (gT1.take (9+8)) % 20752587082923246163=7939214684620079117 by decide+kernel,pow_is 8 (by decide)]
 decide+kernel
/-! ### the three groups -/
def grP (r:Nat):Nat:=if r=0 then 607 else if r=1 then 655211 else 20752587082923246163
def grQ (r:Nat):Nat:=if r=0 then 101 else if r=1 then 65521 else 1152921504606847009
def grG (r:Nat):Nat:=if r=0 then 64 else if r=1 then 1024 else 262144
def grH (r:Nat):Nat:=if r=0 then 597 else if r=1 then 96520 else 12833098634328171918
def grS (r:Nat):List St:=if r=0 then [] else if r=1 then [⟨655211,2,[65521]⟩] else [⟨1152921504606847009,13,[2,3,11,683,2971]⟩,⟨20752587082923246163,2,[1152921504606847009]⟩]
def vp :Nat→Nat→Nat→Nat
 | 0,_,_=>1
 | f+1,n,p=>if 2≤p∧0<n∧n % p=0 then p*vp f (n / p) p else 1
theorem vp_eq (p:Nat):∀f n,n<2^f→vpow n p=vp f n p
 | 0,n,h=>by
   obtain rfl:n=0:=by omega
   rw[vpow,dif_neg (by omega)];rfl
 | f+1,n,h=>by
   rw[vpow]
   unfold vp
   by_cases hc:2≤p∧0<n∧n % p=0
   · rw[dif_pos hc,if_pos hc,vp_eq p f (n / p) (by
      have h1:n / p≤n / 2:=Nat.div_le_div_left hc.1 (by omega)
      rw[Nat.pow_succ]at h
      omega)]
   · rw[dif_neg hc,if_neg hc]
def okF (N b:Nat) (ps bs:List Nat) (i:Nat):Bool:=
 !hasB (ps.take i) (gat ps i) && (knownB bs (gat ps i) && (decide (2≤gat ps i) && (decide ((N - 1) % gat ps i=0) && decide (Nat.gcd (subm (fpow N 70 b ((N - 1) / gat ps i) 1) 1 N) N=1))))
def holdsF (N b:Nat) (ps bs:List Nat):Bool:=
 decide (2≤N) && (decide (1≤ps.length∧ps.length≤32) && (decide (fpow N 70 b (N - 1) 1=1) && ((List.range ps.length).all (okF N b ps bs) && decide (N<prodL (ps.map (vp 70 (N - 1)))*prodL (ps.map (vp 70 (N - 1)))))))
theorem holdsF_eq {N:Nat} (hN:N<2^70) (b:Nat) (ps bs:List Nat):holdsB N b ps bs=holdsF N b ps bs:=by
 have h1:b^(N - 1) % N=fpow N 70 b (N - 1) 1:=pow_is 70 (by omega)
 have h2:okP N b ps bs=okF N b ps bs:=by
  funext i
  unfold okP okF
  have:(N - 1) / gat ps i<2^70:=Nat.lt_of_le_of_lt (Nat.div_le_self _ _) (by omega)
  rw[pow_is 70 this]
 have h3:facF N ps=prodL (ps.map (vp 70 (N - 1))):=by
  unfold facF
  congr 1
  refine List.map_congr_left fun p _=>vp_eq p 70 (N - 1) (by omega)
 unfold holdsB holdsF
 rw[h1,h2,h3]
set_option maxRecDepth 1000000 in
theorem gChk1 :checkE (grS 1)=0:=by
 show checkE [⟨655211,2,[65521]⟩]=0
 unfold checkE
 rw[if_neg (by decide+kernel),if_pos]
 unfold holdAll holdAll
 rw[holdsF_eq (by decide)]
 decide+kernel
set_option maxRecDepth 1000000 in
theorem gChk2 :checkE (grS 2)=0:=by
 show checkE [⟨1152921504606847009,13,[2,3,11,683,2971]⟩,⟨20752587082923246163,2,[1152921504606847009]⟩]=0
 unfold checkE
 rw[if_neg (by decide+kernel),if_pos]
 unfold holdAll holdAll holdAll
 rw[holdsF_eq (by decide),holdsF_eq (by decide)]
 decide+kernel
theorem primeB_small {n:Nat} {ss:List St} (h:smallB n=true):primeB n ss=true:=by unfold primeB;rw[h];rfl
theorem primeB_step {n:Nat} {ss:List St} (h:checkE ss=0) (ha:(ss.any fun s=>s.N == n)=true):primeB n ss=true:=by unfold primeB;rw[decide_eq_true h,ha];simp
theorem gPrime (r:Nat) (hr:r<3):primeB (grP r) (grS r)=true∧primeB (grQ r) (grS r)=true:=by
 match r,hr with
 | 0,_=>exact⟨primeB_small (by decide+kernel),primeB_small (by decide+kernel)⟩
 | 1,_=>exact⟨primeB_step gChk1 (by decide+kernel),primeB_small (by decide+kernel)⟩
 | 2,_=>exact⟨primeB_step gChk2 (by decide+kernel),primeB_step gChk2 (by decide+kernel)⟩
set_option maxRecDepth 1000000 in
theorem gMem (r:Nat) (hr:r<3):memB (grP r) (grQ r) (grG r)=true:=by
 match r,hr with
 | 0,_=>unfold memB;rw[pow_is 70 (by decide)];decide+kernel
 | 1,_=>unfold memB;rw[pow_is 70 (by decide)];decide+kernel
 | 2,_=>unfold memB;rw[pow_is 70 (by decide)];decide+kernel
theorem gSmall (r:Nat) (hr:r<3):¬(1024<blen (grP r)∨1024<blen (grQ r)∨1024<blen (grG r)∨128<([]:List (BitVec 8)).length):=by
 match r,hr with
 | 0,_=>decide+kernel
 | 1,_=>decide+kernel
 | 2,_=>decide+kernel
theorem gArgs (r:Nat) (hr:r<3):¬((grP r - 1) % grQ r≠0∨grQ r≤64∨grG r≤1∨grP r≤grG r):=by
 match r,hr with
 | 0,_=>decide+kernel
 | 1,_=>decide+kernel
 | 2,_=>decide+kernel
theorem gFirst (r:Nat) (hr:r<3):hTry (grP r) ((grP r - 1) / grQ r) [] 0=grH r:=by
 match r,hr with
 | 0,_=>exact gTry0
 | 1,_=>exact gTry1
 | 2,_=>exact gTry2
theorem gBig (r:Nat) (hr:r<3):1<grH r:=by
 match r,hr with
 | 0,_=>decide+kernel
 | 1,_=>decide+kernel
 | 2,_=>decide+kernel
theorem gNew (r:Nat) (hr:r<3):newG (grP r) (grQ r) (grG r) [] (grS r)=(0,grH r):=by
 unfold newG
 rw[if_neg (gSmall r hr),if_neg (fun h=>h (gPrime r hr)),if_neg (gArgs r hr),if_neg (fun h=>h (gMem r hr))]
 unfold hFrom
 rw[gFirst r hr,if_pos (gBig r hr)]
 rfl
end
/- The laws' groups: big, the first two of numbers. -/
section
open Go.RowKit
open Nt
attribute [local go_sem] steady steadyUpon Cls same_cell
attribute [local irreducible] wpHead wpTree
def RetNums (w:World) (r:Nat) (As:Option Addr) (ls cs:Nat) (e:Ending) (w':World):Prop:=
 ∃Ap lp cp Aq lq cq Ag lg cg AS n c,e=.returned (.tuple #[.agg #[.slice Ap lp cp,.slice Aq lq cq,.slice Ag lg cg,.slice As ls cs],.slice AS n c])∧NatV w' (.agg #[.slice Ap lp cp]) (grP r)∧NatV w' (.agg #[.slice Aq lq cq]) (grQ r)∧NatV w' (.agg #[.slice Ag lg cg]) (grG r)∧StepL w' AS (grS r)∧(grS r).length=n∧Ext w w'
theorem nat4 {w:World} {g:Nat} {t:TypeId} {s:Value} {n:Nat} {a0 a1 a2 a3 b0 b1 b2 b3:Option Addr} {l0 l1 l2 l3 c0 c1 c2 c3 m0 m1 m2 m3 d0 d1 d2 d3:Nat} (h:NatV w s n) (hb:Blk w g t #[.slice a0 l0 c0,.slice a1 l1 c1,.slice a2 l2 c2,.slice a3 l3 c3]):
 NatV ((((w.setCell ⟨g,0,none⟩ (.slice b0 m0 d0)).setCell ⟨g,1,none⟩ (.slice b1 m1 d1)).setCell ⟨g,2,none⟩ (.slice b2 m2 d2)).setCell ⟨g,3,none⟩ (.slice b3 m3 d3)) s n:=by
 have h1:=h.far (v:=.slice b0 m0 d0) (hb.at 0 rfl)
 have hb1:=hb.set 0 (.slice b0 m0 d0)
 have h2:=h1.far (v:=.slice b1 m1 d1) (hb1.at 1 rfl)
 have hb2:=hb1.set 1 (.slice b1 m1 d1)
 have h3:=h2.far (v:=.slice b2 m2 d2) (hb2.at 2 rfl)
 have hb3:=hb2.set 2 (.slice b2 m2 d2)
 exact h3.far (hb3.at 3 rfl)
theorem blk4 {w:World} {g:Nat} {t:TypeId} {x0 x1 x2 x3:Value} (hb:Blk w g t #[x0,x1,x2,x3]) (v0 v1 v2 v3:Value):Blk ((((w.setCell ⟨g,0,none⟩ v0).setCell ⟨g,1,none⟩ v1).setCell ⟨g,2,none⟩ v2).setCell ⟨g,3,none⟩ v3) g t #[v0,v1,v2,v3]:=
 (((hb.set 0 v0).set 1 v1).set 2 v2).set 3 v3
theorem ext4 {w w':World} {g:Nat} (h:Ext w w') (hg:w.heap.size≤g) (v0 v1 v2 v3:Value):Ext w ((((w'.setCell ⟨g,0,none⟩ v0).setCell ⟨g,1,none⟩ v1).setCell ⟨g,2,none⟩ v2).setCell ⟨g,3,none⟩ v3):=
 (((h.setCell (p:=⟨g,0,none⟩) (.inr hg) v0).setCell (p:=⟨g,1,none⟩) (.inr hg) v1).setCell (p:=⟨g,2,none⟩) (.inr hg) v2).setCell (p:=⟨g,3,none⟩) (.inr hg) v3
set_option maxRecDepth 100000 in
set_option maxHeartbeats 2000000 in
theorem gnums0_any (z:Int) (As:Option Addr) (ls cs:Nat) (w:World) (hz:(IntKind.u64.wrap z).tmod 3=((0:Nat):Int)):
 Calls Try.prog 48 #[.int .i64 z,.slice As ls cs] w (RetNums w 0 As ls cs):=by
 have hz':(IntKind.u64.wrap z).tmod 3=0:=hz
 clear hz
 go_enter Try.func48,Try.ntmps48
 go_wp2_with fail
 refine name_c (fun W hW=>?_)
 have b4:Blk W w.heap.size 49 #[.slice none 0 0,.slice none 0 0,.slice none 0 0,.slice none 0 0]:=by rw[hW];exact Blk.new _ _ _
 have hE:Ext w W:=by rw[hW];exact(Upd.refl _ _).alloc _
 clear hW
 refine(new_any 607 _ (by decide)).mono ?_
 rintro e w1 ⟨A1,l1,c1,rfl,hV1,hU1⟩
 go_wp2_with fail
 refine(new_any 101 _ (by decide)).mono ?_
 rintro e w2 ⟨A2,l2,c2,rfl,hV2,hU2⟩
 go_wp2_with fail
 refine(new_any 64 _ (by decide)).mono ?_
 rintro e w3 ⟨A3,l3,c3,rfl,hV3,hU3⟩
 have hG:=(hU1.trans hU2).trans hU3
 have b4':=b4.ext hG
 have y0:=b4'.at 0 rfl
 have y1:=b4'.at 1 rfl
 have y2:=b4'.at 2 rfl
 have y3:=b4'.at 3 rfl
 have x0:=b4'.frozen 0
 have x1:=b4'.frozen 1
 have x2:=b4'.frozen 2
 have x3:=b4'.frozen 3
 have hVa:=hV1.ext (hU2.trans hU3)
 have hVb:=hV2.ext hU3
 have hN1:=nat4 (b0:=A1) (m0:=l1) (d0:=c1) (b1:=A2) (m1:=l2) (d1:=c2) (b2:=A3) (m2:=l3) (d2:=c3) (b3:=As) (m3:=ls) (d3:=cs) hVa b4'
 have hN2:=nat4 (b0:=A1) (m0:=l1) (d0:=c1) (b1:=A2) (m1:=l2) (d1:=c2) (b2:=A3) (m2:=l3) (d2:=c3) (b3:=As) (m3:=ls) (d3:=cs) hVb b4'
 have hN3:=nat4 (b0:=A1) (m0:=l1) (d0:=c1) (b1:=A2) (m1:=l2) (d1:=c2) (b2:=A3) (m2:=l3) (d2:=c3) (b3:=As) (m3:=ls) (d3:=cs) hV3 b4'
 have hB4:=blk4 b4' (.slice A1 l1 c1) (.slice A2 l2 c2) (.slice A3 l3 c3) (.slice As ls cs)
 have hE4:=ext4 (hE.trans hG) (Nat.le_refl _) (.slice A1 l1 c1) (.slice A2 l2 c2) (.slice A3 l3 c3) (.slice As ls cs)
 clear hV1 hV2 hV3 hU1 hU2 hU3 hVa hVb b4 b4'
 go_wp2_with fail
 have q0:=hB4.at 0 rfl
 have q1:=hB4.at 1 rfl
 have q2:=hB4.at 2 rfl
 have q3:=hB4.at 3 rfl
 refine bodyPost_ret (v:=.tuple #[.agg #[.slice A1 l1 c1,.slice A2 l2 c2,.slice A3 l3 c3,.slice As ls cs],.slice none 0 0]) ?_ rfl ⟨A1,l1,c1,A2,l2,c2,A3,l3,c3,none,0,0,rfl,hN1,hN2,hN3,fun i hi=>absurd hi (by simp[grS]),rfl,hE4⟩
 simp[results,Try.results48,go_sem,q0,q1,q2,q3]
set_option maxRecDepth 100000 in
set_option maxHeartbeats 2000000 in
theorem gnums1_any (z:Int) (As:Option Addr) (ls cs:Nat) (w:World) (hz:(IntKind.u64.wrap z).tmod 3=((1:Nat):Int)):
 Calls Try.prog 48 #[.int .i64 z,.slice As ls cs] w (RetNums w 1 As ls cs):=by
 have hz':(IntKind.u64.wrap z).tmod 3=1:=hz
 clear hz
 go_enter Try.func48,Try.ntmps48
 go_wp2_with fail
 refine name_c (fun W hW=>?_)
 have b4:Blk W w.heap.size 49 #[.slice none 0 0,.slice none 0 0,.slice none 0 0,.slice none 0 0]:=by rw[hW];exact Blk.new _ _ _
 have hE:Ext w W:=by rw[hW];exact(Upd.refl _ _).alloc _
 clear hW
 refine(new_any 655211 _ (by decide)).mono ?_
 rintro e w1 ⟨A1,l1,c1,rfl,hV1,hU1⟩
 go_wp2_with fail
 refine(new_any 65521 _ (by decide)).mono ?_
 rintro e w2 ⟨A2,l2,c2,rfl,hV2,hU2⟩
 go_wp2_with fail
 refine(new_any 1024 _ (by decide)).mono ?_
 rintro e w3 ⟨A3,l3,c3,rfl,hV3,hU3⟩
 go_wp2_with fail
 refine(new_any 655211 _ (by decide)).mono ?_
 rintro e w4 ⟨B1,m1,d1,rfl,hW1,hU4⟩
 go_wp2_with fail
 refine(new_any 2 _ (by decide)).mono ?_
 rintro e w5 ⟨B2,m2,d2,rfl,hW2,hU5⟩
 go_wp2_with fail
 refine(new_any 65521 _ (by decide)).mono ?_
 rintro e w6 ⟨B3,m3,d3,rfl,hW3,hU6⟩
 have hG:=((((hU1.trans hU2).trans hU3).trans hU4).trans hU5).trans hU6
 have b4':=b4.ext hG
 have y0:=b4'.at 0 rfl
 have y1:=b4'.at 1 rfl
 have y2:=b4'.at 2 rfl
 have y3:=b4'.at 3 rfl
 have x0:=b4'.frozen 0
 have x1:=b4'.frozen 1
 have x2:=b4'.frozen 2
 have x3:=b4'.frozen 3
 have hVa:=hV1.ext ((((hU2.trans hU3).trans hU4).trans hU5).trans hU6)
 have hVb:=hV2.ext (((hU3.trans hU4).trans hU5).trans hU6)
 have hVc:=hV3.ext ((hU4.trans hU5).trans hU6)
 have hWa:=hW1.ext (hU5.trans hU6)
 have hWb:=hW2.ext hU6
 have hg6:w.heap.size<w6.heap.size:=Nat.lt_of_lt_of_le b4.lt hG.size
 clear hV1 hV2 hV3 hW1 hW2 hU1 hU2 hU3 hU4 hU5 hU6 b4
 have hE4:=ext4 (hE.trans hG) (Nat.le_refl _) (.slice A1 l1 c1) (.slice A2 l2 c2) (.slice A3 l3 c3) (.slice As ls cs)
 clear hG hE
 go_wp2_with fail
 clear y0 y1 y2 y3 x0 x1 x2 x3
 have hB4:=blk4 b4' (.slice A1 l1 c1) (.slice A2 l2 c2) (.slice A3 l3 c3) (.slice As ls cs)
 have hNa:=nat4 (b0:=A1) (m0:=l1) (d0:=c1) (b1:=A2) (m1:=l2) (d1:=c2) (b2:=A3) (m2:=l3) (d2:=c3) (b3:=As) (m3:=ls) (d3:=cs) hVa b4'
 have hNb:=nat4 (b0:=A1) (m0:=l1) (d0:=c1) (b1:=A2) (m1:=l2) (d1:=c2) (b2:=A3) (m2:=l3) (d2:=c3) (b3:=As) (m3:=ls) (d3:=cs) hVb b4'
 have hNc:=nat4 (b0:=A1) (m0:=l1) (d0:=c1) (b1:=A2) (m1:=l2) (d1:=c2) (b2:=A3) (m2:=l3) (d2:=c3) (b3:=As) (m3:=ls) (d3:=cs) hVc b4'
 have hOa:=nat4 (b0:=A1) (m0:=l1) (d0:=c1) (b1:=A2) (m1:=l2) (d1:=c2) (b2:=A3) (m2:=l3) (d2:=c3) (b3:=As) (m3:=ls) (d3:=cs) hWa b4'
 have hOb:=nat4 (b0:=A1) (m0:=l1) (d0:=c1) (b1:=A2) (m1:=l2) (d1:=c2) (b2:=A3) (m2:=l3) (d2:=c3) (b3:=As) (m3:=ls) (d3:=cs) hWb b4'
 have hOc:=nat4 (b0:=A1) (m0:=l1) (d0:=c1) (b1:=A2) (m1:=l2) (d1:=c2) (b2:=A3) (m2:=l3) (d2:=c3) (b3:=As) (m3:=ls) (d3:=cs) hW3 b4'
 clear hVa hVb hVc hWa hWb hW3 b4'
 have hsz:((((w6.setCell ⟨w.heap.size,0,none⟩ (.slice A1 l1 c1)).setCell ⟨w.heap.size,1,none⟩ (.slice A2 l2 c2)).setCell ⟨w.heap.size,2,none⟩ (.slice A3 l3 c3)).setCell ⟨w.heap.size,3,none⟩ (.slice As ls cs)).heap.size=w6.heap.size:=by simp
 generalize (((w6.setCell ⟨w.heap.size,0,none⟩ (.slice A1 l1 c1)).setCell ⟨w.heap.size,1,none⟩ (.slice A2 l2 c2)).setCell ⟨w.heap.size,2,none⟩ (.slice A3 l3 c3)).setCell ⟨w.heap.size,3,none⟩ (.slice As ls cs)=Y at hB4 hNa hNb hNc hOa hOb hOc hE4 hsz ⊢
 rw[←hsz]at*
 generalize hZ:(Y.alloc (.cells #[.slice B3 m3 d3] 33)).alloc (.cells #[.slice B1 m1 d1,.slice B2 m2 d2,.slice (some ⟨Y.heap.size,0,none⟩) 1 1] 37)=Z
 have hX:Ext Y Z:=by rw[←hZ];exact((Upd.refl _ _).alloc _).alloc _
 have bs1:Blk Z Y.heap.size 33 #[.slice B3 m3 d3]:=by rw[←hZ];exact(Blk.new Y _ _).ext ((Upd.refl _ _).alloc _)
 have bs2:Blk Z (Y.heap.size+1) 37 #[.slice B1 m1 d1,.slice B2 m2 d2,.slice (some ⟨Y.heap.size,0,none⟩) 1 1]:=by rw[←hZ];exact Blk.new_at (by simp)
 clear hZ
 have hB5:=hB4.ext hX
 have q0:=hB5.at 0 rfl
 have q1:=hB5.at 1 rfl
 have q2:=hB5.at 2 rfl
 have q3:=hB5.at 3 rfl
 refine bodyPost_ret (v:=.tuple #[.agg #[.slice A1 l1 c1,.slice A2 l2 c2,.slice A3 l3 c3,.slice As ls cs],.slice (some ⟨Y.heap.size+1,0,none⟩) 1 1]) ?_ rfl ⟨A1,l1,c1,A2,l2,c2,A3,l3,c3,_,1,1,rfl,hNa.ext hX,hNb.ext hX,hNc.ext hX,?_,rfl,hE4.trans hX⟩
 · simp[results,Try.results48,go_sem,q0,q1,q2,q3]
 · intro i hi
   obtain rfl:i=0:=by
    have:i<1:=hi
    omega
   refine⟨Y.heap.size+1,0,B1,m1,d1,B2,m2,d2,some ⟨Y.heap.size,0,none⟩,1,1,rfl,bs2.at 0 rfl,bs2.at 1 rfl,bs2.at 2 rfl,hOa.ext hX,hOb.ext hX,?_,rfl,Nat.le_refl _,by decide⟩
   refine⟨[⟨B3,m3,d3⟩],rfl,fun j hj=>?_,fun j hj=>?_⟩
   · obtain rfl:j=0:=by
      have:j<1:=hj
      omega
     exact⟨Y.heap.size,0,rfl,bs1.at 0 rfl⟩
   · obtain rfl:j=0:=by
      have:j<1:=hj
      omega
     exact hOc.ext hX
end
/- The laws' groups: Group, lives. -/
section
open Go.RowKit
open Nt
attribute [local go_sem] steady steadyUpon Cls same_cell
attribute [local irreducible] wpHead wpTree
theorem fit_grP (r:Nat):Fit 3 (grP r):=by
 unfold Fit grP
 split
 · decide+kernel
 · split<;>decide+kernel
theorem fit_grQ (r:Nat):Fit 3 (grQ r):=by
 unfold Fit grQ
 split
 · decide+kernel
 · split<;>decide+kernel
theorem fit_grG (r:Nat):Fit 3 (grG r):=by
 unfold Fit grG
 split
 · decide+kernel
 · split<;>decide+kernel
theorem fitL_of {k:Nat} {ns:List Nat} (h:ns.all fun n=>decide (n<W32^k)):FitL k ns:=fun i hi=>by
  rw[List.all_eq_true]at h
  have:=h (gat ns i) (by rw[gat_lt hi];exact List.getElem_mem _)
  exact(decide_eq_true_iff.1 this:gat ns i<W32^k)
def fitB (s:St):Bool:=decide (s.N<W32^3) && (decide (s.b<W32^3) && ((s.ps.all fun n=>decide (n<W32^3)) && decide (s.ps.length≤100)))
theorem fitS_of {s:St} (h:fitB s=true):FitS 3 s:=by
 unfold fitB at h
 simp only[Bool.and_eq_true,decide_eq_true_eq]at h
 exact⟨h.1,h.2.1,fitL_of h.2.2.1,h.2.2.2⟩
theorem fit_grS (r:Nat):∀i,i<(grS r).length→FitS 3 (gat (grS r) i):=fun i hi=>by
  have:(grS r).all fitB=true:=by
   unfold grS
   split
   · rfl
   · split<;>decide+kernel
  rw[List.all_eq_true]at this
  exact fitS_of (this _ (by rw[gat_lt hi];exact List.getElem_mem _))
def RetGrp (w:World) (r:Nat) (e:Ending) (w':World):Prop:=∃gr,e=.returned (.pointer (some ⟨gr,0,none⟩))∧GrpV w' gr (grP r) (grQ r) (grG r) (grH r)∧Ext w w'
set_option maxRecDepth 100000 in
set_option maxHeartbeats 1000000 in
theorem ggroup_any (z:Int) (r:Nat) (hr:r<3) (w:World) (hnum:∀w',Calls Try.prog 48 #[.int .i64 z,.slice none 0 0] w' (RetNums w' r none 0 0)):
 Calls Try.prog 16 #[.int .i64 z,.slice none 0 0] w (RetGrp w r):=by
 have Hnum:=hide hnum
 clear hnum
 go_enter Try.func16,Try.ntmps16
 go_wp2_with fail
 refine(Hnum.out w).mono ?_
 rintro e w1 ⟨Ap,lp,cp,Aq,lq,cq,Ag,lg,cg,AS,n,c,rfl,hP,hQ,hG,hS,hn,hU1⟩
 have hl:n≤1000:=by
  rw[←hn];unfold grS;split
  · decide
  · split<;>decide
 have Hn:=hide hn
 clear hn
 go_wp2_with fail
 refine(gNew_any Ap lp cp Aq lq cq Ag lg cg none 0 0 (grP r) (grQ r) (grG r) 3 [] AS n c (grS r) w1 hP hQ hG Sl.nil rfl (Nat.le_refl _) (by decide) hS Hn.out hl (fit_grP r) (fit_grQ r) (fit_grG r) (fit_grS r) (by omega) (by omega)).mono ?_
 rw[gNew r hr]
 rintro e w2 ⟨hU2, -,h⟩
 obtain⟨gr,rfl,hGr⟩:=h rfl
 have hEf:=hU1.trans hU2
 clear hP hQ hG hS hU1 hU2 h
 go_wp2_with fail
 go_ret
 exact⟨gr,rfl,hGr,hEf⟩
theorem gnil0 :(IntKind.u64.wrap (0:Int)).tmod 3=((0:Nat):Int):=by decide+kernel
theorem gnil1 :(IntKind.u64.wrap (1:Int)).tmod 3=((1:Nat):Int):=by decide+kernel
theorem lv_pow :(64^101 % grP 0)=1:=by rw[pow_is 70 (by decide)];decide+kernel
theorem lv_mem :memB (grP 0) (grQ 0) 2=false:=by unfold memB;rw[pow_is 70 (by decide)];decide+kernel
set_option maxRecDepth 100000 in
set_option maxHeartbeats 2000000 in
theorem glives_any (w:World):Calls Try.prog 5 #[] w fun e w'=>e=.returned (.bool true)∧Ext w w':=by
  have hF1:∀{n:Nat},n<4294967296→Fit 3 n:=fun h=>Fit.mono (show Fit 1 _ by unfold Fit W32;omega) (by omega)
  go_enter Try.func5,Try.ntmps5
  go_wp2_with fail
  refine(ggroup_any 0 0 (by omega) w (fun w'=>gnums0_any 0 none 0 0 w' gnil0)).mono ?_
  rintro e w1 ⟨gr,rfl,hG,hU1⟩
  go_wp2_with fail
  refine(new_any 64 _ (by decide)).mono ?_
  rintro e w2 ⟨A2,l2,c2,rfl,hV2,hU2⟩
  go_wp2_with fail
  refine(new_any 101 _ (by decide)).mono ?_
  rintro e w3 ⟨A3,l3,c3,rfl,hV3,hU3⟩
  go_wp2_with fail
  refine(gExp_any gr (grP 0) (grQ 0) (grG 0) (grH 0) 3 _ _ _ 64 101 3 (hG.ext (hU2.trans hU3)) (hV2.ext hU3) hV3 (hF1 (by decide)) (fit_grP 0) (hF1 (by decide)) (by omega) (by omega)).mono ?_
  rw[lv_pow]
  rintro e w4 ⟨A4,l4,c4,rfl,hV4,hU4⟩
  go_wp2_with fail
  refine(new_any 1 _ (by decide)).mono ?_
  rintro e w5 ⟨A5,l5,c5,rfl,hV5,hU5⟩
  go_wp2_with fail
  refine(cmp_any _ _ 1 1 3 _ (hV4.ext hU5) hV5 (hF1 (by decide)) (hF1 (by decide)) (by omega)).mono ?_
  rintro e w6 ⟨rfl,hU6⟩
  rw[cmpI_eq]
  go_wp2_with fail
  refine(new_any 2 _ (by decide)).mono ?_
  rintro e w7 ⟨A7,l7,c7,rfl,hV7,hU7⟩
  have hG7:=hG.ext (((((hU2.trans hU3).trans hU4).trans hU5).trans hU6).trans hU7)
  have hE7:=((((((hU1.trans hU2).trans hU3).trans hU4).trans hU5).trans hU6).trans hU7)
  clear hG hU1 hU2 hU3 hU4 hU5 hU6 hU7 hV2 hV3 hV4 hV5
  go_wp2_with fail
  refine(gMember_any gr (grP 0) (grQ 0) (grG 0) (grH 0) 3 _ _ 2 hG7 hV7 (hF1 (by decide)) (fit_grP 0) (fit_grQ 0) (by omega) (by omega)).mono ?_
  rw[lv_mem]
  rintro e w8 ⟨rfl,hU8⟩
  have hE8:=hE7.trans hU8
  clear hG7 hV7 hE7 hU8
  go_wp2_with fail
  refine(ggroup_any 1 1 (by omega) w8 (fun w'=>gnums1_any 1 none 0 0 w' gnil1)).mono ?_
  rintro e w9 ⟨gr2,rfl, -,hU9⟩
  have hE9:=hE8.trans hU9
  clear hE8 hU9
  go_wp2_with fail
  go_ret
  exact⟨rfl,hE9⟩
end
end Go.Proofs.Ytbhhjfhepkbfgaa
