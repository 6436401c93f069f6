/- Boxes, walked: proof, Seal, Open. -/
import Derived.Test.YtbhhjfhepkbfgaaLbBoxB
import Derived.Test.YtbhhjfhepkbfgaaLbStrm
import Derived.Test.YtbhhjfhepkbfgaaLbTagL
namespace Go.Proofs.Ytbhhjfhepkbfgaa
set_option linter.unusedSimpArgs false
set_option linter.unusedVariables false
open Go.RowKit
open Nt Strm
attribute [local go_sem] steady steadyUpon Cls same_cell by8
attribute [local irreducible] wpHead wpTree
def bxP (key nonce side x:List (BitVec 8)):List (BitVec 8):=tagOf ((block key 0 nonce).take 32) (boxD side x)
def bxS (key nonce side b:List (BitVec 8)):List (BitVec 8):=xors key 1 nonce b++bxP key nonce side (xors key 1 nonce b)
theorem bxP_length (key nonce side x:List (BitVec 8)):(bxP key nonce side x).length=16:=tagOf_length _ _
theorem bxS_length (key nonce side b:List (BitVec 8)):(bxS key nonce side b).length=b.length+16:=by unfold bxS;rw[List.length_append,bxP_length,xors_length]
theorem block_length (key:List (BitVec 8)) (ctr:BitVec 32) (nonce:List (BitVec 8)):(block key ctr nonce).length=64:=outs_length _ _ 16
theorem blk32_length (key:List (BitVec 8)) (ctr:BitVec 32) (nonce:List (BitVec 8)):((block key ctr nonce).take 32).length=32:=by rw[List.length_take,block_length];rfl
def RetTg (w:World) (bs:List (BitVec 8)) (e:Ending) (w':World):Prop:=∃A,e=.returned (.tuple #[.slice A 16 16,.int .i64 0])∧Sl by8 w' A bs∧Ext w w'
structure BxIn (w:World) (A B C D:Option Addr) (c d ns cs n f:Nat) (key nonce side b:List (BitVec 8)):Prop where
 kl:key.length=32
 nl:nonce.length=12
 hc:32≤c
 hd:12≤d
 K:Sl by8 w A key
 N:Sl by8 w B nonce
 sl:side.length=ns
 sb:ns≤1000
 S:Sl by8 w C side
 bl:b.length=n
 bb:n≤1000
 X:Sl by8 w D b
theorem BxIn.ext {w w':World} {A B C D:Option Addr} {c d ns cs n f:Nat} {key nonce side b:List (BitVec 8)} (h:BxIn w A B C D c d ns cs n f key nonce side b) (hE:Ext w w'):BxIn w' A B C D c d ns cs n f key nonce side b:=
 ⟨h.kl,h.nl,h.hc,h.hd,h.K.ext hE,h.N.ext hE,h.sl,h.sb,h.S.ext hE,h.bl,h.bb,h.X.ext hE⟩
set_option maxRecDepth 100000 in
set_option maxHeartbeats 2000000 in
theorem bproof_any (A B C D:Option Addr) (c d ns cs n f:Nat) (key nonce side b:List (BitVec 8)) (w:World) (h:BxIn w A B C D c d ns cs n f key nonce side b):
 Calls Try.prog 85 #[.slice A 32 c,.slice B 12 d,.slice C ns cs,.slice D n f] w (RetTg w (bxP key nonce side b)):=by
 have H:=hide h
 clear h
 go_enter Try.func85,Try.ntmps85
 go_wp2_with fail
 refine(sblock_any _ _ _ _ key nonce 0 _ H.out.kl H.out.nl H.out.hc H.out.hd H.out.K H.out.N).mono ?_
 rintro e w1 ⟨A1,c1,rfl, -,hO1,hU1⟩
 go_wp2_with fail
 have H1:=hide (H.out.ext hU1)
 refine(whole_any C ns cs side _ H1.out.S H1.out.sl (by have:=H.out.sb;omega)).mono ?_
 rintro e w2 ⟨A2,c2,rfl,hO2,hU2⟩
 go_wp2_with fail
 have H2:=hide (H1.out.ext hU2)
 refine(whole_any D n f b _ H2.out.X H2.out.bl (by have:=H.out.bb;omega)).mono ?_
 rintro e w3 ⟨A3,c3,rfl,hO3,hU3⟩
 have hU13:=hU2.trans hU3
 have hU03:=hU1.trans hU13
 have hs1:w.heap.size≤w1.heap.size:=hU1.size
 have h1s:w1.heap.size≤w3.heap.size:=hU13.size
 have hlA:(side++nul (padN ns)).length=ns+padN ns:=by rw[List.length_append,nul_length,H.out.sl]
 have hlB:(b++nul (padN n)).length=n+padN n:=by rw[List.length_append,nul_length,H.out.bl]
 have hp1:=padN_lt ns
 have hp2:=padN_lt n
 have hsb:=H.out.sb
 have hbb:=H.out.bb
 have hS1:=hO1.sl
 obtain⟨D1,hD1⟩:∃D1,D1=side++nul (padN ns):=⟨_,rfl⟩
 obtain⟨D2,hD2⟩:∃D2,D2=b++nul (padN n):=⟨_,rfl⟩
 obtain⟨l1,hl1⟩:∃l1,l1=ns+padN ns:=⟨_,rfl⟩
 obtain⟨l2,hl2⟩:∃l2,l2=n+padN n:=⟨_,rfl⟩
 have hb1:l1≤1016:=by omega
 have hb2:l2≤1016:=by omega
 rw[←hD1,←hl1]at hlA
 rw[←hD2,←hl2]at hlB
 rw[←hD1]at hO2
 rw[←hD2]at hO3
 rw[←hl1,←hl2]
 have HD1:=hide hD1
 have HD2:=hide hD2
 have HlA:=hide hlA
 have HlB:=hide hlB
 have H3:=hide (H2.out.ext hU3)
 clear hD1 hD2 hlA hlB hp1 hp2 hl1 hl2 H2 H1 hU1
 go_wp2_with (at_builtin;go_must (refine wpList_apd by8 one8 Try.n_el8 D1 D2 (D1++D2) (l1+l2) rfl (by rw[List.length_append,HlA.out,HlB.out]) (by omega) (by unfold maxLen;omega) rfl rfl rfl HlA.out (hO2.ext hU3) rfl HlB.out hO3.sl h1s ?_);intro A4 c4 w4 hO4 hU4 hin4)
 have hE4:Ext w w4:=Upd.fresh hU4 hU03 (fun k hk=>Nat.le_trans hs1 (hO2.in_ hk).1)
 have hE34:Ext w1 w4:=Upd.fresh hU4 hU13 (fun k hk=>(hO2.in_ hk).1)
 obtain⟨D3,hD3⟩:∃D3,D3=D1++D2:=⟨_,rfl⟩
 obtain⟨l3,hl3⟩:∃l3,l3=l1+l2:=⟨_,rfl⟩
 have h3b:l3≤2032:=by omega
 have hlC:D3.length=l3:=by rw[hD3,List.length_append,HlA.out,HlB.out,hl3]
 rw[←hD3]at hO4
 rw[←hl3]
 have HlC:=hide hlC
 have HD3:=hide hD3
 clear hin4 hU4 hO2 hO3 hU2 hU3 hU03 HlA HlB H3 hb1 hb2 hl3 hD3 hlC
 refine(bsize_any ns _ (by omega)).mono ?_
 rintro e w5 ⟨A5,c5,rfl,hO5,hU5⟩
 go_wp2_with (at_builtin;go_must (refine wpList_apd by8 one8 Try.n_el8 D3 (le8 ns) (D3++le8 ns) (l3+8) rfl (by rw[List.length_append,HlC.out];rfl) (by omega) (by unfold maxLen;omega) rfl rfl rfl HlC.out (hO4.ext hU5) rfl rfl hO5.sl (hE34.trans hU5).size ?_);intro A6 c6 w6 hO6 hU6 hin6)
 have hE6:Ext w w6:=Upd.fresh hU6 (hE4.trans hU5) (fun k hk=>Nat.le_trans hs1 (hO4.in_ hk).1)
 have hE16:Ext w1 w6:=Upd.fresh hU6 (hE34.trans hU5) (fun k hk=>(hO4.in_ hk).1)
 clear hin6 hU6 hO5 hU5 hO4 hE4 hE34
 refine(bsize_any n _ (by omega)).mono ?_
 rintro e w7 ⟨A7,c7,rfl,hO7,hU7⟩
 have hc1:32≤c1:=by have:=hO1.cap.1;rw[List.length_map,block_length]at this;omega
 have hc1I:(32:Int)≤(c1:Int):=by omega
 have hs32:∀w,(Instr.sliceAt 23 (.slice A1 64 c1) none (some (.int .i64 32)) none).run Try.prog w=.ok (.slice A1 32 c1) w:=fun w=>run_cut_h Try.n_el8.under Try.n_sz8 A1 64 c1 32 .i64 (by omega) w
 have hl4:(D3++le8 ns).length=l3+8:=by rw[List.length_append,HlC.out];rfl
 have Hl4:=hide hl4
 clear hl4
 go_wp2_with (at_builtin;go_must (refine wpList_apd by8 one8 Try.n_el8 (D3++le8 ns) (le8 n) ((D3++le8 ns)++le8 n) (l3+8+8) rfl (by rw[List.length_append,Hl4.out];rfl) (by omega) (by unfold maxLen;omega) rfl rfl rfl Hl4.out (hO6.ext hU7) rfl rfl hO7.sl (hE16.trans hU7).size ?_);intro A8 c8 w8 hO8 hU8 hin8)
 have hE8:Ext w w8:=Upd.fresh hU8 (hE6.trans hU7) (fun k hk=>Nat.le_trans hs1 (hO6.in_ hk).1)
 have hE18:Ext w1 w8:=Upd.fresh hU8 (hE16.trans hU7) (fun k hk=>(hO6.in_ hk).1)
 have hc8:=hO8.cap.1
 have hl5:((D3++le8 ns)++le8 n).length=l3+8+8:=by rw[List.length_append,Hl4.out];rfl
 rw[List.length_map,hl5]at hc8
 have hS8:=hO8.sl
 have hS18:=hS1.ext hE18
 have hD:(D3++le8 ns)++le8 n=boxD side b:=by unfold boxD;rw[HD3.out,HD1.out,HD2.out,H.out.sl,H.out.bl]
 have Hl5:=hide hl5
 have HD:=hide hD
 clear hin8 hU8 hO7 hU7 hO6 hE6 hE16 hE18 hO8 hO1 hl5 hD
 go_wp2_with fail
 refine(ptag_any A1 A8 c1 (l3+8+8) c8 ((block key 0 nonce).take 32) ((D3++le8 ns)++le8 n) _ (blk32_length _ _ _) Hl5.out hc1 hc8 (by omega) (hS18.take 32) hS8).mono ?_
 rintro e w9 ⟨A9,rfl,hS9,hU9⟩
 rw[HD.out]at hS9
 have hE9:=hE8.trans hU9
 clear hE8 hU9 hS8 hS18
 go_wp2_with fail
 go_ret2
 exact⟨_,rfl,hS9,hE9⟩
set_option maxRecDepth 100000 in
set_option maxHeartbeats 2000000 in
theorem bseal_any (A B C D:Option Addr) (c d ns cs n f:Nat) (key nonce side b:List (BitVec 8)) (w:World) (h:BxIn w A B C D c d ns cs n f key nonce side b):
 Calls Try.prog 55 #[.slice A 32 c,.slice B 12 d,.slice C ns cs,.slice D n f] w (RetOK w (n+16) (bxS key nonce side b)):=by
 have H:=hide h
 clear h
 go_enter Try.func55,Try.ntmps55
 go_wp2_with fail
 refine(xor_any _ _ _ _ _ _ _ key nonce b 1 _ H.out.kl H.out.nl H.out.hc H.out.hd H.out.K H.out.N H.out.bl.symm (by have:=H.out.bb;omega) H.out.X).mono ?_
 rintro e w1 ⟨A1,c1,rfl, -,hO1,hU1⟩
 obtain⟨x,hx⟩:∃x,x=xors key 1 nonce b:=⟨_,rfl⟩
 have hxl:x.length=n:=by rw[hx,xors_length];exact H.out.bl
 rw[←hx]at hO1
 have Hx:=hide hx
 have Hxl:=hide hxl
 clear hx hxl
 go_wp2_with fail
 have H1:=H.out.ext hU1
 refine(bproof_any A B C A1 c d ns cs n c1 key nonce side x _ ⟨H1.kl,H1.nl,H1.hc,H1.hd,H1.K,H1.N,H1.sl,H1.sb,H1.S,Hxl.out,H1.bb,hO1.sl⟩).mono ?_
 rintro e w2 ⟨A2,rfl,hS2,hU2⟩
 have hE2:=hU1.trans hU2
 have hbb:=H1.bb
 clear H1
 go_wp2_with (at_builtin;go_must (refine wpList_apd by8 one8 Try.n_el8 x (bxP key nonce side x) (x++bxP key nonce side x) (n+16) rfl (by rw[List.length_append,bxP_length,Hxl.out]) (by omega) (by unfold maxLen;omega) rfl rfl rfl Hxl.out (hO1.ext hU2) rfl (bxP_length _ _ _ _) hS2 hE2.size ?_);intro A3 c3 w3 hO3 hU3 hin3)
 have hE3:Ext w w3:=Upd.fresh hU3 hE2 (fun k hk=>(hO1.in_ hk).1)
 have hSl:x++bxP key nonce side x=bxS key nonce side b:=by rw[Hx.out];rfl
 rw[hSl]at hO3
 have hlen:n+16=(bxS key nonce side b).length:=by rw[bxS_length];have:=H.out.bl;omega
 clear hin3 hU3 hE2 hU1 hU2 hS2 hO1 hSl
 go_ret2
 exact⟨_,_,rfl,hlen,hO3,hE3⟩
def bxO (key nonce side x:List (BitVec 8)):Option (List (BitVec 8)):=
 if bxP key nonce side (x.take (x.length - 16))=x.drop (x.length - 16) then some (xors key 1 nonce (x.take (x.length - 16))) else none
def RetBxE (w:World) (m:Int) (e:Ending) (w':World):Prop:=e=.returned (.tuple #[.slice none 0 0,.int .i64 m])∧Ext w w'
def RetBxO (w:World) (n:Nat) (o:Option (List (BitVec 8))) (e:Ending) (w':World):Prop:=
 match o with
 | some bs=>RetOK w n bs e w'
 | none=>RetBxE w 7 e w'
set_option maxRecDepth 100000 in
set_option maxHeartbeats 2000000 in
theorem bopen_any (A B C D:Option Addr) (c d ns cs n f:Nat) (key nonce side b:List (BitVec 8)) (w:World) (h:BxIn w A B C D c d ns cs (n+16) f key nonce side b) (hf:n+16≤f):
 Calls Try.prog 56 #[.slice A 32 c,.slice B 12 d,.slice C ns cs,.slice D (n+16:Nat) f] w (RetBxO w n (bxO key nonce side b)):=by
 have H:=hide h
 obtain⟨o,ho⟩:∃o,o=bxO key nonce side b:=⟨_,rfl⟩
 rw[←ho]
 have hn:=h.bb
 have h1:¬((n+16:Nat):Int) - 16<0:=by omega
 have h2:((n+16:Nat):Int) - 16=(n:Int):=by omega
 have h3:(n:Int)+16 - 16=(n:Int):=by omega
 have hs1:∀w,(Instr.sliceAt 23 (.slice D (n+16) f) none (some (.int .i64 (n:Int))) none).run Try.prog w=.ok (.slice D n f) w:=fun w=>run_cut_h Try.n_el8.under Try.n_sz8 D (n+16) f n .i64 (by omega) w
 have hs2:∀w,(Instr.sliceAt 23 (.slice D (n+16) f) (some (.int .i64 (n:Int))) none none).run Try.prog w=.ok (.slice (shA D f n) 16 (f - n)) w:=fun w=>by
   have:=run_cut_l Try.n_el8.under Try.n_sz8 D (n+16) f n .i64 (by omega) w
   rw[show n+16 - n=16 by omega]at this
   exact this
 clear h
 go_enter Try.func56,Try.ntmps56
 go_wp2_with fail
 have H1:=H.out
 obtain⟨x,hx⟩:∃x,x=b.take n:=⟨_,rfl⟩
 obtain⟨t,ht⟩:∃t,t=b.drop n:=⟨_,rfl⟩
 have hxl:x.length=n:=by rw[hx,List.length_take,H1.bl];omega
 have htl:t.length=16:=by rw[ht,List.length_drop,H1.bl];omega
 have hX:Sl by8 w D x:=by rw[hx];exact H1.X.take n
 have hT:Sl by8 w (shA D f n) t:=by rw[ht];exact H1.X.shA (by rw[H1.bl];exact hf)
 have hO:bxO key nonce side b=if bxP key nonce side x=t then some (xors key 1 nonce x) else none:=by
   unfold bxO
   rw[H1.bl,Nat.add_sub_cancel,←hx,←ht]
 rw[hO]at ho
 have Hxl:=hide hxl
 have Htl:=hide htl
 have HX:=hide hX
 have HT:=hide hT
 have Ho:=hide ho
 clear hx ht hxl htl hX hT hO H1 ho
 refine(bproof_any A B C D c d ns cs n f key nonce side x _ ⟨H.out.kl,H.out.nl,H.out.hc,H.out.hd,H.out.K,H.out.N,H.out.sl,H.out.sb,H.out.S,Hxl.out,by omega,HX.out⟩).mono ?_
 rintro e w1 ⟨A1,rfl,hS1,hU1⟩
 go_wp2_with fail
 refine(same_any A1 16 16 (bxP key nonce side x) (shA D f n) 16 (f - n) t _ hS1 (bxP_length _ _ _ _) (by omega) (HT.out.ext hU1) Htl.out (by omega)).mono ?_
 rintro e w2 ⟨rfl,hU2⟩
 have hE2:=hU1.trans hU2
 clear hU1 hU2 hS1
 by_cases hc:bxP key nonce side x=t
 · obtain rfl:o=some (xors key 1 nonce x):=Ho.out.trans (if_pos hc)
   rw[decide_eq_true hc]
   clear hc
   go_wp2_with fail
   refine(xor_any _ _ _ _ _ _ _ key nonce x 1 _ H.out.kl H.out.nl H.out.hc H.out.hd (H.out.K.ext hE2) (H.out.N.ext hE2) Hxl.out.symm (by omega) (HX.out.ext hE2)).mono ?_
   rintro e w3 ⟨A3,c3,rfl,hl,hO3,hU3⟩
   have hO3':=hO3.mono hE2.size
   have hE3:=hE2.trans hU3
   have Hl:=hide hl
   clear hU3 hO3 hE2 hl
   go_wp2_with fail
   go_ret2
   show RetOK w n (xors key 1 nonce x) _ _
   exact⟨_,_,rfl,Hl.out,hO3',hE3⟩
 · obtain rfl:o=none:=Ho.out.trans (if_neg hc)
   rw[decide_eq_false hc]
   clear hc
   go_wp2_with fail
   go_ret2
   show RetBxE w 7 _ _
   exact⟨rfl,hE2⟩
end Go.Proofs.Ytbhhjfhepkbfgaa
