/- Merged: StreamM StreamQ StreamB StreamX StreamN StreamR StreamS StreamT StreamE. -/
import Derived.Test.YtbhhjfhepkbfgaaLbBase
import Derived.Test.YtbhhjfhepkbfgaaRows
import Derived.Deep.QuietTactic
import Derived.BigQuiet
import Derived.Outline
namespace Go.Proofs.Ytbhhjfhepkbfgaa
set_option linter.unusedSimpArgs false
set_option linter.unusedVariables false
/- The stream's numbers, as plain functions: words of bytes, the rounds, a block, and bytes with the stream. -/
section
open Go.RowKit
namespace Strm
def rotl (x:BitVec 32) (s:Nat):BitVec 32:=x <<< s ||| x >>> (32 - s)
def word4 (b0 b1 b2 b3:BitVec 8):BitVec 32:=b0.setWidth 32 ||| b1.setWidth 32 <<< 8 ||| b2.setWidth 32 <<< 16 ||| b3.setWidth 32 <<< 24
def wordAt (bs:List (BitVec 8)) (i:Nat):BitVec 32:=word4 (gat bs i) (gat bs (i+1)) (gat bs (i+2)) (gat bs (i+3))
def quarter (S:Nat→BitVec 32) (a b c d:Nat):Nat→BitVec 32:=
 let S:=put1 S a (S a+S b)
 let S:=put1 S d (rotl (S d ^^^ S a) 16)
 let S:=put1 S c (S c+S d)
 let S:=put1 S b (rotl (S b ^^^ S c) 12)
 let S:=put1 S a (S a+S b)
 let S:=put1 S d (rotl (S d ^^^ S a) 8)
 let S:=put1 S c (S c+S d)
 put1 S b (rotl (S b ^^^ S c) 7)
def sigma (i:Nat):BitVec 32:=match i with | 0=>0x61707865 | 1=>0x3320646e | 2=>0x79622d32 | 3=>0x6b206574 | _=>0
def init1 (key:List (BitVec 8)) (k:Nat):Nat→BitVec 32:=fun j=>if j<4 then sigma j else if j<4+k then wordAt key (4*(j - 4)) else 0
def init2 (key:List (BitVec 8)) (ctr:BitVec 32) (nonce:List (BitVec 8)) (k:Nat):Nat→BitVec 32:=
 fun j=>if j=12 then ctr else if 13≤j∧j<13+k then wordAt nonce (4*(j - 13)) else init1 key 8 j
def steps {α:Type} (f:α→Nat→α) (S:α):Nat→α
 | 0=>S
 | k+1=>f (steps f S k) k
def half1 (S:Nat→BitVec 32) (i:Nat):=quarter S i (4+i) (8+i) (12+i)
def half2 (S:Nat→BitVec 32) (i:Nat):=quarter S i (4+(i+1) % 4) (8+(i+2) % 4) (12+(i+3) % 4)
def dround (S:Nat→BitVec 32) (_:Nat):Nat→BitVec 32:=steps half2 (steps half1 S 4) 4
def bytes4 (x:BitVec 32):List (BitVec 8):=[x.setWidth 8,(x >>> 8).setWidth 8,(x >>> 16).setWidth 8,(x >>> 24).setWidth 8]
def outs (R S:Nat→BitVec 32):Nat→List (BitVec 8)
 | 0=>[]
 | k+1=>outs R S k++bytes4 (R k+S k)
def start (key:List (BitVec 8)) (ctr:BitVec 32) (nonce:List (BitVec 8)):=init2 key ctr nonce 3
def block (key:List (BitVec 8)) (ctr:BitVec 32) (nonce:List (BitVec 8)):List (BitVec 8):=
 outs (steps dround (start key ctr nonce) 10) (start key ctr nonce) 16
theorem outs_length (R S:Nat→BitVec 32) (k:Nat):(outs R S k).length=4*k:=by
 induction k with
 | zero=>rfl
 | succ k ih=>simp[outs,ih,bytes4];omega
theorem block_length (key:List (BitVec 8)) (ctr:BitVec 32) (nonce:List (BitVec 8)):(block key ctr nonce).length=64:=outs_length _ _ 16
def key1 (key:List (BitVec 8)) (ctr:BitVec 32) (nonce:List (BitVec 8)) (i:Nat):BitVec 8:=gat (block key (ctr+BitVec.ofNat 32 (i / 64)) nonce) (i % 64)
def xorTo (key:List (BitVec 8)) (ctr:BitVec 32) (nonce b:List (BitVec 8)) (j:Nat):List (BitVec 8):=(List.range b.length).map fun i=>if i<j then gat b i ^^^ key1 key ctr nonce i else 0
def xors (key:List (BitVec 8)) (ctr:BitVec 32) (nonce b:List (BitVec 8)):List (BitVec 8):=xorTo key ctr nonce b b.length
theorem xorTo_length (key:List (BitVec 8)) (ctr:BitVec 32) (nonce b:List (BitVec 8)) (j:Nat):(xorTo key ctr nonce b j).length=b.length:=by simp[xorTo]
theorem xors_length (key:List (BitVec 8)) (ctr:BitVec 32) (nonce b:List (BitVec 8)):(xors key ctr nonce b).length=b.length:=xorTo_length ..
theorem gat_xors {key:List (BitVec 8)} {ctr:BitVec 32} {nonce b:List (BitVec 8)} {i:Nat} (h:i<b.length):gat (xors key ctr nonce b) i=gat b i ^^^ key1 key ctr nonce i:=by
 simp[gat,xors,xorTo,h]
theorem xorTo_zero (key:List (BitVec 8)) (ctr:BitVec 32) (nonce b:List (BitVec 8)):xorTo key ctr nonce b 0=List.replicate b.length 0:=by
 apply List.ext_getElem?;intro i
 simp[xorTo,List.getElem?_replicate]
 by_cases h:i<b.length<;>simp[h]
theorem xorTo_step (key:List (BitVec 8)) (ctr:BitVec 32) (nonce b:List (BitVec 8)) (m i:Nat) (h1:64*m≤i) (h2:i<64*m+64) (hi:i<b.length):
 (xorTo key ctr nonce b i).set i (gat b i ^^^ gat (block key (ctr+BitVec.ofNat 32 m) nonce) (i - 64*m))=xorTo key ctr nonce b (i+1):=by
 have e1:i / 64=m:=by omega
 have e2:i % 64=i - 64*m:=by omega
 apply List.ext_getElem?;intro j
 rw[List.getElem?_set]
 by_cases hj:i=j
 · subst hj
   simp[xorTo,hi,key1,e1,e2]
 · rw[if_neg hj]
   simp only[xorTo,List.getElem?_map]
   by_cases hjl:j<b.length
   · simp only[List.getElem?_range hjl,Option.map_some]
     by_cases h3:j<i
     · rw[if_pos h3,if_pos (by omega)]
     · rw[if_neg h3,if_neg (by omega)]
   · rw[List.getElem?_eq_none (by simp;omega)]
     rfl
theorem xorTo_full (key:List (BitVec 8)) (ctr:BitVec 32) (nonce b:List (BitVec 8)) (j:Nat) (h:b.length≤j):xorTo key ctr nonce b j=xors key ctr nonce b:=by
 apply List.map_congr_left
 intro i hi
 have:=List.mem_range.1 hi
 rw[if_pos (by omega),if_pos (by omega)]
theorem quarter_ge (S:Nat→BitVec 32) (a b c d j:Nat) (ha:j≠a) (hb:j≠b) (hc:j≠c) (hd:j≠d):quarter S a b c d j=S j:=by
 simp[quarter,put1,ha,hb,hc,hd]
theorem init1_zero (key:List (BitVec 8)) (i:Nat) (h:i<16):(#[Value.int .u32 1634760805,.int .u32 857760878,.int .u32 2036477234,.int .u32 1797285236,.int .u32 0,.int .u32 0,.int .u32 0,.int .u32 0,.int .u32 0,.int .u32 0,.int .u32 0,.int .u32 0,.int .u32 0,.int .u32 0,.int .u32 0,.int .u32 0]:Array Value)[i]? =some (by32 (init1 key 0 i)):=by
 match i,h with
 | 0,_ | 1,_ | 2,_ | 3,_ | 4,_ | 5,_ | 6,_ | 7,_ | 8,_ | 9,_ | 10,_ | 11,_ | 12,_ | 13,_ | 14,_ | 15,_=>rfl
 | n+16,h=>exact absurd h (by omega)
theorem init1_step (key:List (BitVec 8)) (k j:Nat):put1 (init1 key k) (4+k) (wordAt key (4*k)) j=init1 key (k+1) j:=by
 unfold put1 init1
 by_cases h:j=4+k
 · subst h
   rw[if_pos rfl,if_neg (by omega),if_pos (by omega)]
   congr 1;omega
 · rw[if_neg h]
   by_cases h4:j<4
   · rw[if_pos h4,if_pos h4]
   · rw[if_neg h4,if_neg h4]
     by_cases h5:j<4+k
     · rw[if_pos h5,if_pos (by omega)]
     · rw[if_neg h5,if_neg (by omega)]
theorem init2_zero (key:List (BitVec 8)) (ctr:BitVec 32) (nonce:List (BitVec 8)) (j:Nat):put1 (init1 key 8) 12 ctr j=init2 key ctr nonce 0 j:=by
 unfold put1 init2
 by_cases h:j=12
 · rw[if_pos h,if_pos h]
 · rw[if_neg h,if_neg h,if_neg (by omega)]
theorem init2_step (key:List (BitVec 8)) (ctr:BitVec 32) (nonce:List (BitVec 8)) (k j:Nat):put1 (init2 key ctr nonce k) (13+k) (wordAt nonce (4*k)) j=init2 key ctr nonce (k+1) j:=by
 unfold put1 init2
 by_cases h:j=13+k
 · subst h
   rw[if_pos rfl,if_neg (by omega),if_pos (by omega)]
   congr 1;omega
 · rw[if_neg h]
   by_cases h4:j=12
   · rw[if_pos h4,if_pos h4]
   · rw[if_neg h4,if_neg h4]
     by_cases h5:13≤j∧j<13+k
     · rw[if_pos h5,if_pos (by omega)]
     · rw[if_neg h5,if_neg (by omega)]
end Strm
end
/- The stream's small functions and its quarter round, walked. -/
section
open Go.RowKit
open Strm
attribute [local go_sem] steady steadyUpon Cls same_cell by8 by32
attribute [local go_sem] add_u32 xor_u32 or_u32 and_u32 shl_u32 shr_u32 conv_u8_u32 conv_u32_u8 shr_u32' shl8_u32 shl16_u32 shl24_u32 shr8_u32 shr16_u32 shr24_u32
theorem Try.sel8 :ElemI Try.prog 23 5 (.int .u8 0) 1:=⟨by kernel_rfl,by kernel_rfl,rfl⟩
theorem Try.ssz8 :(Try.prog.info? 5).map (·.size)=some 1:=by kernel_rfl
theorem Try.ssz32 :(Try.prog.info? 71).map (·.size)=some 1:=by kernel_rfl
set_option maxHeartbeats 400000 in
theorem rotl_any (x:BitVec 32) (k:Int) (s:Nat) (hs:bits .and .u64 (IntKind.u64.wrap k) 31=(s:Int)) (h:s≤31) (w:World):
 Calls Try.prog 128 #[.int .u32 (n32 x),.int .i64 k] w fun e w'=>e=.returned (.int .u32 (n32 (rotl x s)))∧w=w':=by
 have h2:IntKind.u64.wrap (32 - (s:Int))=((32 - s:Nat):Int):=by rw[IntWalk.u64_in _ (by omega)];omega
 unfold rotl
 go_enter Try.func128,Try.ntmps128
 go_wp2
 go_ret
 exact⟨rfl,rfl⟩
theorem rotl_16 (x:BitVec 32) (w:World):Calls Try.prog 128 #[.int .u32 (n32 x),.int .i64 16] w fun e w'=>e=.returned (.int .u32 (n32 (rotl x 16)))∧w=w':=
  rotl_any x 16 16 (by decide) (by omega) w
theorem rotl_12 (x:BitVec 32) (w:World):Calls Try.prog 128 #[.int .u32 (n32 x),.int .i64 12] w fun e w'=>e=.returned (.int .u32 (n32 (rotl x 12)))∧w=w':=
  rotl_any x 12 12 (by decide) (by omega) w
theorem rotl_8 (x:BitVec 32) (w:World):Calls Try.prog 128 #[.int .u32 (n32 x),.int .i64 8] w fun e w'=>e=.returned (.int .u32 (n32 (rotl x 8)))∧w=w':=
  rotl_any x 8 8 (by decide) (by omega) w
theorem rotl_7 (x:BitVec 32) (w:World):Calls Try.prog 128 #[.int .u32 (n32 x),.int .i64 7] w fun e w'=>e=.returned (.int .u32 (n32 (rotl x 7)))∧w=w':=
  rotl_any x 7 7 (by decide) (by omega) w
def wrongB (n m:Nat):Bool:=!(n == 32 && m == 12)
set_option maxHeartbeats 400000 in
theorem wrong_any (A B:Option Addr) (n m c d:Nat) (w:World):
 Calls Try.prog 96 #[.slice A n c,.slice B m d] w fun e w'=>e=.returned (.bool (wrongB n m))∧w=w':=by
 by_cases h1:n=32
 · subst h1
   by_cases h2:m=12
   · subst h2
     go_enter Try.func96,Try.ntmps96
     go_wp2
     go_ret
     exact⟨rfl,rfl⟩
   · have h3:((m:Int) != 12)=true:=by rw[bne_iff_ne];omega
     have h4:wrongB 32 m=true:=by simp[wrongB,h2]
     rw[h4]
     clear h4 h2
     go_enter Try.func96,Try.ntmps96
     go_wp2
     go_ret
     exact⟨rfl,rfl⟩
 · have h3:((n:Int) != 32)=true:=by rw[bne_iff_ne];omega
   have h4:wrongB n m=true:=by simp[wrongB,h1]
   rw[h4]
   clear h4 h1
   go_enter Try.func96,Try.ntmps96
   go_wp2
   go_ret
   exact⟨rfl,rfl⟩
set_option maxHeartbeats 400000 in
theorem word_any (b o n c:Nat) (bs:List (BitVec 8)) (i:Nat) (w:World) (hn:4≤n) (h0:w.cell? ⟨b,o,none⟩=some (by8 (gat bs i))) (h1:w.cell? ⟨b,o+1,none⟩=some (by8 (gat bs (i+1)))) (h2:w.cell? ⟨b,o+2,none⟩=some (by8 (gat bs (i+2))))
 (h3:w.cell? ⟨b,o+3,none⟩=some (by8 (gat bs (i+3)))):
 Calls Try.prog 117 #[.slice (some ⟨b,o,none⟩) n c] w fun e w'=>e=.returned (.int .u32 (n32 (wordAt bs i)))∧Ext w w':=by
 have i0:(0:Int)<n:=by omega
 have i1:(1:Int)<n:=by omega
 have i2:(2:Int)<n:=by omega
 have i3:(3:Int)<n:=by omega
 unfold wordAt word4
 go_enter Try.func117,Try.ntmps117
 go_wp2
 go_quiet (fail)
 go_wp2
 go_ret
 exact⟨rfl,(Upd.refl _ _).drewN _⟩
set_option maxRecDepth 100000 in
set_option maxHeartbeats 2000000 in
theorem quarter_any (g a b c d:Nat) (S:Nat→BitVec 32) (w:World) (hab:a<b) (hbc:b<c) (hcd:c<d) (hd:d<16) (hA:Arr w g 157 16 (fun i=>by32 (S i))):
    Calls Try.prog 118 #[.pointer (some ⟨g,0,none⟩),.int .i64 a,.int .i64 b,.int .i64 c,.int .i64 d] w fun e w'=>
     e=.returned (.tuple #[])∧Arr w' g 157 16 (fun i=>by32 (quarter S a b c d i))∧Upd (only g) w w':=by
  have ia:(a:Int)<16:=by omega
  have ib:(b:Int)<16:=by omega
  have ic:(c:Int)<16:=by omega
  have id:(d:Int)<16:=by omega
  have ja:a<16:=by omega
  have jb:b<16:=by omega
  have jc:c<16:=by omega
  go_enter Try.func118,Try.ntmps118
  go_wp2
  have hc:=fun i (h:i<16)=>hA.cell (i:=i) h
  refine wp_region_plan (Same _) 13 [(false,0),(false,1),(false,2),(false,3),(false,4),(false,5),(false,6),(false,7),(false,8),(false,9),(false,10),(false,11),(false,12)] (by kernel_rfl) (by kernel_rfl) rfl (fun hne=>?_)
  repeat (refine head_q rfl (fun K hK=>?_);have hK2:=hide hK;clear hK;go_simp;refine hK2.out _ ?_;clear hK2 K)
  refine head_nil ?_
  try simp only[List.drop_succ_cons,List.drop_zero]
  refine wpList_store_enc by32 one32 (_) rfl rfl Try.ssz32 rfl rfl hA (by omega) ?_
  clear hc hne hA
  intro w1 hA U1
  go_wp2
  have hc:=fun i (h:i<16)=>hA.cell (i:=i) h
  refine wp_region_plan (Same _) 16 [(false,0),(false,1),(false,2),(false,3),(false,4),(false,5),(false,6),(false,7),(false,8),(false,9),(false,10),(false,11),(false,12),(false,14),(true,13),(false,15)] (by kernel_rfl) (by kernel_rfl) rfl (fun hne=>?_)
  repeat (refine head_q rfl (fun K hK=>?_);have hK2:=hide hK;clear hK;go_simp;refine hK2.out _ ?_;clear hK2 K)
  refine head_l rfl ?_
  go_wp2_with (go_at_call 128;refine(rotl_16 _ _).mono ?_;rintro e w' ⟨rfl,rfl⟩)
  refine⟨_,fun _ h=>h,⟨⟨_,rfl⟩,rfl⟩,?_⟩
  repeat (refine head_q rfl (fun K hK=>?_);have hK2:=hide hK;clear hK;go_simp;refine hK2.out _ ?_;clear hK2 K)
  refine head_nil ?_
  try simp only[List.drop_succ_cons,List.drop_zero]
  refine wpList_store_enc by32 one32 (_) rfl rfl Try.ssz32 rfl rfl hA (by omega) ?_
  clear hc hne hA
  intro w2 hA U2
  go_wp2
  have hc:=fun i (h:i<16)=>hA.cell (i:=i) h
  refine wp_region_plan (Same _) 13 [(false,0),(false,1),(false,2),(false,3),(false,4),(false,5),(false,6),(false,7),(false,8),(false,9),(false,10),(false,11),(false,12)] (by kernel_rfl) (by kernel_rfl) rfl (fun hne=>?_)
  repeat (refine head_q rfl (fun K hK=>?_);have hK2:=hide hK;clear hK;go_simp;refine hK2.out _ ?_;clear hK2 K)
  refine head_nil ?_
  try simp only[List.drop_succ_cons,List.drop_zero]
  refine wpList_store_enc by32 one32 (_) rfl rfl Try.ssz32 rfl rfl hA (by omega) ?_
  clear hc hne hA
  intro w3 hA U3
  go_wp2
  have hc:=fun i (h:i<16)=>hA.cell (i:=i) h
  refine wp_region_plan (Same _) 16 [(false,0),(false,1),(false,2),(false,3),(false,4),(false,5),(false,6),(false,7),(false,8),(false,9),(false,10),(false,11),(false,12),(false,14),(true,13),(false,15)] (by kernel_rfl) (by kernel_rfl) rfl (fun hne=>?_)
  repeat (refine head_q rfl (fun K hK=>?_);have hK2:=hide hK;clear hK;go_simp;refine hK2.out _ ?_;clear hK2 K)
  refine head_l rfl ?_
  go_wp2_with (go_at_call 128;refine(rotl_12 _ _).mono ?_;rintro e w' ⟨rfl,rfl⟩)
  refine⟨_,fun _ h=>h,⟨⟨_,rfl⟩,rfl⟩,?_⟩
  repeat (refine head_q rfl (fun K hK=>?_);have hK2:=hide hK;clear hK;go_simp;refine hK2.out _ ?_;clear hK2 K)
  refine head_nil ?_
  try simp only[List.drop_succ_cons,List.drop_zero]
  refine wpList_store_enc by32 one32 (_) rfl rfl Try.ssz32 rfl rfl hA (by omega) ?_
  clear hc hne hA
  intro w4 hA U4
  go_wp2
  have hc:=fun i (h:i<16)=>hA.cell (i:=i) h
  refine wp_region_plan (Same _) 13 [(false,0),(false,1),(false,2),(false,3),(false,4),(false,5),(false,6),(false,7),(false,8),(false,9),(false,10),(false,11),(false,12)] (by kernel_rfl) (by kernel_rfl) rfl (fun hne=>?_)
  repeat (refine head_q rfl (fun K hK=>?_);have hK2:=hide hK;clear hK;go_simp;refine hK2.out _ ?_;clear hK2 K)
  refine head_nil ?_
  try simp only[List.drop_succ_cons,List.drop_zero]
  refine wpList_store_enc by32 one32 (_) rfl rfl Try.ssz32 rfl rfl hA (by omega) ?_
  clear hc hne hA
  intro w5 hA U5
  go_wp2
  have hc:=fun i (h:i<16)=>hA.cell (i:=i) h
  refine wp_region_plan (Same _) 16 [(false,0),(false,1),(false,2),(false,3),(false,4),(false,5),(false,6),(false,7),(false,8),(false,9),(false,10),(false,11),(false,12),(false,14),(true,13),(false,15)] (by kernel_rfl) (by kernel_rfl) rfl (fun hne=>?_)
  repeat (refine head_q rfl (fun K hK=>?_);have hK2:=hide hK;clear hK;go_simp;refine hK2.out _ ?_;clear hK2 K)
  refine head_l rfl ?_
  go_wp2_with (go_at_call 128;refine(rotl_8 _ _).mono ?_;rintro e w' ⟨rfl,rfl⟩)
  refine⟨_,fun _ h=>h,⟨⟨_,rfl⟩,rfl⟩,?_⟩
  repeat (refine head_q rfl (fun K hK=>?_);have hK2:=hide hK;clear hK;go_simp;refine hK2.out _ ?_;clear hK2 K)
  refine head_nil ?_
  try simp only[List.drop_succ_cons,List.drop_zero]
  refine wpList_store_enc by32 one32 (_) rfl rfl Try.ssz32 rfl rfl hA (by omega) ?_
  clear hc hne hA
  intro w6 hA U6
  go_wp2
  have hc:=fun i (h:i<16)=>hA.cell (i:=i) h
  refine wp_region_plan (Same _) 13 [(false,0),(false,1),(false,2),(false,3),(false,4),(false,5),(false,6),(false,7),(false,8),(false,9),(false,10),(false,11),(false,12)] (by kernel_rfl) (by kernel_rfl) rfl (fun hne=>?_)
  repeat (refine head_q rfl (fun K hK=>?_);have hK2:=hide hK;clear hK;go_simp;refine hK2.out _ ?_;clear hK2 K)
  refine head_nil ?_
  try simp only[List.drop_succ_cons,List.drop_zero]
  refine wpList_store_enc by32 one32 (_) rfl rfl Try.ssz32 rfl rfl hA (by omega) ?_
  clear hc hne hA
  intro w7 hA U7
  go_wp2
  have hc:=fun i (h:i<16)=>hA.cell (i:=i) h
  refine wp_region_plan (Same _) 16 [(false,0),(false,1),(false,2),(false,3),(false,4),(false,5),(false,6),(false,7),(false,8),(false,9),(false,10),(false,11),(false,12),(false,14),(true,13),(false,15)] (by kernel_rfl) (by kernel_rfl) rfl (fun hne=>?_)
  repeat (refine head_q rfl (fun K hK=>?_);have hK2:=hide hK;clear hK;go_simp;refine hK2.out _ ?_;clear hK2 K)
  refine head_l rfl ?_
  go_wp2_with (go_at_call 128;refine(rotl_7 _ _).mono ?_;rintro e w' ⟨rfl,rfl⟩)
  refine⟨_,fun _ h=>h,⟨⟨_,rfl⟩,rfl⟩,?_⟩
  repeat (refine head_q rfl (fun K hK=>?_);have hK2:=hide hK;clear hK;go_simp;refine hK2.out _ ?_;clear hK2 K)
  refine head_nil ?_
  try simp only[List.drop_succ_cons,List.drop_zero]
  refine wpList_store_enc by32 one32 (_) rfl rfl Try.ssz32 rfl rfl hA (by omega) ?_
  clear hc hne hA
  intro w8 hA U8
  go_wp2
  go_end0
  exact⟨rfl,hA,((((((U1.undrew.trans U2.undrew).trans U3.undrew).trans U4.undrew).trans U5.undrew).trans U6.undrew).trans U7.undrew).trans U8.undrew⟩
theorem quarter_at (g a b c d:Nat) (ai bi ci di:Int) (ha:ai=a) (hb:bi=b) (hc:ci=c) (hdd:di=d) (S:Nat→BitVec 32) (w:World) (hab:a<b) (hbc:b<c) (hcd:c<d) (hd:d<16) (hA:Arr w g 157 16 (fun i=>by32 (S i))):
    Calls Try.prog 118 #[.pointer (some ⟨g,0,none⟩),.int .i64 ai,.int .i64 bi,.int .i64 ci,.int .i64 di] w fun e w'=>
     e=.returned (.tuple #[])∧Arr w' g 157 16 (fun i=>by32 (quarter S a b c d i))∧Upd (only g) w w':=by
  subst ha hb hc hdd
  exact quarter_any g a b c d S w hab hbc hcd hd hA
end
/- A block of the stream, walked. -/
section
open Go.RowKit
open Strm
attribute [local go_sem] steady steadyUpon Cls same_cell by8 by32
attribute [local go_sem] add_u32 xor_u32 or_u32 and_u32 shl_u32 shr_u32 conv_u8_u32 conv_u32_u8 shr_u32' shl8_u32 shl16_u32 shl24_u32 shr8_u32 shr16_u32 shr24_u32
def RetOK (w:World) (n:Nat) (bs:List (BitVec 8)) (e:Ending) (w':World):Prop:=
 ∃A c,e=.returned (.tuple #[.slice A n c,.int .i64 0])∧n=bs.length∧Own w' w.heap.size 5 A c (bs.map by8)∧Ext w w'
theorem Try.sunder_state :Try.prog.underlying 157=some (.array 16 71):=by kernel_rfl
theorem Try.sunder32 :Try.prog.underlying 71=some (.int .u32):=by kernel_rfl
theorem Try.ssz_state :(Try.prog.info? 157).map (·.size)=some 16:=by kernel_rfl
theorem supd_new {w0 w w':World} {T:Nat→Prop} (h:Upd T w w') (h0:Ext w0 w) (hT:∀k,T k→w0.heap.size≤k):Ext w0 w':=
 h0.trans' h (fun i hi ht=>absurd (hT i ht) (by omega))
theorem zero16 (i:Nat) (hi:i<16):(#[Value.int .u32 0,.int .u32 0,.int .u32 0,.int .u32 0,.int .u32 0,.int .u32 0,.int .u32 0,.int .u32 0,.int .u32 0,.int .u32 0,.int .u32 0,.int .u32 0,.int .u32 0,.int .u32 0,.int .u32 0,.int .u32 0]:Array Value)[i]? =some (by32 0):=by
 show(Array.replicate 16 (Value.int .u32 0))[i]? =_
 simp[hi,by32];rfl
set_option maxRecDepth 100000 in
set_option maxHeartbeats 1000000 in
theorem sblock_any (A B:Option Addr) (c d:Nat) (key nonce:List (BitVec 8)) (ctr:BitVec 32) (w:World) (hkl:key.length=32) (hnl:nonce.length=12) (hc:32≤c) (hd:12≤d)
 (hK:Sl by8 w A key) (hN:Sl by8 w B nonce):
 Calls Try.prog 97 #[.slice A 32 c,.int .u32 (n32 ctr),.slice B 12 d] w (RetOK w 64 (block key ctr nonce)):=by
 obtain⟨kb,ko,rfl,hkb,hkc⟩:=hK.open_ (by omega)
 obtain⟨nb,no,rfl,hnb,hnc⟩:=hN.open_ (by omega)
 have hK':=hide hK
 clear hK hkc
 have hN':=hide hN
 clear hN hnc
 have Hkl:=hide hkl
 clear hkl
 have Hnl:=hide hnl
 clear hnl
 have hw:wrongB 32 12=false:=rfl
 go_enter Try.func97,Try.ntmps97
 go_wp2_with (go_at_call 96;refine(wrong_any _ _ _ _ _ _ _).mono ?_;rintro e w' ⟨rfl,rfl⟩)
 clear hw
 go_loopw [21] (fun i wr=>∃k:Nat,k≤8∧i=.int .i64 k∧Arr wr w.heap.size 157 16 (fun j=>by32 (init1 key k j))∧Ext w wr) (fun i _=>8 - (intOf i).toNat)
 case atStart=>exact⟨0,by omega,rfl,Arr.new w _ _ 16 _ rfl (fun i hi=>init1_zero key i hi),(Upd.refl _ _).alloc _⟩
 case round=>
  obtain⟨k,hk,rfl,hA,hU⟩:=hrel
  by_cases hlt:k<8
  · have hKr:=hide (hK'.out.ext hU)
    go_wp2_with (first
     | (go_at_call 117;refine(word_any kb (ko+4*k) _ _ key (4*k) wr (by omega) (hKr.out.cells (4*k) (by rw[Hkl.out];omega)) (hKr.out.cells (4*k+1) (by rw[Hkl.out];omega)) (hKr.out.cells (4*k+2) (by rw[Hkl.out];omega)) (hKr.out.cells (4*k+3) (by rw[Hkl.out];omega))).mono ?_;rintro e w1 ⟨rfl,hU1⟩)
     | (refine wpList_store_enc by32 one32 (_) rfl rfl Try.ssz32 rfl rfl (hA.ext hU1) (by omega) ?_;intro w2 hA2 hU2))
    go_roundw
    case rel=>exact⟨k+1,by omega,by go_num,hA2.congr (fun j _=>congrArg by32 (init1_step key k j)),supd_new hU2 (hU.trans hU1) (fun i hi=>Nat.le_of_eq hi.symm)⟩
    case measure=>simp[intOf];omega
  · obtain rfl:k=8:=by omega
    clear hk hlt
    go_wp2_with (refine wpList_store_enc by32 one32 (_) rfl rfl Try.ssz32 rfl rfl hA (by omega) ?_;intro w2 hA2 hU2)
    have hU2':=supd_new hU2 hU (fun i hi=>Nat.le_of_eq hi.symm)
    have hA3:=hA2.congr (f':=fun j=>by32 (init2 key ctr nonce 0 j)) (fun j _=>congrArg by32 (init2_zero key ctr nonce j))
    clear hA hU hU2 hA2
    go_loopw [35] (fun i wx=>∃k:Nat,k≤3∧i=.int .i64 k∧Arr wx w.heap.size 157 16 (fun j=>by32 (init2 key ctr nonce k j))∧Ext w wx) (fun i _=>3 - (intOf i).toNat)
    case atStart=>exact⟨0,by omega,rfl,hA3,hU2'⟩
    case round=>
     clear hA3 hU2'
     obtain⟨k,hk,rfl,hA,hU⟩:=hrel
     by_cases hlt:k<3
     · have hNr:=hide (hN'.out.ext hU)
       go_wp2_with (first
        | (go_at_call 117;refine(word_any nb (no+4*k) _ _ nonce (4*k) _ (by omega) (hNr.out.cells (4*k) (by rw[Hnl.out];omega)) (hNr.out.cells (4*k+1) (by rw[Hnl.out];omega)) (hNr.out.cells (4*k+2) (by rw[Hnl.out];omega)) (hNr.out.cells (4*k+3) (by rw[Hnl.out];omega))).mono ?_;rintro e w1 ⟨rfl,hU1⟩)
        | (refine wpList_store_enc by32 one32 (_) rfl rfl Try.ssz32 rfl rfl (hA.ext hU1) (by omega) ?_;intro w2 hA2 hU2))
       go_roundw
       case rel=>exact⟨k+1,by omega,by go_num,hA2.congr (fun j _=>congrArg by32 (init2_step key ctr nonce k j)),supd_new hU2 (hU.trans hU1) (fun i hi=>Nat.le_of_eq hi.symm)⟩
       case measure=>simp[intOf];omega
     · obtain rfl:k=3:=by omega
       clear hk hlt
       go_wp2_with (first
        | (refine wpList_load_arr rfl rfl rfl hA Try.sunder_state Try.ssz_state ?_)
        | (refine wpList_store_whole (n:=16) (f:=fun j=>by32 (init2 key ctr nonce 3 j)) rfl rfl rfl rfl (fun _=>rfl) (Arr.new _ _ _ 16 (fun _=>by32 0) rfl zero16) Try.ssz_state ?_;intro w3 hA3 hU3))
       have hA0:=hA.alloc (.cells #[Value.int .u32 0,.int .u32 0,.int .u32 0,.int .u32 0,.int .u32 0,.int .u32 0,.int .u32 0,.int .u32 0,.int .u32 0,.int .u32 0,.int .u32 0,.int .u32 0,.int .u32 0,.int .u32 0,.int .u32 0,.int .u32 0] 157)
       have hlt:=hA.lt
       have hAs:=hA0.upd hU3 (fun h=>by unfold only at h;omega)
       have hUs:=supd_new hU3 (hU.alloc _) (fun i hi=>by unfold only at hi;have:=hU.size;omega)
       have hgw:w.heap.size<wr.heap.size:=hlt
       clear hA hA0 hU hU3 hlt
       obtain⟨g2,hg2⟩:∃g2,g2=wr.heap.size:=⟨_,rfl⟩
       rw[←hg2]at hA3 hgw ⊢
       clear hg2
       obtain⟨S0,hS0⟩:∃S0,S0=Strm.start key ctr nonce:=⟨_,rfl⟩
       rw[show init2 key ctr nonce 3=S0 from hS0.symm]at hAs hA3 ⊢
       have HS0:=hide hS0
       clear hS0
       go_loopw [48] (fun i wx=>∃k:Nat,k≤10∧i=.int .i64 k∧Arr wx w.heap.size 157 16 (fun j=>by32 (steps dround S0 k j))∧Arr wx g2 157 16 (fun j=>by32 (S0 j))∧Ext w wx) (fun i _=>10 - (intOf i).toNat)
       case atStart=>exact⟨0,by omega,rfl,hAs,hA3,hUs⟩
       case round=>
        clear hAs hA3 hUs
        obtain⟨k,hk,rfl,hA,hB,hU⟩:=hrel
        by_cases hlt:k<10
        · obtain⟨wo,rfl⟩:∃wo:World,wo=wr:=⟨_,rfl⟩
          obtain⟨R0,hR0⟩:∃R0,R0=steps dround S0 k:=⟨_,rfl⟩
          rw[←hR0]at hA
          have HR0:=hide hR0
          clear hR0
          have hd:decide ((k:Int)<10)=true:=decide_eq_true (by omega)
          go_wp2_with fail
          go_loopw [50] (fun i wx=>∃k:Nat,k≤4∧i=.int .i64 k∧Arr wx w.heap.size 157 16 (fun j=>by32 (steps half1 R0 k j))∧Arr wx g2 157 16 (fun j=>by32 (S0 j))∧Ext w wx) (fun i _=>4 - (intOf i).toNat)
          case atStart=>exact⟨0,by omega,rfl,hA,hB,hU⟩
          case round=>
           clear hA hB hU
           obtain⟨j,hj,rfl,hA,hB,hU⟩:=hrel
           by_cases hjl:j<4
           · go_wp2_with (go_at_call 118;refine(quarter_at _ j (4+j) (8+j) (12+j) _ _ _ _ (by omega) (by omega) (by omega) (by omega) (steps half1 R0 j) _ (by omega) (by omega) (by omega) (by omega) hA).mono ?_;rintro e w2 ⟨rfl,hA2,hU2⟩)
             go_roundw
             case rel=>exact⟨j+1,by omega,by go_num,hA2,hB.upd hU2 (fun h=>by unfold only at h;omega),supd_new hU2 hU (fun i hi=>Nat.le_of_eq hi.symm)⟩
             case measure=>simp[intOf];omega
           · obtain rfl:j=4:=by omega
             clear hj hjl
             go_wp2_with fail
             rw[show((4:Nat):Int)=4 from rfl]
             go_loopw [62] (fun i wx=>∃k:Nat,k≤4∧i=.int .i64 k∧Arr wx w.heap.size 157 16 (fun j=>by32 (steps half2 (steps half1 R0 4) k j))∧Arr wx g2 157 16 (fun j=>by32 (S0 j))∧Ext w wx) (fun i _=>4 - (intOf i).toNat)
             case atStart=>exact⟨0,by omega,rfl,hA,hB,hU⟩
             case round=>
              clear hA hB hU
              obtain⟨j,hj,rfl,hA,hB,hU⟩:=hrel
              by_cases hjl:j<4
              · go_wp2_with (go_at_call 118;refine(quarter_at _ j (4+(j+1) % 4) (8+(j+2) % 4) (12+(j+3) % 4) _ _ _ _ (by omega) (by omega) (by omega) (by omega) (steps half2 (steps half1 R0 4) j) _ (by omega) (by omega) (by omega) (by omega) hA).mono ?_;rintro e w2 ⟨rfl,hA2,hU2⟩)
                go_roundw
                case rel=>exact⟨j+1,by omega,by go_num,hA2,hB.upd hU2 (fun h=>by unfold only at h;omega),supd_new hU2 hU (fun i hi=>Nat.le_of_eq hi.symm)⟩
                case measure=>simp[intOf];omega
              · obtain rfl:j=4:=by omega
                clear hj hjl
                go_wp2_with fail
                go_roundw
                case rel=>exact⟨k+1,by omega,by go_num,by rw[HR0.out]at hA;exact hA,hB,hU⟩
                case measure=>simp[intOf];omega
        · obtain rfl:k=10:=by omega
          clear hk hlt
          go_wp2_with (refine wpList_load_arr rfl rfl rfl hA Try.sunder_state Try.ssz_state ?_)
          clear hA
          obtain⟨R,hR⟩:∃R,R=steps dround S0 10:=⟨_,rfl⟩
          rw[←hR]
          have HR:=hide hR
          clear hR
          go_loopw [82,14] (fun i v wx=>∃k A c,k≤16∧i=.int .i64 (k:Nat)∧v=.slice A (4*k) c∧Own wx w.heap.size 5 A c ((outs R S0 k).map by8)∧Arr wx g2 157 16 (fun j=>by32 (S0 j))∧Ext w wx) (fun i _ _=>16 - (intOf i).toNat)
          case atStart=>exact⟨0,none,0,by omega,rfl,rfl,Own.nil,hB,hU⟩
          case round=>
           clear hB hU
           obtain⟨k,A,c',hk,rfl,rfl,hO,hB,hU⟩:=hrel
           by_cases hlt:k<16
           · have hcb:=hB.cell hlt
             have hix:=fun (w:World)=>run_index_arr (P:=Try.prog) Try.sunder_state Try.ssz32 Try.sunder32 rfl (fun j=>.int .u32 (n32 (R j))) hlt .i64 w
             have hO':=hide hO
             clear hO
             go_wp2_with (at_builtin;go_must (refine wpList_app _ by8 one8 _ _ Try.sel8 rfl rfl (xs:=outs R S0 k) (ys:=bytes4 (R k+S0 k)) rfl (outs_length R S0 k).symm (Own.ext hO'.out ((Upd.refl _ _).alloc _)) rfl rfl (Sl.new by8 _ _ (bytes4 (R k+S0 k))) (by rw[outs_length];show(4*k+4)*1≤_;omega) (by rw[outs_length];show 4*k+4≤_;unfold maxLen;omega) (Nat.le_trans hU.size (by simp)) ?_);intro A2 c2 w2 hO2 hU2 hin2)
             have hB2:=(hB.alloc (.cells #[Value.int .u8 (n8 ((R k+S0 k).setWidth 8)),.int .u8 (n8 ((R k+S0 k) >>> 8 |>.setWidth 8)),.int .u8 (n8 ((R k+S0 k) >>> 16 |>.setWidth 8)),.int .u8 (n8 ((R k+S0 k) >>> 24 |>.setWidth 8))] 5)).upd hU2 (hO'.out.ne_arr hB (by decide))
             go_roundw
             case rel=>exact⟨k+1,A2,c2,by omega,by go_num,by rw[outs_length];rfl,hO2,hB2,supd_new hU2 (hU.alloc _) (fun i hi=>(hO'.out.in_ hi).1)⟩
             case measure=>simp[intOf];omega
           · obtain rfl:k=16:=by omega
             clear hk hlt
             go_wp2
             go_ret2
             refine⟨A,c',rfl,?_,?_,hU⟩
             · rw[block_length]
             · rw[HR.out,HS0.out]at hO
               exact hO
end
/- Bytes with the stream, walked. -/
section
open Go.RowKit
open Strm
attribute [local go_sem] steady steadyUpon Cls same_cell by8 by32
attribute [local go_sem] add_u32 xor_u32 xor_u8 inc_u32
theorem ctr_step (x:BitVec 32) (m:Nat):x+BitVec.ofNat 32 m+1=x+BitVec.ofNat 32 (m+1):=by
 rw[BitVec.add_assoc];congr 1;apply BitVec.eq_of_toNat_eq;simp[BitVec.toNat_add]
set_option maxRecDepth 100000 in
set_option maxHeartbeats 1000000 in
theorem xor_any (A B D:Option Addr) (c d n f:Nat) (key nonce b:List (BitVec 8)) (ctr:BitVec 32) (w:World) (hkl:key.length=32) (hnl:nonce.length=12) (hc:32≤c) (hd:12≤d)
 (hK:Sl by8 w A key) (hN:Sl by8 w B nonce) (hn:n=b.length) (hn2:n≤100000000) (hS:Sl by8 w D b):
 Calls Try.prog 84 #[.slice A 32 c,.int .u32 (n32 ctr),.slice B 12 d,.slice D n f] w (RetOK w n (xors key ctr nonce b)):=by
 have hK':=hide hK
 clear hK
 have hN':=hide hN
 clear hN
 have hS':=hide hS
 clear hS
 have Hkl:=hide hkl
 clear hkl
 have Hnl:=hide hnl
 clear hnl
 have Hn:=hide hn
 clear hn
 have hw:wrongB 32 12=false:=rfl
 go_enter Try.func84,Try.ntmps84
 go_wp2_with (first
  | (go_at_call 96;refine(wrong_any _ _ _ _ _ _ _).mono ?_;rintro e w' ⟨rfl,rfl⟩)
  | (at_make;go_must (refine wpList_mk _ _ _ Try.sel8 rfl rfl n rfl rfl rfl rfl (by omega) (by unfold maxLen;omega) by8 rfl rfl (Nat.le_refl _) ?_);rintro g w1 hO rfl hU))
 clear hw
 go_loopw [11,1] (fun i x wr=>∃a m:Nat,a≤n+63∧Hid (a=64*m)∧i=.int .i64 a∧x=.int .u32 (n32 (ctr+BitVec.ofNat 32 m))∧Own wr w.heap.size 5 (some ⟨w.heap.size,0,none⟩) n ((xorTo key ctr nonce b a).map by8)∧Ext w wr) (fun i _ _=>n+64 - (intOf i).toNat)
 case atStart=>exact⟨0,0,by omega,rfl,rfl,by simp,by rw[xorTo_zero,←Hn.out];exact hO,hU⟩
 case round=>
  clear hO hU
  obtain⟨a,m,ha,Ham,rfl,rfl,hO,hU⟩:=hrel
  by_cases hlt:a<n
  · have hO1:=hide hO
    clear hO
    go_wp2_with (go_at_call 97;go_must (refine(sblock_any _ _ _ _ key nonce _ _ Hkl.out Hnl.out hc hd (hK'.out.ext hU) (hN'.out.ext hU)).mono ?_);rintro e w2 ⟨A1,c1,rfl, -,hOk,hU2⟩)
    obtain⟨gk,rfl,hgk1,hgk2⟩:=hOk.open_ (by simp[block_length])
    obtain⟨K,hK⟩:∃K,K=block key (ctr+BitVec.ofNat 32 m) nonce:=⟨_,rfl⟩
    have hKl:K.length=64:=by rw[hK];exact block_length _ _ _
    rw[←hK]at hOk
    have HK:=hide hK
    clear hK
    have HKl:=hide hKl
    clear hKl
    have hKs:=hide hOk.sl
    clear hOk
    have hO2:=hO1.out.ext hU2
    have hU3:=hU.trans hU2
    have hgb:w.heap.size<gk:=by have:=hO1.out.in_ (k:=w.heap.size) rfl;omega
    have hg2:=hide hgk2
    clear hgk1 hgk2 hU hU2 hO1
    obtain⟨wo,rfl⟩:∃wo:World,wo=wr:=⟨_,rfl⟩
    go_loopw [14] (fun i wx=>∃j:Nat,a≤j∧j≤a+64∧j≤n∧i=.int .i64 j∧Own wx w.heap.size 5 (some ⟨w.heap.size,0,none⟩) n ((xorTo key ctr nonce b j).map by8)∧Sl by8 wx (some ⟨gk,0,none⟩) K∧Ext w wx) (fun i _=>n+64 - (intOf i).toNat)
    case atStart=>exact⟨a,by omega,by omega,by omega,rfl,hO2,hKs.out,hU3⟩
    case round=>
     clear hO2 hKs hU3 hg2
     obtain⟨j,hj1,hj2,hj3,rfl,hO,hKs,hU⟩:=hrel
     by_cases hjn:j<n
     · by_cases hja:j<a+64
       · have e0:IntKind.i64.wrap ((j:Int) - (a:Int))=((j - a:Nat):Int):=by rw[IntWalk.i64_in _ (by omega)];omega
         have e1:((j - a:Nat):Int)<64:=by omega
         have e2:(j:Int)<(n:Int):=by omega
         have hja':(j:Int)<(a:Int)+64:=by omega
         have c1:=(hS'.out.ext hU).open_ (by have:=Hn.out;omega)
         obtain⟨sb,so,rfl,hsb,hsc⟩:=c1
         have c2:=hsc j (by have:=Hn.out;omega)
         have c3:=hKs.cells (j - a) (by rw[HKl.out];omega)
         rw[Nat.zero_add]at c3
         have hO':=hide hO
         have hKs':=hide hKs
         clear hsc hO hKs hsb
         go_wp2_with fail
         refine wp_region_plan (Same _) 14 [(false,0),(false,1),(false,2),(false,3),(false,4),(false,5),(false,6),(false,7),(false,8),(false,9),(false,10),(false,11),(false,12),(false,13)] (by kernel_rfl) (by kernel_rfl) rfl (fun hne=>?_)
         repeat (refine head_q rfl (fun K hK=>?_);have hK2:=hide hK;clear hK;go_simp;refine hK2.out _ ?_;clear hK2 K)
         refine head_nil ?_
         try simp only[List.drop_succ_cons,List.drop_zero]
         refine wpList_store_own by8 one8 (gat b j ^^^ gat K (j - a)) rfl rfl Try.ssz8 rfl rfl hO'.out (by rw[xorTo_length,←Hn.out];exact hjn) ?_
         intro w3 hO3 hU3
         have hU3:=hU3.undrew
         have hO4:Own w3 w.heap.size 5 (some ⟨w.heap.size,0,none⟩) n ((xorTo key ctr nonce b (j+1)).map by8):=by
          have h5:=Ham.out
          have h6:=Hn.out
          subst h5
          rw[HK.out,xorTo_step key ctr nonce b m j hj1 (by omega) (by omega)]at hO3
          exact hO3
         have hKs3:=hKs'.out.upd hU3 (fun b o e=>by injection e with e;injection e with e;unfold only;omega)
         have hU4:=supd_new hU3 hU (fun i hi=>Nat.le_of_eq hi.symm)
         clear e0 e1 e2 c2 c3 hne hO3 hU3 hU hO' hKs'
         go_wp2
         go_roundw
         case rel=>exact⟨j+1,by omega,by omega,by omega,by go_num,hO4,hKs3,hU4⟩
         case measure=>simp[intOf];omega
       · have hja':¬(j:Int)<(a:Int)+64:=by omega
         go_wp2
         go_roundw
         case rel=>exact⟨a+64,m+1,by omega,by have:=Ham.out;unfold Hid;omega,by go_num,congrArg (fun x=>Value.int .u32 (n32 x)) (ctr_step ctr m),by rw[show a+64=j by omega];exact hO,hU⟩
         case measure=>simp[intOf];omega
     · have hjn':¬(j:Int)<(n:Int):=by omega
       go_wp2
       go_roundw
       case rel=>exact⟨a+64,m+1,by omega,by have:=Ham.out;unfold Hid;omega,by go_num,congrArg (fun x=>Value.int .u32 (n32 x)) (ctr_step ctr m),by rw[xorTo_full key ctr nonce b (a+64) (by have:=Hn.out;omega),←xorTo_full key ctr nonce b j (by have:=Hn.out;omega)];exact hO,hU⟩
       case measure=>simp[intOf];omega
  · have hlt':¬(a:Int)<(n:Int):=by omega
    go_wp2
    go_ret2
    refine⟨some ⟨w.heap.size,0,none⟩,n,rfl,?_,?_,hU⟩
    · rw[xors_length];exact Hn.out
    · rw[xorTo_full key ctr nonce b a (by have:=Hn.out;omega)]at hO
      exact hO
end
/- The document's words of four bytes are the program's; its first state is the program's. -/
section
open Go.RowKit
namespace Strm
theorem dround_eq (S:Nat→BitVec 32) (k:Nat):dround S k=quarter (quarter (quarter (quarter (quarter (quarter (quarter (quarter S 0 4 8 12) 1 5 9 13) 2 6 10 14) 3 7 11 15) 0 5 10 15) 1 6 11 12) 2 7 8 13) 3 4 9 14:=by simp[dround,steps,half1,half2]
theorem sext_gat {α:Type} [Inhabited α] {xs ys:List α} (hl:xs.length=ys.length) (h:∀i,i<xs.length→gat xs i=gat ys i):xs=ys:=by
 apply List.ext_getElem hl
 intro i h1 h2
 have:=h i h1
 rwa [gat_lt h1,gat_lt h2]at this
theorem xors_back (key:List (BitVec 8)) (ctr:BitVec 32) (nonce b:List (BitVec 8)):xors key ctr nonce (xors key ctr nonce b)=b:=by
 apply sext_gat
 · rw[xors_length,xors_length]
 · intro i hi
   rw[xors_length,xors_length]at hi
   rw[gat_xors (by rw[xors_length];exact hi),gat_xors hi,BitVec.xor_assoc,BitVec.xor_self,BitVec.xor_zero]
end Strm
end
/- The document's stream: small functions and its quarter round, walked. -/
section
open Go.RowKit
open Strm
attribute [local go_sem] steady steadyUpon Cls same_cell by8 by32
attribute [local go_sem] add_u32 xor_u32 or_u32 and_u32 shl_u32 shr_u32 conv_u8_u32 conv_u32_u8 shr_u32'
end
/- The document's block of the stream, walked. -/
section
open Go.RowKit
open Strm
attribute [local go_sem] steady steadyUpon Cls same_cell by8 by32
attribute [local go_sem] add_u32 conv_u32_u8
end
/- The document's bytes with the stream, walked. -/
section
open Go.RowKit
open Strm
attribute [local go_sem] steady steadyUpon Cls same_cell by8 by32
attribute [local go_sem] add_u32 xor_u8
end
/- The chapter's example of the stream, reckoned by the kernel. -/
section
namespace Strm
def M :Nat:=4294967296
def rotN (x s:Nat):Nat:=((x <<< s) % M) ||| (x >>> (32 - s))
theorem rotl_toNat (x:BitVec 32) (s:Nat):(rotl x s).toNat=rotN x.toNat s:=by
 simp[rotl,rotN,BitVec.toNat_or,BitVec.toNat_shiftLeft,BitVec.toNat_ushiftRight,M]
def St (S:Nat→BitVec 32) (l:List Nat):Prop:=l.length=16∧∀j,j<16→(S j).toNat=l.getD j 0
def qK {α:Type} (l:List Nat) (a b c d:Nat) (f:List Nat→α):α:=
 force ((l.getD a 0+l.getD b 0) % M) fun xa=>force (rotN (l.getD d 0 ^^^ xa) 16) fun xd=>force ((l.getD c 0+xd) % M) fun xc=>force (rotN (l.getD b 0 ^^^ xc) 12) fun xb=>
 force ((xa+xb) % M) fun xa=>force (rotN (xd ^^^ xa) 8) fun xd=>force ((xc+xd) % M) fun xc=>force (rotN (xb ^^^ xc) 7) fun xb=>
 forceL ((((l.set a xa).set b xb).set c xc).set d xd) f
def qL (l:List Nat) (a b c d:Nat):List Nat:=qK l a b c d id
theorem qK_eq {α:Type} (l:List Nat) (a b c d:Nat) (f:List Nat→α):qK l a b c d f=f (qL l a b c d):=by
 simp only[qL,qK,force_eq,forceL_eq,id]
theorem getD_set4 (l:List Nat) (a b c d xa xb xc xd j:Nat) (hl:l.length=16) (hab:a<b) (hbc:b<c) (hcd:c<d) (hd:d<16):
 ((((l.set a xa).set b xb).set c xc).set d xd).getD j 0=if j=a then xa else if j=b then xb else if j=c then xc else if j=d then xd else l.getD j 0:=by
 have ha:a<l.length:=by omega
 have hb:b<l.length:=by omega
 have hc:c<l.length:=by omega
 have hdl:d<l.length:=by omega
 simp only[List.getD_eq_getElem?_getD,List.getElem?_set,List.length_set]
 by_cases h1:j=a
 · subst h1
   rw[if_neg (by omega),if_neg (by omega),if_neg (by omega),if_pos rfl,if_pos ha,if_pos rfl];rfl
 · by_cases h2:j=b
   · subst h2
     rw[if_neg (by omega),if_neg (by omega),if_pos rfl,if_pos hb,if_neg h1,if_pos rfl];rfl
   · by_cases h3:j=c
     · subst h3
       rw[if_neg (by omega),if_pos rfl,if_pos hc,if_neg h1,if_neg h2,if_pos rfl];rfl
     · by_cases h4:j=d
       · subst h4
         rw[if_pos rfl,if_pos hdl,if_neg h1,if_neg h2,if_neg h3,if_pos rfl];rfl
       · rw[if_neg (Ne.symm h4),if_neg (Ne.symm h3),if_neg (Ne.symm h2),if_neg (Ne.symm h1),if_neg h1,if_neg h2,if_neg h3,if_neg h4]
theorem St.q {S:Nat→BitVec 32} {l:List Nat} (h:St S l) (a b c d:Nat) (hab:a<b) (hbc:b<c) (hcd:c<d) (hd:d<16):St (quarter S a b c d) (qL l a b c d):=by
 obtain⟨hl,hv⟩:=h
 have ea:=hv a (by omega)
 have eb:=hv b (by omega)
 have ec:=hv c (by omega)
 have ed:=hv d (by omega)
 refine⟨by simp[qL,qK,force_eq,forceL_eq,hl],fun j hj=>?_⟩
 have ej:=hv j hj
 simp only[qL,qK,force_eq,forceL_eq,id]
 rw[getD_set4 l a b c d _ _ _ _ j hl hab hbc hcd hd]
 have n1:a≠b:=by omega
 have n2:a≠c:=by omega
 have n3:a≠d:=by omega
 have n4:b≠c:=by omega
 have n5:b≠d:=by omega
 have n6:c≠d:=by omega
 by_cases h1:j=a
 · subst h1
   simp[quarter,put1,n1,n2,n3,n4,n5,n6,n1.symm,n2.symm,n3.symm,n4.symm,n5.symm,n6.symm,BitVec.toNat_add,BitVec.toNat_xor,rotl_toNat,ea,eb,ec,ed,M]
 · by_cases h2:j=b
   · subst h2
     simp[quarter,put1,n1,n2,n3,n4,n5,n6,n1.symm,n2.symm,n3.symm,n4.symm,n5.symm,n6.symm,BitVec.toNat_add,BitVec.toNat_xor,rotl_toNat,ea,eb,ec,ed,M]
   · by_cases h3:j=c
     · subst h3
       simp[quarter,put1,n1,n2,n3,n4,n5,n6,n1.symm,n2.symm,n3.symm,n4.symm,n5.symm,n6.symm,BitVec.toNat_add,BitVec.toNat_xor,rotl_toNat,ea,eb,ec,ed,M]
     · by_cases h4:j=d
       · subst h4
         simp[quarter,put1,n1,n2,n3,n4,n5,n6,n1.symm,n2.symm,n3.symm,n4.symm,n5.symm,n6.symm,BitVec.toNat_add,BitVec.toNat_xor,rotl_toNat,ea,eb,ec,ed,M]
       · rw[if_neg h1,if_neg h2,if_neg h3,if_neg h4,quarter_ge S a b c d j h1 h2 h3 h4];exact ej
def rK {α:Type} (l:List Nat) (f:List Nat→α):α:=
 qK l 0 4 8 12 fun l=>qK l 1 5 9 13 fun l=>qK l 2 6 10 14 fun l=>qK l 3 7 11 15 fun l=>qK l 0 5 10 15 fun l=>qK l 1 6 11 12 fun l=>qK l 2 7 8 13 fun l=>qK l 3 4 9 14 f
def rL (l:List Nat):List Nat:=rK l id
theorem rK_eq {α:Type} (l:List Nat) (f:List Nat→α):rK l f=f (rL l):=by simp only[rL,rK,qK_eq,id]
theorem St.r {S:Nat→BitVec 32} {l:List Nat} (h:St S l) (k:Nat):St (dround S k) (rL l):=by
 rw[dround_eq]
 simp only[rL,rK,qK_eq,id]
 refine St.q (St.q (St.q (St.q (St.q (St.q (St.q (St.q h _ _ _ _ ?_ ?_ ?_ ?_) _ _ _ _ ?_ ?_ ?_ ?_) _ _ _ _ ?_ ?_ ?_ ?_) _ _ _ _ ?_ ?_ ?_ ?_) _ _ _ _ ?_ ?_ ?_ ?_) _ _ _ _ ?_ ?_ ?_ ?_) _ _ _ _ ?_ ?_ ?_ ?_) _ _ _ _ ?_ ?_ ?_ ?_<;>omega
def rsK {α:Type}:Nat→List Nat→(List Nat→α)→α
 | 0,l,f=>f l
 | n+1,l,f=>rsK n l fun l=>rK l f
theorem St.rs {S:Nat→BitVec 32} {l:List Nat} (h:St S l):∀(n:Nat),∃l',St (steps dround S n) l'∧∀{α:Type} (f:List Nat→α),rsK n l f=f l'
 | 0=>⟨l,h,fun _=>rfl⟩
 | n+1=>by
   obtain⟨l',h1,h2⟩:=St.rs h n
   exact⟨rL l',h1.r n,fun f=>by simp only[rsK,h2,rK_eq]⟩
end Strm
end
end Go.Proofs.Ytbhhjfhepkbfgaa
