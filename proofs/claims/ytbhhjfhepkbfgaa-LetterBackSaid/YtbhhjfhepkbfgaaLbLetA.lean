/- Letters, walked: four, name, side, number. -/
import Derived.Test.YtbhhjfhepkbfgaaLbWirA
import Derived.Test.YtbhhjfhepkbfgaaLbApn
import Derived.Test.YtbhhjfhepkbfgaaLbSgnB
namespace Go.Proofs.Ytbhhjfhepkbfgaa
set_option linter.unusedSimpArgs false
set_option linter.unusedVariables false
open Go.RowKit
open Nt Sha
attribute [local go_sem] steady steadyUpon Cls same_cell anyW
attribute [local irreducible] wpHead wpTree wpHeadR sum
def fourB (m:Nat):List (BitVec 8):=[BitVec.ofNat 8 (m / 16777216),BitVec.ofNat 8 (m / 65536),BitVec.ofNat 8 (m / 256),BitVec.ofNat 8 m]
def letB :List (BitVec 8):=[108,101,116,116,101,114]
def sacB :List (BitVec 8):=[115,97,99,114,105,115,116,121]
def nameB (s f t:Nat):List (BitVec 8):=letB++fourB s++fourB f++fourB t
def inB (z:Int):Bool:=decide (0≤z∧z≤1048576)
theorem by8_q (q:Nat) (v:Int) (h:v=((q % 256:Nat):Int)):by8 (BitVec.ofNat 8 q)=.int .u8 v:=by
 unfold by8 n8
 rw[BitVec.toNat_ofNat,h]
theorem fourB_cells (m:Nat) (hm:m≤1048576):(#[.int .u8 ((m:Int) / 16777216),.int .u8 ((m:Int) / 65536),.int .u8 ((m:Int) / 256 % 256),.int .u8 ((m:Int) % 256)]:Array Value)=((fourB m).map by8).toArray:=by
 show _=#[by8 _,by8 _,by8 _,by8 _]
 rw[by8_q (m / 16777216) ((m:Int) / 16777216) (by omega),by8_q (m / 65536) ((m:Int) / 65536) (by omega),by8_q (m / 256) ((m:Int) / 256 % 256) (by omega),by8_q m ((m:Int) % 256) (by omega)]
set_option maxRecDepth 100000 in
set_option maxHeartbeats 1000000 in
theorem lfour_lit (w:World) (b n m N:Nat) (bs:List (BitVec 8)) (hS:Sl by8 w (some ⟨b,0,none⟩) bs) (hn:bs.length=n) (hN:n+4=N) (hn1:n≤1000) (hm:m≤1048576):
 Calls Try.prog 82 #[.slice (some ⟨b,0,none⟩) n n,.int .i64 (m:Int)] w (RetS w N (bs++fourB m)):=by
 have hN':(bs++fourB m).length=N:=by rw[List.length_append,hn,←hN];rfl
 have HS:=hide hS
 have Hn:=hide hn
 have HN:=hide hN'
 have hNm:N≤2000:=by omega
 clear hS hn hN hN'
 go_enter Try.func82,Try.ntmps82
 go_wp2_with (at_builtin;go_must (refine name_l2 (fun W2 hW2=>?_));go_must (have h12:Ext w W2:=(by rw[hW2];exact(Upd.refl _ _).alloc _));go_must (have hSl2:Sl by8 W2 (some ⟨w.heap.size,0,none⟩) (fourB m):=(by rw[hW2,fourB_cells m hm];exact Sl.new by8 w 5 (fourB m)));clear hW2;go_must (refine wpList_apn by8 one8 Try.el8 bs (fourB m) (bs++fourB m) N rfl HN.out (by omega) (by unfold maxLen;omega) rfl rfl rfl Hn.out (HS.out.ext h12) rfl rfl hSl2 (by omega) ?_);intro A5 c5 w5 hO5 hU5;have hO6:=hO5.mono (B':=w.heap.size) h12.size;have hG:=h12.trans hU5)
 go_ret
 exact⟨A5,c5,rfl,hO6,hG⟩
def RetFo (w:World) (B N:Nat) (A:Option Addr) (bs:List (BitVec 8)) (e:Ending) (w':World):Prop:=∃A' c',e=.returned (.slice A' N c')∧Own w' B 5 A' c' (bs.map by8)∧Upd (inA A) w w'
set_option maxRecDepth 100000 in
set_option maxHeartbeats 1000000 in
theorem lfour_own (w:World) (A:Option Addr) (B n c m N:Nat) (bs:List (BitVec 8)) (hO:Own w B 5 A c (bs.map by8)) (hB:B≤w.heap.size) (hn:bs.length=n) (hN:n+4=N) (hn1:n≤1000) (hm:m≤1048576):
 Calls Try.prog 82 #[.slice A n c,.int .i64 (m:Int)] w (RetFo w B N A (bs++fourB m)):=by
 have hN':(bs++fourB m).length=N:=by rw[List.length_append,hn,←hN];rfl
 have HO:=hide hO
 have Hn:=hide hn
 have HN:=hide hN'
 have hNm:N≤2000:=by omega
 clear hO hn hN hN'
 go_enter Try.func82,Try.ntmps82
 go_wp2_with (at_builtin;go_must (refine name_l2 (fun W2 hW2=>?_));go_must (have h12:Ext w W2:=(by rw[hW2];exact(Upd.refl _ _).alloc _));go_must (have hSl2:Sl by8 W2 (some ⟨w.heap.size,0,none⟩) (fourB m):=(by rw[hW2,fourB_cells m hm];exact Sl.new by8 w 5 (fourB m)));clear hW2;go_must (refine wpList_apd by8 one8 Try.el8 bs (fourB m) (bs++fourB m) N rfl HN.out (by omega) (by unfold maxLen;omega) rfl rfl rfl Hn.out (HO.out.ext h12) rfl rfl hSl2 (Nat.le_trans hB h12.size) ?_);intro A5 c5 w5 hO5 hU5 hin5;have hG:Upd (inA A) w w5:=(h12.mono (fun _ _ h=>h.elim)).trans hU5)
 go_ret
 exact⟨A5,c5,rfl,hO5,hG⟩
set_option maxRecDepth 100000 in
set_option maxHeartbeats 1000000 in
theorem lname_any (w:World) (s f t:Nat) (hs:s≤1048576) (hf:f≤1048576) (ht:t≤1048576):Calls Try.prog 53 #[.int .i64 (s:Int),.int .i64 (f:Int),.int .i64 (t:Int)] w (RetS w 18 (nameB s f t)):=by
 have hc1:=fun w=>Lib.run_convert_bytes_const (P:=Try.prog) w 23 5 #[.int .u8 108,.int .u8 101,.int .u8 116,.int .u8 116,.int .u8 101,.int .u8 114] 6 6 Try.under_bs Try.under8
 have hEa:Ext w (w.alloc (.cells #[.int .u8 108,.int .u8 101,.int .u8 116,.int .u8 116,.int .u8 101,.int .u8 114] 5 (6,7))):=(Upd.refl _ _).alloc _
 have hS:Sl by8 (w.alloc (.cells #[.int .u8 108,.int .u8 101,.int .u8 116,.int .u8 116,.int .u8 101,.int .u8 114] 5 (6,7))) (some ⟨w.heap.size,0,none⟩) letB:=Sl.mark by8 w 5 (6,7) letB
 have HS:=hide hS
 have HE:=hide hEa
 clear hS hEa
 go_enter Try.func53,Try.ntmps53
 go_wp2_with fail
 refine(lfour_lit _ w.heap.size 6 s 10 letB HS.out rfl rfl (by omega) hs).mono ?_
 rintro e w1 ⟨A1,c1,rfl,hO1,hU1⟩
 have hOa:=hO1.mono (B':=w.heap.size) HE.out.size
 have hG1:=HE.out.trans hU1
 clear hO1 hU1
 go_wp2_with fail
 refine(lfour_own w1 A1 w.heap.size 10 c1 f 14 (letB++fourB s) hOa hG1.size rfl rfl (by omega) hf).mono ?_
 rintro e w2 ⟨A2,c2,rfl,hO2,hU2⟩
 have hG2:=upd_new hU2 hG1 (fun q hq=>(hOa.in_ hq).1)
 clear hU2
 go_wp2_with fail
 refine(lfour_own w2 A2 w.heap.size 14 c2 t 18 (letB++fourB s++fourB f) hO2 hG2.size rfl rfl (by omega) ht).mono ?_
 rintro e w3 ⟨A3,c3,rfl,hO3,hU3⟩
 have hG3:=upd_new hU3 hG2 (fun q hq=>(hO2.in_ hq).1)
 clear hU3
 go_wp2_with fail
 go_ret
 exact⟨A3,c3,rfl,hO3,hG3⟩
def byZ (z:Int):Value:=.int .i64 z
set_option maxRecDepth 100000 in
set_option maxHeartbeats 1000000 in
theorem lnumber_any (w:World) (A:Option Addr) (n c:Nat) (zs:List Int) (hS:Sl byZ w A zs) (hn:zs.length=n) (hn9:n≤1000):
 Calls Try.prog 52 #[.slice A n c] w fun e w'=>e=.returned (.bool (zs.all inB))∧w'=w:=by
 have HS:=hide hS
 have Hn:=hide hn
 obtain⟨t,ht⟩:∃t,t=zs.all inB:=⟨_,rfl⟩
 rw[←ht]
 have Ht:=hide ht
 clear hS hn ht
 go_enter Try.func52,Try.ntmps52
 go_wp2_with fail
 go_loopw [7,4] (fun i v wx=>∃j:Nat,j≤n∧i=.int .i64 (j:Int)∧Hid (∀q,q<j→inB (gat zs q)=true)∧wx=w) (fun i _ _=>n - (intOf i).toNat)
 case atStart=>exact⟨0,Nat.zero_le _,rfl,hide (fun q hq=>absurd hq (by omega)),rfl⟩
 case round=>
  obtain⟨j,hj,rfl,hall,rfl⟩:=hrel
  by_cases hlt:j<n
  case neg=>
   obtain rfl:n=j:=by omega
   have hlti:¬((n:Int)<(n:Int)):=by omega
   obtain rfl:t=true:=by
    rw[Ht.out,List.all_eq_true]
    intro x hx
    obtain⟨i,hi,rfl⟩:=List.getElem_of_mem hx
    rw[←gat_lt hi]
    exact hall.out i (by rw[←Hn.out];exact hi)
   go_wp2_with fail
   go_ret
   exact⟨rfl,rfl⟩
  case pos=>
   have hlti:(j:Int)<n:=by omega
   obtain⟨b,o,rfl,q0⟩:=HS.out j (by rw[Hn.out];exact hlt)
   obtain⟨x,hx⟩:∃x,x=gat zs j:=⟨_,rfl⟩
   rw[←hx]at q0
   have q1:wr.cell? ⟨b,o+j,none⟩=some (.int .i64 x):=q0
   have Hx:=hide hx
   clear hx q0
   by_cases h0:x<0
   · obtain rfl:t=false:=by
      rw[Ht.out,List.all_eq_false]
      exact⟨gat zs j,by rw[gat_lt (by rw[Hn.out];exact hlt)];exact List.getElem_mem _,by rw[←Hx.out];unfold inB;rw[decide_eq_false (by omega)];decide⟩
     go_wp2_with fail
     go_ret
     exact⟨rfl,rfl⟩
   · by_cases h1:1048576<x
     · obtain rfl:t=false:=by
        rw[Ht.out,List.all_eq_false]
        exact⟨gat zs j,by rw[gat_lt (by rw[Hn.out];exact hlt)];exact List.getElem_mem _,by rw[←Hx.out];unfold inB;rw[decide_eq_false (by omega)];decide⟩
       go_wp2_with fail
       go_ret
       exact⟨rfl,rfl⟩
     · go_wp2_with fail
       go_roundw
       case rel=>
        refine⟨j+1,by omega,by go_num,hide (fun q hq=>?_),trivial⟩
        by_cases hqj:q<j
        · exact hall.out q hqj
        · obtain rfl:q=j:=by omega
          rw[←Hx.out];unfold inB;exact decide_eq_true (by omega)
       case measure=>simp[intOf];omega
end Go.Proofs.Ytbhhjfhepkbfgaa
