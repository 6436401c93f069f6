/- The document's keys out of keys, walked. -/
import Derived.Test.YtbhhjfhepkbfgaaGnMacR
namespace Go.Proofs.Ytbhhjfhepkbfgaa
set_option linter.unusedSimpArgs false
set_option linter.unusedVariables false
open Go.RowKit
open Sha
open Mac
attribute [local go_sem] steady steadyUpon Cls same_cell by8 by32
def MRetO (w:World) (n:Nat) (bs:List (BitVec 8)) (e:Ending) (w':World):Prop:=
 ∃A c,e=.returned (.slice A n c)∧Ows w' w.heap.size 5 A c (bs.map by8)∧Ext w w'
theorem n8_mod (k:Nat) (h:k<255):n8 (BitVec.ofNat 8 (k+1))=(k:Int)+1:=by
 unfold n8
 rw[BitVec.toNat_ofNat]
 omega
set_option maxRecDepth 100000 in
set_option maxHeartbeats 2000000 in
theorem rexpand_any (A:Option Addr) (n c:Nat) (key:List (BitVec 8)) (D:Option Addr) (m d:Nat) (info:List (BitVec 8)) (N:Nat) (w:World) (hS:Sl by8 w A key) (hn:key.length=n) (hc:n≤c) (hm:c≤maxLen) (hl:n≤10000000)
 (hS':Sl by8 w D info) (hn':info.length=m) (hd:m≤d) (hd':d≤maxLen) (hl':m≤1000000) (hN:N≤8160):
 Calls Try.prog 75 #[.slice A n c,.slice D m d,.int .i64 N] w (MRetO w N (expand key info N)):=by
 have HS:=hide hS
 have Hn:=hide hn
 have Hm:=hide hm
 have HS':=hide hS'
 have Hn':=hide hn'
 have Hd':=hide hd'
 clear hS hn hm hS' hn' hd'
 have hini:∀i,inA (some ⟨w.heap.size+1,0,none⟩) i→¬inA (some ⟨w.heap.size,0,none⟩) i:=fun i h1 h2=>by simp[inA]at h1 h2;omega
 have hO1i:Own ((w.alloc (.cells #[] 5)).alloc (.cells #[] 5)) w.heap.size 5 (some ⟨w.heap.size,0,none⟩) 0 ((parts key info 0).map by8):=(rep_nil w (Nat.le_refl _)).ext ((Upd.refl _ _).alloc _)
 have hO2i:Own ((w.alloc (.cells #[] 5)).alloc (.cells #[] 5)) w.heap.size 5 (some ⟨w.heap.size+1,0,none⟩) 0 ((Mac.part key info 0).map by8):=by
  have:=rep_nil (w.alloc (.cells #[] 5)) (B:=w.heap.size) (by simp)
  rw[show(w.alloc (.cells #[] 5)).heap.size=w.heap.size+1 by simp]at this
  exact this
 have Hini:=hide hini
 have HO1i:=hide hO1i
 have HO2i:=hide hO2i
 clear hini hO1i hO2i
 go_enter Try.func75,Try.ntmps75
 go_wp2_with fail
 go_loopw [7,8,9] (fun v u i wx=>∃k A1 c1 A2 c2,32*k≤N+31∧v=.slice A1 (32*k) c1∧u=.slice A2 (plen k) c2∧i=.int .i64 ((k:Int)+1)∧Own wx w.heap.size 5 A1 c1 ((parts key info k).map by8)∧Own wx w.heap.size 5 A2 c2 ((Mac.part key info k).map by8)∧(∀i,inA A2 i→¬inA A1 i)∧Ext w wx) (fun v _ _ _=>N+32 - lenV v)
 case atStart=>exact⟨0,_,_,_,_,by omega,rfl,rfl,rfl,HO1i.out,HO2i.out,Hini.out,((Upd.refl _ _).alloc _).alloc _⟩
 case round=>
  clear Hini HO1i HO2i
  obtain⟨k,A1,c1,A2,c2,hk,rfl,rfl,rfl,hO1,hO2,hdis,hU⟩:=hrel
  have hO1':=hide hO1
  have hO2':=hide hO2
  have Hdis:=hide hdis
  clear hO1 hO2 hdis
  by_cases hlt:32*k<N
  · have hd1:decide (32*(k:Int)<N)=true:=decide_eq_true (by omega)
    have hpl2:plen k≤32:=by cases k<;>simp[plen]
    have hparts:=Pts.three (wr.alloc (.cells #[.int .u8 (n8 (BitVec.ofNat 8 (k+1)))] 5)) 23 ⟨A2,plen k,c2,Mac.part key info k⟩ ⟨D,m,d,info⟩ ⟨some ⟨wr.heap.size,0,none⟩,1,1,[BitVec.ofNat 8 (k+1)]⟩
     ((hO2'.out.mpt (part_length key info k)).ext ((Upd.refl _ _).alloc _)) ⟨HS'.out.ext (hU.alloc _),Hn'.out,hd,Hd'.out⟩ ⟨Sl.new by8 wr 5 [BitVec.ofNat 8 (k+1)],rfl,Nat.le_refl _,by simp[maxLen]⟩
    rw[show(wr.alloc (.cells #[.int .u8 (n8 (BitVec.ofNat 8 (k+1)))] 5)).heap.size=wr.heap.size+1 by simp]at hparts
    rw[n8_mod k (by omega)]at hparts
    have Hparts:=hide hparts
    clear hparts
    go_wp2_with fail
    refine(join_any _ 3 3 [⟨A2,plen k,c2,Mac.part key info k⟩,⟨D,m,d,info⟩,⟨some ⟨wr.heap.size,0,none⟩,1,1,[BitVec.ofNat 8 (k+1)]⟩] (plen k+m+1) _ Hparts.out rfl (by rw[mflat3];simp only;rw[List.length_append,List.length_append,part_length,Hn'.out];rfl) (by omega) (by simp[maxLen])).mono ?_
    rintro e w2 ⟨A5,c5,rfl,hO5,hU5⟩
    rw[mflat3]at hO5
    have hU5':Ext wr w2:=(((Upd.refl _ _).alloc _).alloc _).trans hU5
    have hp5:=hide (hO5.mpt (n:=plen k+m+1) (by rw[List.length_append,List.length_append,part_length,Hn'.out];rfl))
    clear hO5 hU5 Hparts
    go_wp2_with fail
    refine(rtag_any A n c key A5 (plen k+m+1) c5 (Mac.part key info k++info++[BitVec.ofNat 8 (k+1)]) w2 (HS.out.ext (hU.trans hU5')) Hn.out hc Hm.out hl hp5.out.1 hp5.out.2.1 hp5.out.2.2.1 hp5.out.2.2.2 (by omega)).mono ?_
    rintro e w3 ⟨A3,c3,rfl,hO3,hU3⟩
    have hO3':Hid (Own w3 w2.heap.size 5 A3 c3 ((Mac.part key info (k+1)).map by8)):=hide hO3
    have hU3':Ext wr w3:=hU5'.trans hU3
    have hs23:=hU5'.size
    clear hO3 hp5 hU3
    go_wp2_with (at_builtin;go_must (refine wpList_apd by8 one8 Try.el8 (parts key info k) (Mac.part key info (k+1)) (parts key info (k+1)) (32*(k+1)) rfl (parts_length key info (k+1)) (by omega) (by unfold maxLen;omega) rfl rfl rfl (parts_length key info k) (hO1'.out.ext hU3') rfl (part_length key info (k+1)) hO3'.out.sl (Nat.le_trans hU.size hU3'.size) ?_);intro A4 c4 w4 hO4 hU4 hin4)
    have hn31:∀i,inA A3 i→¬inA A1 i:=fun i h3 h1=>by have:=(hO3'.out.in_ h3).1;have:=(hO1'.out.in_ h1).2;omega
    have hO5:=hO3'.out.upd hU4 hn31
    have hU5:=upd_new hU4 (hU.trans hU3') (fun i hi=>(hO1'.out.in_ hi).1)
    have hd5:∀i,inA A3 i→¬inA A4 i:=fun i h3 h4=>by
      rcases hin4 i h4 with h | h
      · exact hn31 i h3 h
      · have:=(hO3'.out.in_ h3).2;omega
    exact⟨⟨k+1,A4,c4,A3,c3,by omega,rfl,rfl,congrArg (Value.int .i64) (by omega),hO4,hO5.mono (Nat.le_trans hU.size hs23),hd5,hU5⟩,by simp only[lenV];omega⟩
  · have hd1:decide (32*(k:Int)<N)=false:=decide_eq_false (by omega)
    have hcN:N≤c1:=by have:=hO1'.out.cap.1;rw[List.length_map,parts_length]at this;omega
    have hs1:∀w':World,(Instr.sliceAt 23 (.slice A1 (32*k) c1) none (some (.int .i64 (N:Int))) none).run Try.prog w'=.ok (.slice A1 N c1) w':=fun w'=>
     run_cut_h (P:=Try.prog) Try.under_bs Try.sz8 A1 (32*k) c1 N .i64 hcN w'
    go_wp2_with fail
    go_ret
    refine⟨A1,c1,rfl,?_,hU⟩
    have:=hO1'.out.ows.cut (n:=N) (m:=c1) (by rw[parts_length];omega) hcN (Nat.le_refl _)
    rwa [parts_take key info k N (by omega)]at this
theorem rderive_any (A:Option Addr) (n c:Nat) (salt:List (BitVec 8)) (D:Option Addr) (m d:Nat) (sec:List (BitVec 8)) (F:Option Addr) (l f:Nat) (info:List (BitVec 8)) (N:Nat) (w:World)
 (hS:Sl by8 w A salt) (hn:salt.length=n) (hc:n≤c) (hm:c≤maxLen) (hl:n≤10000000)
 (hS':Sl by8 w D sec) (hn':sec.length=m) (hd:m≤d) (hd':d≤maxLen) (hl':m≤10000000)
 (hS2:Sl by8 w F info) (hn2:info.length=l) (hd2:l≤f) (hd2':f≤maxLen) (hl2:l≤1000000) (hN:N≤8160):
 Calls Try.prog 43 #[.slice A n c,.slice D m d,.slice F l f,.int .i64 N] w (MRetO w N (expand (tag salt sec) info N)):=by
 have HS2:=hide hS2
 have Hn2:=hide hn2
 have Hd2':=hide hd2'
 clear hS2 hn2 hd2'
 have hex:=rtag_any A n c salt D m d sec w hS hn hc hm hl hS' hn' hd hd' hl'
 have Hex:=hide hex
 clear hex hS hn hm hS' hn' hd'
 go_enter Try.func43,Try.ntmps43
 go_wp2_with fail
 refine Hex.out.mono ?_
 rintro e w1 ⟨A1,c1,rfl,hO1,hU1⟩
 have hp:=hO1.mpt (tag_length _ _)
 have Hp:=hide hp
 clear hp hO1 Hex
 go_wp2_with fail
 refine(rexpand_any A1 32 c1 (tag salt sec) F l f info N w1 Hp.out.1 (tag_length _ _) Hp.out.2.2.1 Hp.out.2.2.2 (by omega) (HS2.out.ext hU1) Hn2.out hd2 Hd2'.out hl2 hN).mono ?_
 rintro e w2 ⟨A2,c2,rfl,hO2,hU2⟩
 have HO2:=hide hO2
 clear hO2
 go_wp2_with fail
 go_ret
 exact⟨A2,c2,rfl,HO2.out.low hU1.size,hU1.trans hU2⟩
end Go.Proofs.Ytbhhjfhepkbfgaa
