/- The document's tags and keys, walked. -/
import Derived.Test.YtbhhjfhepkbfgaaGnMacs
import Derived.Test.YtbhhjfhepkbfgaaGnShar
namespace Go.Proofs.Ytbhhjfhepkbfgaa
set_option linter.unusedSimpArgs false
set_option linter.unusedVariables false
open Go.RowKit
open Sha
open Mac
attribute [local go_sem] steady steadyUpon Cls same_cell by8 by32
attribute [local go_sem] xor_u8
theorem derive_any (A:Option Addr) (n c:Nat) (salt:List (BitVec 8)) (D:Option Addr) (m d:Nat) (sec:List (BitVec 8)) (F:Option Addr) (l f:Nat) (info:List (BitVec 8)) (N:Nat) (w:World)
 (hS:Sl by8 w A salt) (hn:salt.length=n) (hc:n≤c) (hm:c≤maxLen) (hl:n≤10000000)
 (hS':Sl by8 w D sec) (hn':sec.length=m) (hd:m≤d) (hd':d≤maxLen) (hl':m≤10000000)
 (hS2:Sl by8 w F info) (hn2:info.length=l) (hd2:l≤f) (hd2':f≤maxLen) (hl2:l≤1000000) (hN:N≤8160):
 Calls Try.prog 33 #[.slice A n c,.slice D m d,.slice F l f,.int .i64 N] w (MRetE w N (expand (tag salt sec) info N)):=by
 have HS2:=hide hS2
 have Hn2:=hide hn2
 have Hd2':=hide hd2'
 clear hS2 hn2 hd2'
 have hex:=extract_any A n c salt D m d sec w hS hn hc hm hl hS' hn' hd hd' hl'
 have Hex:=hide hex
 clear hex hS hn hm hS' hn' hd'
 go_enter Try.func33,Try.ntmps33
 go_wp2_with fail
 refine Hex.out.mono ?_
 rintro e w1 ⟨A1,c1,rfl,hO1,hU1⟩
 have hp:=hO1.mpt (tag_length _ _)
 have Hp:=hide hp
 clear hp hO1 Hex
 go_wp2_with fail
 refine(expand_any A1 32 c1 (tag salt sec) F l f info N w1 Hp.out.1 (tag_length _ _) Hp.out.2.2.1 Hp.out.2.2.2 (by omega) (HS2.out.ext hU1) Hn2.out hd2 Hd2'.out hl2 hN).mono ?_
 rintro e w2 ⟨A2,c2,rfl,hO2,hU2⟩
 have HO2:=hide hO2
 clear hO2
 go_wp2_with fail
 go_ret2
 exact⟨A2,c2,rfl,HO2.out.low hU1.size,hU1.trans hU2⟩
set_option maxRecDepth 100000 in
set_option maxHeartbeats 1000000 in
theorem join_any (A:Option Addr) (n c:Nat) (ps:List Pt) (N:Nat) (w:World) (hP:Pts w A ps) (hn:ps.length=n) (hN:(flat ps).length=N) (hl:N≤100000000) (hm:n≤maxLen):
 Calls Try.prog 93 #[.slice A n c] w (RetS w N (flat ps)):=by
 unfold maxLen at hm
 have Hn:=hide hn
 have HN:=hide hN
 have HP:=hide hP
 clear hn hN hP
 go_enter Try.func93,Try.ntmps93
 go_wp2_with fail
 go_loopw [9,3,5] (fun i v _ wx=>∃k A1 c1 l,k≤n∧i=.int .i64 (k:Nat)∧v=.slice A1 l c1∧(flat (ps.take k)).length=l∧Own wx w.heap.size 5 A1 c1 ((flat (ps.take k)).map by8)∧Ext w wx) (fun i _ _ _=>n - (intOf i).toNat)
 case atStart=>exact⟨0,_,_,0,by omega,rfl,rfl,rfl,rep_nil w (Nat.le_refl _),(Upd.refl _ _).alloc _⟩
 case round=>
  obtain⟨k,A1,c1,l,hk,rfl,rfl,hl1,hO,hU⟩:=hrel
  have hO':=hide hO
  have Hl1:=hide hl1
  clear hO hl1
  by_cases hlt:k<n
  · have hlti:(k:Int)<n:=by omega
    have hd:decide ((k:Int)<n)=true:=decide_eq_true (by omega)
    obtain⟨b,o,rfl,_,hc⟩:=(HP.out.ext hU).1.open_ (by have:=Hn.out;omega)
    have hck:=hc k (by have:=Hn.out;omega)
    unfold Pt.val at hck
    have Hok:=hide ((HP.out.ext hU).2 k (by have:=Hn.out;omega))
    have hft:=flat_take (ps:=ps) (k:=k) (by have:=Hn.out;omega)
    have hle:=flat_le ps (k+1)
    have hlen:(flat (ps.take (k+1))).length=l+(gat ps k).n:=by rw[←hft,List.length_append,Hl1.out,Hok.out.2.1]
    have hb:l+(gat ps k).n≤100000000:=by have:=HN.out;omega
    have Hft:=hide hft
    have Hlen:=hide hlen
    clear hc hft hle hlen
    go_wp2_with (at_builtin;go_must (refine wpList_apd by8 one8 Try.el8 (flat (ps.take k)) (gat ps k).bs (flat (ps.take (k+1))) (l+(gat ps k).n) Hft.out Hlen.out (by omega) (by unfold maxLen;omega) rfl rfl rfl Hl1.out hO'.out rfl Hok.out.2.1 Hok.out.1 hU.size ?_);intro A2 c2 w2 hO2 hU2 hin2)
    go_roundw
    case rel=>exact⟨k+1,A2,c2,_,by omega,by go_num,rfl,Hlen.out,hO2,upd_new hU2 hU (fun i hi=>(hO'.out.in_ hi).1)⟩
    case measure=>simp[intOf];omega
  · obtain rfl:k=n:=by omega
    clear hk hlt
    have hft:flat (ps.take k)=flat ps:=by rw[List.take_of_length_le (by have:=Hn.out;omega)]
    rw[hft]at hO' Hl1
    obtain rfl:l=N:=Hl1.out.symm.trans HN.out
    clear hft
    go_wp2_with fail
    go_ret
    exact⟨A1,c1,rfl,hO'.out,hU⟩
theorem xor54 (x:BitVec 8):bits .xor .u8 (n8 x) 54=n8 (x ^^^ 54):=xor_u8 x 54
theorem xor92 (x:BitVec 8):bits .xor .u8 (n8 x) 92=n8 (x ^^^ 92):=xor_u8 x 92
theorem x054 :bits .xor .u8 0 54=54:=by decide
theorem x092 :bits .xor .u8 0 92=92:=by decide
attribute [local go_sem] xor54 xor92 x054 x092
theorem pad_step (key:List (BitVec 8)) (x:BitVec 8) (k:Nat) (h:k<64):(padk key x).take k++[gat (kb key) k ^^^ x]=(padk key x).take (k+1):=by
 rw[List.take_succ_eq_append_getElem (by rw[padk_length];exact h),←padk_gat key x k h,gat_lt (by rw[padk_length];exact h)]
theorem take_len (key:List (BitVec 8)) (x:BitVec 8) (k:Nat) (h:k≤64):((padk key x).take k).length=k:=by rw[List.length_take,padk_length];omega
theorem pad_step0 (key:List (BitVec 8)) (x:BitVec 8) (k:Nat) (h:k<64) (h0:gat (kb key) k=0):(padk key x).take k++[x]=(padk key x).take (k+1):=by
 rw[←pad_step key x k h,h0]
 simp
set_option maxRecDepth 100000 in
set_option maxHeartbeats 4000000 in
theorem rtag_any (A:Option Addr) (n c:Nat) (key:List (BitVec 8)) (D:Option Addr) (m d:Nat) (msg:List (BitVec 8)) (w:World) (hS:Sl by8 w A key) (hn:key.length=n) (hc:n≤c) (hm:c≤maxLen) (hl:n≤10000000)
 (hS':Sl by8 w D msg) (hn':msg.length=m) (hd_:m≤d) (hd':d≤maxLen) (hl':m≤10000000):
 Calls Try.prog 76 #[.slice A n c,.slice D m d] w (RetS w 32 (tag key msg)):=by
 have HS:=hide hS
 have Hn:=hide hn
 have Hm:=hide hm
 have HS':=hide hS'
 have Hn':=hide hn'
 have Hd':=hide hd'
 clear hS hn hm hS' hn' hd'
 by_cases h64:64<n
 · have hd0:decide ((64:Int)<(n:Int))=true:=decide_eq_true (by omega)
   go_enter Try.func76,Try.ntmps76
   go_wp2_with fail
   refine(rsum_any A n c key w HS.out Hn.out (by omega)).mono ?_
   rintro e w1 ⟨A0,c0,rfl,hO0,hU0⟩
   have hke:kb key=sum key:=by unfold kb;rw[if_pos (by rw[Hn.out];exact h64)]
   have hkl:(kb key).length=32:=by rw[hke];exact sum_length _
   have hKs:Hid (Sl by8 w1 A0 (kb key)):=hide (by rw[hke];exact hO0.sl)
   have Hkl:=hide hkl
   have hUw:Ext w w1:=hU0
   clear hke hkl hO0 hU0
   go_wp2_with fail
   have hini:∀i,inA (some ⟨w1.heap.size+1,0,none⟩) i→¬inA (some ⟨w1.heap.size,0,none⟩) i:=fun i h1 h2=>by simp[inA]at h1 h2;omega
   have hO1i:Own ((w1.alloc (.cells #[] 5)).alloc (.cells #[] 5)) w1.heap.size 5 (some ⟨w1.heap.size,0,none⟩) 0 (((padk key 0x36).take 0).map by8):=(rep_nil w1 (Nat.le_refl _)).ext ((Upd.refl _ _).alloc _)
   have hO2i:Own ((w1.alloc (.cells #[] 5)).alloc (.cells #[] 5)) w1.heap.size 5 (some ⟨w1.heap.size+1,0,none⟩) 0 (((padk key 0x5c).take 0).map by8):=by
    have:=rep_nil (w1.alloc (.cells #[] 5)) (B:=w1.heap.size) (by simp)
    rw[show(w1.alloc (.cells #[] 5)).heap.size=w1.heap.size+1 by simp]at this
    exact this
   go_loopw [7,5,6,8] (fun i v u _ wx=>∃k A1 c1 A2 c2,k≤64∧i=.int .i64 (k:Nat)∧v=.slice A1 k c1∧u=.slice A2 k c2∧Own wx w1.heap.size 5 A1 c1 (((padk key 0x36).take k).map by8)∧Own wx w1.heap.size 5 A2 c2 (((padk key 0x5c).take k).map by8)∧(∀i,inA A2 i→¬inA A1 i)∧Ext w1 wx) (fun i _ _ _ _=>64 - (intOf i).toNat)
   case atStart=>exact⟨0,_,_,_,_,by omega,rfl,rfl,rfl,hO1i,hO2i,hini,((Upd.refl _ _).alloc _).alloc _⟩
   case round=>
    clear hini hO1i hO2i
    obtain⟨k,A1,c1,A2,c2,hk,rfl,rfl,rfl,hO1,hO2,hdis,hU⟩:=hrel
    have hO1':=hide hO1
    have hO2':=hide hO2
    have Hdis:=hide hdis
    clear hO1 hO2 hdis
    by_cases hlt:k<64
    · have hlti:(k:Int)<64:=by omega
      have hd:decide ((k:Int)<64)=true:=decide_eq_true (by omega)
      by_cases hkl:k<(kb key).length
      · have hd2:decide ((k:Int)<32)=true:=decide_eq_true (by have:=Hkl.out;omega)
        have hk2:(k:Int)<32:=by have:=Hkl.out;omega
        obtain⟨b,o,rfl,_,hc⟩:=(hKs.out.ext hU).open_ (by omega)
        have ck:=hc k hkl
        unfold by8 at ck
        clear hc
        go_wp2_with (first
         | (at_builtin;refine wpList_apd (o:=⟨some 32,_,_,_,_,_⟩) by8 one8 Try.el8 ((padk key 0x36).take k) [gat (kb key) k ^^^ 0x36] ((padk key 0x36).take (k+1)) (k+1) (pad_step key 0x36 k hlt) (take_len key 0x36 (k+1) hlt) (by omega) (by unfold maxLen;omega) rfl rfl rfl (take_len key 0x36 k hk) (hO1'.out.ext ((Upd.refl _ _).alloc _)) rfl rfl (Sl.new by8 _ _ [gat (kb key) k ^^^ 0x36]) (Nat.le_trans hU.size (by simp)) ?_;intro A3 c3 w3 hO3 hU3 hin3;have hU3':=upd_new (w0:=w1) hU3 (hU.alloc _) (fun i hi=>(hO1'.out.in_ hi).1);have hO2x:=(hO2'.out.ext ((Upd.refl _ wr).alloc (.cells #[by8 (gat (kb key) k ^^^ 0x36)] 5))).upd hU3 Hdis.out)
         | (at_builtin;go_must (refine wpList_apd by8 one8 Try.el8 ((padk key 0x5c).take k) [gat (kb key) k ^^^ 0x5c] ((padk key 0x5c).take (k+1)) (k+1) (pad_step key 0x5c k hlt) (take_len key 0x5c (k+1) hlt) (by omega) (by unfold maxLen;omega) rfl rfl rfl (take_len key 0x5c k hk) (hO2x.ext ((Upd.refl _ _).alloc _)) rfl rfl (Sl.new by8 _ _ [gat (kb key) k ^^^ 0x5c]) (Nat.le_trans hU3'.size (by simp)) ?_);intro A4 c4 w4 hO4 hU4 hin4))
        have hd43:∀i,inA A4 i→¬inA A3 i:=fun i h4 h3=>by
          have h3s:=(hO3.in_ h3).2
          rcases hin4 i h4 with h | h
          · rcases hin3 i h3 with h' | h'
            · exact Hdis.out i h h'
            · have:=(hO2'.out.in_ h).2
              simp at h'
              omega
          · simp at h
            omega
        have hO5:=(hO3.ext ((Upd.refl _ w3).alloc (.cells #[by8 (gat (kb key) k ^^^ 0x5c)] 5))).upd hU4 (fun i h3 h2=>by
          rcases hin3 i h3 with h' | h'
          · exact Hdis.out i h2 h'
          · have:=(hO2'.out.in_ h2).2
            simp at h'
            omega)
        have hU5:=upd_new hU4 (hU3'.alloc (.cells #[by8 (gat (kb key) k ^^^ 0x5c)] 5)) (fun i hi=>(hO2'.out.in_ hi).1)
        go_roundw
        case rel=>exact⟨k+1,A3,c3,A4,c4,by omega,by go_num,rfl,rfl,hO5,hO4,hd43,hU5⟩
        case measure=>simp[intOf];omega
      · have hd2:decide ((k:Int)<32)=false:=decide_eq_false (by have:=Hkl.out;omega)
        have hd3:decide (k<32)=false:=decide_eq_false (by have:=Hkl.out;omega)
        have hd4:¬k<32:=by have:=Hkl.out;omega
        have Hz:=hide (show gat (kb key) k=0 from gat_out (by omega))
        go_wp2_with (first
         | (at_builtin;refine wpList_apd (o:=⟨some 32,_,_,_,_,_⟩) by8 one8 Try.el8 ((padk key 0x36).take k) [0x36] ((padk key 0x36).take (k+1)) (k+1) (pad_step0 key 0x36 k hlt Hz.out) (take_len key 0x36 (k+1) hlt) (by omega) (by unfold maxLen;omega) rfl rfl rfl (take_len key 0x36 k hk) (hO1'.out.ext ((Upd.refl _ _).alloc _)) rfl rfl (Sl.new by8 _ _ [0x36]) (Nat.le_trans hU.size (by simp)) ?_;intro A3 c3 w3 hO3 hU3 hin3;have hU3':=upd_new (w0:=w1) hU3 (hU.alloc _) (fun i hi=>(hO1'.out.in_ hi).1);have hO2x:=(hO2'.out.ext ((Upd.refl _ wr).alloc (.cells #[by8 (0x36)] 5))).upd hU3 Hdis.out)
         | (at_builtin;go_must (refine wpList_apd by8 one8 Try.el8 ((padk key 0x5c).take k) [0x5c] ((padk key 0x5c).take (k+1)) (k+1) (pad_step0 key 0x5c k hlt Hz.out) (take_len key 0x5c (k+1) hlt) (by omega) (by unfold maxLen;omega) rfl rfl rfl (take_len key 0x5c k hk) (hO2x.ext ((Upd.refl _ _).alloc _)) rfl rfl (Sl.new by8 _ _ [0x5c]) (Nat.le_trans hU3'.size (by simp)) ?_);intro A4 c4 w4 hO4 hU4 hin4))
        have hd43:∀i,inA A4 i→¬inA A3 i:=fun i h4 h3=>by
          have h3s:=(hO3.in_ h3).2
          rcases hin4 i h4 with h | h
          · rcases hin3 i h3 with h' | h'
            · exact Hdis.out i h h'
            · have:=(hO2'.out.in_ h).2
              simp at h'
              omega
          · simp at h
            omega
        have hO5:=(hO3.ext ((Upd.refl _ w3).alloc (.cells #[by8 (0x5c)] 5))).upd hU4 (fun i h3 h2=>by
          rcases hin3 i h3 with h' | h'
          · exact Hdis.out i h2 h'
          · have:=(hO2'.out.in_ h2).2
            simp at h'
            omega)
        have hU5:=upd_new hU4 (hU3'.alloc (.cells #[by8 (0x5c)] 5)) (fun i hi=>(hO2'.out.in_ hi).1)
        go_roundw
        case rel=>exact⟨k+1,A3,c3,A4,c4,by omega,by go_num,rfl,rfl,hO5,hO4,hd43,hU5⟩
        case measure=>simp[intOf];omega
    · obtain rfl:k=64:=by omega
      clear hk hlt
      have hp1:=hO1'.out.mpt (take_len key 0x36 64 (Nat.le_refl _))
      have hp2:=hO2'.out.mpt (take_len key 0x5c 64 (Nat.le_refl _))
      rw[show(padk key 0x36).take 64=padk key 0x36 from List.take_of_length_le (by rw[padk_length];omega)]at hp1
      rw[show(padk key 0x5c).take 64=padk key 0x5c from List.take_of_length_le (by rw[padk_length];omega)]at hp2
      have Hp1:=hide hp1
      have Hp2:=hide hp2
      have hUx:=hUw.trans hU
      clear hp1 hp2 hO1' hO2' Hdis hU hKs Hkl hUw
      go_wp2_with fail
      refine(join_any _ 2 2 [⟨A1,64,c1,padk key 0x36⟩,⟨D,m,d,msg⟩] (64+m) _ (Pts.two _ _ ⟨A1,64,c1,padk key 0x36⟩ ⟨D,m,d,msg⟩ Hp1.out ⟨HS'.out.ext hUx,Hn'.out,hd_,Hd'.out⟩) rfl (by rw[flat2,List.length_append,padk_length,Hn'.out]) (by omega) (by simp[maxLen])).mono ?_
      rintro e w3 ⟨A3,c3,rfl,hO3,hU3⟩
      rw[flat2]at hO3
      have hS3:=hide hO3.sl
      have hU3x:=((Upd.refl _ wr).alloc (.cells #[.slice A1 64 c1,.slice D m d] 23)).trans hU3
      clear hO3 hU3
      go_wp2_with fail
      refine(rsum_any A3 (64+m) c3 (padk key 0x36++msg) w3 hS3.out (by rw[List.length_append,padk_length,Hn'.out]) (by omega)).mono ?_
      rintro e w4 ⟨A4,c4,rfl,hO4,hU4⟩
      have hp4:=hide (hO4.mpt (sum_length (padk key 0x36++msg)))
      have hU4x:=hU3x.trans hU4
      clear hO4 hU4 hS3 hU3x
      go_wp2_with fail
      refine(join_any _ 2 2 [⟨A2,64,c2,padk key 0x5c⟩,⟨A4,32,c4,inner key msg⟩] 96 _ (Pts.two _ _ ⟨A2,64,c2,padk key 0x5c⟩ ⟨A4,32,c4,inner key msg⟩ (Hp2.out.ext hU4x) hp4.out) rfl (by rw[flat2,List.length_append,padk_length];unfold inner;rw[sum_length]) (by omega) (by simp[maxLen])).mono ?_
      rintro e w5 ⟨A5,c5,rfl,hO5,hU5⟩
      rw[flat2]at hO5
      have hS5:=hide hO5.sl
      have hU5x:=hU4x.trans (((Upd.refl _ w4).alloc (.cells #[.slice A2 64 c2,.slice A4 32 c4] 23)).trans hU5)
      clear hO5 hU5 hp4 hU4x
      go_wp2_with fail
      refine(rsum_any A5 96 c5 (padk key 0x5c++inner key msg) w5 hS5.out (by rw[List.length_append,padk_length];unfold inner;rw[sum_length]) (by omega)).mono ?_
      rintro e w6 ⟨A6,c6,rfl,hO6,hU6⟩
      have hO6':=hide hO6
      clear hO6 hS5
      go_wp2_with fail
      go_ret
      exact⟨A6,c6,rfl,hO6'.out.mono (hUx.trans hU5x).size,(hUx.trans hU5x).trans hU6⟩
 · have hd0:decide ((64:Int)<(n:Int))=false:=decide_eq_false (by omega)
   have hke:kb key=key:=by unfold kb;rw[if_neg (by rw[Hn.out];exact h64)]
   have hkl:(kb key).length=n:=by rw[hke];exact Hn.out
   have hKs:Hid (Sl by8 w A (kb key)):=hide (by rw[hke];exact HS.out)
   have Hkl:=hide hkl
   have hUw:Ext w w:=Upd.refl _ _
   clear hke hkl
   go_enter Try.func76,Try.ntmps76
   go_wp2_with fail
   have hini:∀i,inA (some ⟨w.heap.size+1,0,none⟩) i→¬inA (some ⟨w.heap.size,0,none⟩) i:=fun i h1 h2=>by simp[inA]at h1 h2;omega
   have hO1i:Own ((w.alloc (.cells #[] 5)).alloc (.cells #[] 5)) w.heap.size 5 (some ⟨w.heap.size,0,none⟩) 0 (((padk key 0x36).take 0).map by8):=(rep_nil w (Nat.le_refl _)).ext ((Upd.refl _ _).alloc _)
   have hO2i:Own ((w.alloc (.cells #[] 5)).alloc (.cells #[] 5)) w.heap.size 5 (some ⟨w.heap.size+1,0,none⟩) 0 (((padk key 0x5c).take 0).map by8):=by
    have:=rep_nil (w.alloc (.cells #[] 5)) (B:=w.heap.size) (by simp)
    rw[show(w.alloc (.cells #[] 5)).heap.size=w.heap.size+1 by simp]at this
    exact this
   go_loopw [7,5,6,8] (fun i v u _ wx=>∃k A1 c1 A2 c2,k≤64∧i=.int .i64 (k:Nat)∧v=.slice A1 k c1∧u=.slice A2 k c2∧Own wx w.heap.size 5 A1 c1 (((padk key 0x36).take k).map by8)∧Own wx w.heap.size 5 A2 c2 (((padk key 0x5c).take k).map by8)∧(∀i,inA A2 i→¬inA A1 i)∧Ext w wx) (fun i _ _ _ _=>64 - (intOf i).toNat)
   case atStart=>exact⟨0,_,_,_,_,by omega,rfl,rfl,rfl,hO1i,hO2i,hini,((Upd.refl _ _).alloc _).alloc _⟩
   case round=>
    clear hini hO1i hO2i
    obtain⟨k,A1,c1,A2,c2,hk,rfl,rfl,rfl,hO1,hO2,hdis,hU⟩:=hrel
    have hO1':=hide hO1
    have hO2':=hide hO2
    have Hdis:=hide hdis
    clear hO1 hO2 hdis
    by_cases hlt:k<64
    · have hlti:(k:Int)<64:=by omega
      have hd:decide ((k:Int)<64)=true:=decide_eq_true (by omega)
      by_cases hkl:k<(kb key).length
      · have hd2:decide ((k:Int)<n)=true:=decide_eq_true (by have:=Hkl.out;omega)
        have hk2:(k:Int)<n:=by have:=Hkl.out;omega
        obtain⟨b,o,rfl,_,hc⟩:=(hKs.out.ext hU).open_ (by omega)
        have ck:=hc k hkl
        unfold by8 at ck
        clear hc
        go_wp2_with (first
         | (at_builtin;refine wpList_apd (o:=⟨some 32,_,_,_,_,_⟩) by8 one8 Try.el8 ((padk key 0x36).take k) [gat (kb key) k ^^^ 0x36] ((padk key 0x36).take (k+1)) (k+1) (pad_step key 0x36 k hlt) (take_len key 0x36 (k+1) hlt) (by omega) (by unfold maxLen;omega) rfl rfl rfl (take_len key 0x36 k hk) (hO1'.out.ext ((Upd.refl _ _).alloc _)) rfl rfl (Sl.new by8 _ _ [gat (kb key) k ^^^ 0x36]) (Nat.le_trans hU.size (by simp)) ?_;intro A3 c3 w3 hO3 hU3 hin3;have hU3':=upd_new (w0:=w) hU3 (hU.alloc _) (fun i hi=>(hO1'.out.in_ hi).1);have hO2x:=(hO2'.out.ext ((Upd.refl _ wr).alloc (.cells #[by8 (gat (kb key) k ^^^ 0x36)] 5))).upd hU3 Hdis.out)
         | (at_builtin;go_must (refine wpList_apd by8 one8 Try.el8 ((padk key 0x5c).take k) [gat (kb key) k ^^^ 0x5c] ((padk key 0x5c).take (k+1)) (k+1) (pad_step key 0x5c k hlt) (take_len key 0x5c (k+1) hlt) (by omega) (by unfold maxLen;omega) rfl rfl rfl (take_len key 0x5c k hk) (hO2x.ext ((Upd.refl _ _).alloc _)) rfl rfl (Sl.new by8 _ _ [gat (kb key) k ^^^ 0x5c]) (Nat.le_trans hU3'.size (by simp)) ?_);intro A4 c4 w4 hO4 hU4 hin4))
        have hd43:∀i,inA A4 i→¬inA A3 i:=fun i h4 h3=>by
          have h3s:=(hO3.in_ h3).2
          rcases hin4 i h4 with h | h
          · rcases hin3 i h3 with h' | h'
            · exact Hdis.out i h h'
            · have:=(hO2'.out.in_ h).2
              simp at h'
              omega
          · simp at h
            omega
        have hO5:=(hO3.ext ((Upd.refl _ w3).alloc (.cells #[by8 (gat (kb key) k ^^^ 0x5c)] 5))).upd hU4 (fun i h3 h2=>by
          rcases hin3 i h3 with h' | h'
          · exact Hdis.out i h2 h'
          · have:=(hO2'.out.in_ h2).2
            simp at h'
            omega)
        have hU5:=upd_new hU4 (hU3'.alloc (.cells #[by8 (gat (kb key) k ^^^ 0x5c)] 5)) (fun i hi=>(hO2'.out.in_ hi).1)
        go_roundw
        case rel=>exact⟨k+1,A3,c3,A4,c4,by omega,by go_num,rfl,rfl,hO5,hO4,hd43,hU5⟩
        case measure=>simp[intOf];omega
      · have hd2:decide ((k:Int)<n)=false:=decide_eq_false (by have:=Hkl.out;omega)
        have hd3:decide (k<n)=false:=decide_eq_false (by have:=Hkl.out;omega)
        have hd4:¬k<n:=by have:=Hkl.out;omega
        have Hz:=hide (show gat (kb key) k=0 from gat_out (by omega))
        go_wp2_with (first
         | (at_builtin;refine wpList_apd (o:=⟨some 32,_,_,_,_,_⟩) by8 one8 Try.el8 ((padk key 0x36).take k) [0x36] ((padk key 0x36).take (k+1)) (k+1) (pad_step0 key 0x36 k hlt Hz.out) (take_len key 0x36 (k+1) hlt) (by omega) (by unfold maxLen;omega) rfl rfl rfl (take_len key 0x36 k hk) (hO1'.out.ext ((Upd.refl _ _).alloc _)) rfl rfl (Sl.new by8 _ _ [0x36]) (Nat.le_trans hU.size (by simp)) ?_;intro A3 c3 w3 hO3 hU3 hin3;have hU3':=upd_new (w0:=w) hU3 (hU.alloc _) (fun i hi=>(hO1'.out.in_ hi).1);have hO2x:=(hO2'.out.ext ((Upd.refl _ wr).alloc (.cells #[by8 (0x36)] 5))).upd hU3 Hdis.out)
         | (at_builtin;go_must (refine wpList_apd by8 one8 Try.el8 ((padk key 0x5c).take k) [0x5c] ((padk key 0x5c).take (k+1)) (k+1) (pad_step0 key 0x5c k hlt Hz.out) (take_len key 0x5c (k+1) hlt) (by omega) (by unfold maxLen;omega) rfl rfl rfl (take_len key 0x5c k hk) (hO2x.ext ((Upd.refl _ _).alloc _)) rfl rfl (Sl.new by8 _ _ [0x5c]) (Nat.le_trans hU3'.size (by simp)) ?_);intro A4 c4 w4 hO4 hU4 hin4))
        have hd43:∀i,inA A4 i→¬inA A3 i:=fun i h4 h3=>by
          have h3s:=(hO3.in_ h3).2
          rcases hin4 i h4 with h | h
          · rcases hin3 i h3 with h' | h'
            · exact Hdis.out i h h'
            · have:=(hO2'.out.in_ h).2
              simp at h'
              omega
          · simp at h
            omega
        have hO5:=(hO3.ext ((Upd.refl _ w3).alloc (.cells #[by8 (0x5c)] 5))).upd hU4 (fun i h3 h2=>by
          rcases hin3 i h3 with h' | h'
          · exact Hdis.out i h2 h'
          · have:=(hO2'.out.in_ h2).2
            simp at h'
            omega)
        have hU5:=upd_new hU4 (hU3'.alloc (.cells #[by8 (0x5c)] 5)) (fun i hi=>(hO2'.out.in_ hi).1)
        go_roundw
        case rel=>exact⟨k+1,A3,c3,A4,c4,by omega,by go_num,rfl,rfl,hO5,hO4,hd43,hU5⟩
        case measure=>simp[intOf];omega
    · obtain rfl:k=64:=by omega
      clear hk hlt
      have hp1:=hO1'.out.mpt (take_len key 0x36 64 (Nat.le_refl _))
      have hp2:=hO2'.out.mpt (take_len key 0x5c 64 (Nat.le_refl _))
      rw[show(padk key 0x36).take 64=padk key 0x36 from List.take_of_length_le (by rw[padk_length];omega)]at hp1
      rw[show(padk key 0x5c).take 64=padk key 0x5c from List.take_of_length_le (by rw[padk_length];omega)]at hp2
      have Hp1:=hide hp1
      have Hp2:=hide hp2
      have hUx:=hUw.trans hU
      clear hp1 hp2 hO1' hO2' Hdis hU hKs Hkl hUw
      go_wp2_with fail
      refine(join_any _ 2 2 [⟨A1,64,c1,padk key 0x36⟩,⟨D,m,d,msg⟩] (64+m) _ (Pts.two _ _ ⟨A1,64,c1,padk key 0x36⟩ ⟨D,m,d,msg⟩ Hp1.out ⟨HS'.out.ext hUx,Hn'.out,hd_,Hd'.out⟩) rfl (by rw[flat2,List.length_append,padk_length,Hn'.out]) (by omega) (by simp[maxLen])).mono ?_
      rintro e w3 ⟨A3,c3,rfl,hO3,hU3⟩
      rw[flat2]at hO3
      have hS3:=hide hO3.sl
      have hU3x:=((Upd.refl _ wr).alloc (.cells #[.slice A1 64 c1,.slice D m d] 23)).trans hU3
      clear hO3 hU3
      go_wp2_with fail
      refine(rsum_any A3 (64+m) c3 (padk key 0x36++msg) w3 hS3.out (by rw[List.length_append,padk_length,Hn'.out]) (by omega)).mono ?_
      rintro e w4 ⟨A4,c4,rfl,hO4,hU4⟩
      have hp4:=hide (hO4.mpt (sum_length (padk key 0x36++msg)))
      have hU4x:=hU3x.trans hU4
      clear hO4 hU4 hS3 hU3x
      go_wp2_with fail
      refine(join_any _ 2 2 [⟨A2,64,c2,padk key 0x5c⟩,⟨A4,32,c4,inner key msg⟩] 96 _ (Pts.two _ _ ⟨A2,64,c2,padk key 0x5c⟩ ⟨A4,32,c4,inner key msg⟩ (Hp2.out.ext hU4x) hp4.out) rfl (by rw[flat2,List.length_append,padk_length];unfold inner;rw[sum_length]) (by omega) (by simp[maxLen])).mono ?_
      rintro e w5 ⟨A5,c5,rfl,hO5,hU5⟩
      rw[flat2]at hO5
      have hS5:=hide hO5.sl
      have hU5x:=hU4x.trans (((Upd.refl _ w4).alloc (.cells #[.slice A2 64 c2,.slice A4 32 c4] 23)).trans hU5)
      clear hO5 hU5 hp4 hU4x
      go_wp2_with fail
      refine(rsum_any A5 96 c5 (padk key 0x5c++inner key msg) w5 hS5.out (by rw[List.length_append,padk_length];unfold inner;rw[sum_length]) (by omega)).mono ?_
      rintro e w6 ⟨A6,c6,rfl,hO6,hU6⟩
      have hO6':=hide hO6
      clear hO6 hS5
      go_wp2_with fail
      go_ret
      exact⟨A6,c6,rfl,hO6'.out.mono (hUx.trans hU5x).size,(hUx.trans hU5x).trans hU6⟩
end Go.Proofs.Ytbhhjfhepkbfgaa
